/- Contracts of cmp and claims. -/
import Derived.Test.YtiegdpmkgegbaaaEng14
import Derived.Test.YtiegdpmkgegbaaaTab
set_option linter.unusedSimpArgs false
set_option linter.unusedVariables false
namespace Go.Proofs.Ytiegdpmkgegbaaa
open Go.RowKit Go.Shelf
set_option maxRecDepth 100000

structure Cl where
  id : Int
  roles : Int
  exp : Int
  ser : Int
  deriving DecidableEq
instance : Inhabited Cl := ⟨⟨0, 0, 0, 0⟩⟩
def Cl.v (c : Cl) : List Value := [.int .i64 c.id, .int .i64 c.roles, .int .i64 c.exp, .int .i64 c.ser]
def Cl.right (c : Cl) : Prop := 1 ≤ c.id ∧ c.id ≤ 65535 ∧ 0 ≤ c.roles ∧ c.roles ≤ 255 ∧ 0 ≤ c.exp ∧ c.exp ≤ 1073741824 ∧ 1 ≤ c.ser ∧ c.ser ≤ 65535
instance (c : Cl) : Decidable c.right := by unfold Cl.right; infer_instance

theorem spans_ok (a b c d : Int) : CallP Try.prog 56 [.agg ⟨[.int .i64 a, .int .i64 b, .int .i64 c, .int .i64 d]⟩]
    (.agg ⟨[.int .i64 a, .int .i64 1, .int .i64 65535, .int .i64 b, .int .i64 0, .int .i64 255, .int .i64 c, .int .i64 0, .int .i64 1073741824, .int .i64 d, .int .i64 1, .int .i64 65535]⟩) := by
  refine enterP (tb := tb) Try.func56 rfl Try.ntmps56 rfl fun w => ?_
  repeat' (first | (apply R.is1; first | (apply R.pure; exact rfl; first | (apply Ok1.fieldAddr; (iterate 5 exact rfl)) | (apply Ok1.load; exact rfl; (apply Ld.own1; exact rfl; exact rfl; (focus ((repeat' (first | exact At.head | apply At.tail)); done)); exact rfl)) | (apply Ok1.build; (iterate 5 exact rfl)) | (apply Ok1.buildA; (iterate 6 exact rfl))) | (apply R.box; (iterate 3 exact rfl); intro) | (apply R.alloc; (iterate 3 exact rfl); intro)) | (apply R.is0; (apply R.store; (iterate 6 exact rfl); exact Upd.head; exact rfl)) | apply R.nil | (apply T.is; first | apply T.seq | apply T.region | apply T.ret))
  (apply RetOk.c; exact rfl; ((apply Ld.ownk; exact rfl; exact rfl; exact At.head; exact rfl)))
  rfl
theorem check_ok (a b c d : Int) : CallP Try.prog 44 [.agg ⟨[.int .i64 a, .int .i64 b, .int .i64 c, .int .i64 d]⟩] (.int .i64 (if Cl.right ⟨a, b, c, d⟩ then 0 else 10)) := by
  refine enterP (tb := tb) Try.func44 rfl Try.ntmps44 rfl fun w => ?_
  repeat' (first | (apply R.is1; first | (apply R.isBin; first | (apply R.pure; exact rfl; first | (apply Ok1.add64; exact rfl; exact rfl; omega; omega) | (apply Ok1.lss_t; exact rfl; exact rfl; omega) | (apply Ok1.lss_f; exact rfl; exact rfl; omega)) | (apply R.leq rfl rfl rfl <;> intro) | (apply R.geq rfl rfl rfl <;> intro)) | (apply R.isCall; apply R.callP rfl rfl rfl (spans_ok _ _ _ _)) | (apply R.pure; exact rfl; first | (apply Ok1.move; exact rfl) | (apply Ok1.fieldAddr; (iterate 5 exact rfl)) | (apply Ok1.load; exact rfl; first | (apply Ld.own1; exact rfl; exact rfl; exact At.head; exact rfl) | (apply Ld.ownk; exact rfl; exact rfl; exact At.head; exact rfl)) | (apply Ok1.assign; exact rfl) | (apply Ok1.pick_t; exact rfl; exact rfl) | (apply Ok1.pick_f; exact rfl; exact rfl) | (apply Ok1.indexk; (iterate 6 exact rfl); omega; omega; exact rfl)) | (apply R.box; (iterate 3 exact rfl); intro) | (apply R.alloc; (iterate 3 exact rfl); intro)) | (apply R.is0; (apply R.store; (iterate 6 exact rfl); exact Upd.head; exact rfl)) | (apply R.isG; first | (apply R.guard_run; exact rfl; exact rfl) | (apply R.guard_not; (iterate 3 exact rfl))) | apply R.nil | (apply T.is; first | apply T.rounds 5 | apply T.seq | apply T.region | apply T.block | apply T.scope | apply T.label | apply T.skip | apply T.exit | apply T.ret | (apply T.cond_t; exact rfl) | (apply T.cond_f; exact rfl)))
  all_goals (apply RetOk.t; exact rfl)
  all_goals first | rw [if_pos (by simp only [Cl.right]; omega)] | rw [if_neg (by simp only [Cl.right]; omega)]

def cmpI (x y : Int) : Int := if x < y then -1 else if y < x then 1 else 0
theorem isNaN_ok (x : Int) : CallP Try.prog 85 [.int .i64 x] (.bool false) := by
  refine enterP (tb := tb) Try.func85 rfl Try.ntmps85 rfl fun w => ?_
  repeat' (first | (apply R.is1; first | (apply R.isBin; (apply R.pure; exact rfl; (apply Ok1.neq_f; exact rfl; exact rfl; omega))) | (apply R.pure; exact rfl; first | (apply Ok1.move; exact rfl) | (apply Ok1.assign; exact rfl))) | apply R.nil | (apply T.is; first | apply T.seq | apply T.region | apply T.ret))
  (apply RetOk.t; exact rfl)
  rfl
theorem cmp_ok (x y : Int) : CallP Try.prog 65 [.int .i64 x, .int .i64 y] (.int .i64 (cmpI x y)) := by
  refine enterP (tb := tb) Try.func65 rfl Try.ntmps65 rfl fun w => ?_
  repeat' (first | (apply R.is1; first | (apply R.isBin; first | (apply R.lss rfl rfl rfl <;> intro) | (apply R.gtr rfl rfl rfl <;> intro)) | (apply R.isCall; apply R.callP rfl rfl rfl (isNaN_ok _)) | (apply R.pure; exact rfl; first | (apply Ok1.move; exact rfl) | (apply Ok1.assign; exact rfl))) | apply R.nil | (apply T.is; first | apply T.seq | apply T.region | apply T.skip | apply T.ret | (apply T.cond_t; exact rfl) | (apply T.cond_f; exact rfl)))
  all_goals (apply RetOk.t; exact rfl)
  all_goals simp only [cmpI]
  all_goals first | rw [if_pos (by omega)] | (rw [if_neg (by omega), if_pos (by omega)]) | (rw [if_neg (by omega), if_neg (by omega)])
def or4 (a b c d : Int) : Int := if a ≠ 0 then a else if b ≠ 0 then b else if c ≠ 0 then c else d
theorem or_ok (a b c d : Int) (bl e : Nat) (w : World) (hb : w.heap[bl]? = some (.cells ⟨[.int .i64 a, .int .i64 b, .int .i64 c, .int .i64 d]⟩ e (0, 0))) :
    CallW Try.prog 64 [.slice (some ⟨bl, 0, none⟩) 4 4] w fun v _ => v = .int .i64 (or4 a b c d) := by
  refine enterW (tb := tb) Try.func64 rfl Try.ntmps64 rfl ?_
  repeat' (first | (apply R.is1; first | (apply R.isBin; first | (apply R.pure; exact rfl; first | (apply Ok1.add64; exact rfl; exact rfl; omega; omega) | (apply Ok1.lss_t; exact rfl; exact rfl; omega) | (apply Ok1.lss_f; exact rfl; exact rfl; omega)) | (apply R.neq rfl rfl rfl <;> intro)) | (apply R.isCall; (apply R.pure; exact rfl; (apply Ok1.lenS; (iterate 3 exact rfl)))) | (apply R.pure; exact rfl; first | (apply Ok1.move; exact rfl) | (apply Ok1.load; exact rfl; (apply Ld.blk1; exact rfl; exact rfl; assumption; (exact List.not_mem_nil); exact rfl)) | (apply Ok1.assign; exact rfl) | (apply Ok1.indexAddr; (iterate 5 exact rfl); omega; omega))) | apply R.nil | (apply T.is; first | apply T.rounds 5 | apply T.seq | apply T.region | apply T.block | apply T.skip | apply T.exit | apply T.ret | (apply T.cond_t; exact rfl) | (apply T.cond_f; exact rfl)))
  all_goals (apply RetOk.t; exact rfl)
  all_goals simp only [or4]
  all_goals first | (rw [if_pos (by omega)]; done) | (rw [if_neg (by omega), if_pos (by omega)]; done) | (rw [if_neg (by omega), if_neg (by omega), if_pos (by omega)]; done) | (rw [if_neg (by omega), if_neg (by omega), if_neg (by omega)]; first | done | (congr 1; omega))
end Go.Proofs.Ytiegdpmkgegbaaa
