/- Contracts: the document's Outweighs, Check, Times. -/
import Derived.Test.YtdoljkafkpgkbaaC4
set_option linter.unusedSimpArgs false
set_option linter.unusedVariables false
namespace Go.Proofs.Ytdoljkafkpgkbaa
open Go.RowKit Go.Shelf Go.Sort
set_option maxRecDepth 100000

theorem refOutw_ok (a b : Rm) : CallP Try.prog 19 [.agg ⟨a.v⟩, .agg ⟨b.v⟩] (.bool (a.outw b)) := by
  refine enterP (tb := tb) Try.func19 rfl Try.ntmps19 rfl fun w => ?_
  simp only [Rm.v]
  repeat' (first | (apply R.is1; first | (apply R.isBin; first | (apply R.pure; exact rfl; first | (apply Ok1.gtr_t; exact rfl; exact rfl; omega) | (apply Ok1.gtr_f; exact rfl; exact rfl; omega) | (apply Ok1.neq_t; exact rfl; exact rfl; omega) | (apply Ok1.neq_f; exact rfl; exact rfl; omega) | (apply Ok1.neqP; (iterate 5 exact rfl)) | (apply Ok1.neqM; (iterate 5 exact rfl)) | (apply Ok1.neqS; (iterate 5 exact rfl))) | (apply R.gtr rfl rfl rfl <;> intro) | (apply R.neq rfl rfl rfl <;> intro) | (apply R.neqF; (iterate 8 exact rfl); all_goals intro)) | (apply R.pure; exact rfl; first | (apply Ok1.fieldAddr; (iterate 5 exact rfl)) | (apply Ok1.load; exact rfl; first | (apply Ld.own1; exact rfl; exact rfl; (focus ((repeat' (first | exact At.head | apply At.tail | apply At.right)); done)); exact rfl) | (apply Ld.ownk; exact rfl; exact rfl; (focus ((repeat' (first | exact At.head | apply At.tail | apply At.right)); done)); exact rfl) | (apply Ld.old1; exact rfl; exact rfl; assumption; (first | exact List.not_mem_nil | assumption)) | (apply Ld.blk1; exact rfl; exact rfl; assumption; (first | exact List.not_mem_nil | assumption); exact rfl) | (apply Ld.blkk; exact rfl; exact rfl; assumption; (first | exact List.not_mem_nil | assumption); exact rfl)) | (apply Ok1.assign; exact rfl)) | (apply R.box; (iterate 3 exact rfl); intro)) | (apply R.is0; first | fail) | (apply R.isG; first | (apply R.guard_run; exact rfl; exact rfl) | (apply R.guard_not; (iterate 3 exact rfl)) | (apply R.guard_not0; exact rfl; exact rfl) | (apply R.guard_un; (iterate 3 exact rfl)) | (apply R.guard_un0; exact rfl; exact rfl) | (apply R.guard rfl rfl ?_ (fun h => ⟨rfl, ?_⟩) <;> try intro)) | apply R.nil | (apply T.is; first | apply T.seq | apply T.region | apply T.block | apply T.scope | apply T.label | apply T.skip | apply T.exit | apply T.ret | (apply T.cond_t; exact rfl) | (apply T.cond_f; exact rfl) | (apply T.cond_h; exact rfl; assumption) | (apply T.cond_n; exact rfl; assumption) | (apply T.cond rfl <;> intro)) | apply Rnd.step)
  all_goals (apply RetOk.t; exact rfl)
  all_goals congr 1
  all_goals simp only [Rm.outw, ne_eq, clv_inj] at *
  all_goals first
    | (rw [decide_eq_true (by refine ⟨by assumption, ?_⟩; omega)]; done)
    | (rw [decide_eq_false (by rintro ⟨h1, h2⟩; first | contradiction | omega)]; done)
theorem refCheck_ok (r : Rm) : CallP Try.prog 53 [.agg ⟨r.v⟩] (.int .i64 r.chk) := by
  have hR := right_ok r.cl.id r.cl.roles r.cl.exp r.cl.ser
  by_cases hr : r.cl.right
  · have hr' : Cl.right ⟨r.cl.id, r.cl.roles, r.cl.exp, r.cl.ser⟩ := hr
    rw [decide_eq_true hr'] at hR
    refine enterP (tb := tb) Try.func53 rfl Try.ntmps53 rfl fun w => ?_
    simp only [Rm.v]
    repeat' (first | (apply R.is1; first | (apply R.isBin; first | (apply R.pure; exact rfl; first | (apply Ok1.lss_t; exact rfl; exact rfl; omega) | (apply Ok1.lss_f; exact rfl; exact rfl; omega) | (apply Ok1.gtr_t; exact rfl; exact rfl; omega) | (apply Ok1.gtr_f; exact rfl; exact rfl; omega)) | (apply R.lss rfl rfl rfl <;> intro) | (apply R.gtr rfl rfl rfl <;> intro)) | (apply R.isCall; first | apply R.callP rfl rfl rfl hR) | (apply R.pure; exact rfl; first | (apply Ok1.move; exact rfl) | (apply Ok1.fieldAddr; (iterate 5 exact rfl)) | (apply Ok1.load; exact rfl; first | (apply Ld.own1; exact rfl; exact rfl; (focus ((repeat' (first | exact At.head | apply At.tail | apply At.right)); done)); exact rfl) | (apply Ld.ownk; exact rfl; exact rfl; (focus ((repeat' (first | exact At.head | apply At.tail | apply At.right)); done)); exact rfl) | (apply Ld.old1; exact rfl; exact rfl; assumption; (first | exact List.not_mem_nil | assumption)) | (apply Ld.blk1; exact rfl; exact rfl; assumption; (first | exact List.not_mem_nil | assumption); exact rfl) | (apply Ld.blkk; exact rfl; exact rfl; assumption; (first | exact List.not_mem_nil | assumption); exact rfl)) | (apply Ok1.assign; exact rfl) | (apply Ok1.pick_t; exact rfl; exact rfl) | (apply Ok1.pick_f; exact rfl; exact rfl) | (apply Ok1.pick_h; exact rfl; assumption; exact rfl) | (apply Ok1.pick_n; exact rfl; assumption; exact rfl) | (apply Ok1.not_t; exact rfl) | (apply Ok1.not_f; exact rfl) | (apply Ok1.not; exact rfl) | (apply Ok1.neg; exact rfl)) | (apply R.box; (iterate 3 exact rfl); intro)) | (apply R.is0; first | fail) | (apply R.isG; first | (apply R.guard_run; exact rfl; exact rfl) | (apply R.guard_not; (iterate 3 exact rfl)) | (apply R.guard_not0; exact rfl; exact rfl) | (apply R.guard_un; (iterate 3 exact rfl)) | (apply R.guard_un0; exact rfl; exact rfl) | (apply R.guard rfl rfl ?_ (fun h => ⟨rfl, ?_⟩) <;> try intro)) | apply R.nil | (apply T.is; first | apply T.seq | apply T.region | apply T.block | apply T.scope | apply T.label | apply T.skip | apply T.exit | apply T.ret | (apply T.cond_t; exact rfl) | (apply T.cond_f; exact rfl) | (apply T.cond_h; exact rfl; assumption) | (apply T.cond_n; exact rfl; assumption) | (apply T.cond rfl <;> intro)) | apply Rnd.step)
    all_goals (apply RetOk.t; exact rfl)
    all_goals simp only [Rm.chk, hr, not_true, false_or]
    all_goals congr 1
    all_goals repeat' split
    all_goals first | rfl | omega
  · have hr' : ¬ Cl.right ⟨r.cl.id, r.cl.roles, r.cl.exp, r.cl.ser⟩ := hr
    rw [decide_eq_false hr'] at hR
    refine enterP (tb := tb) Try.func53 rfl Try.ntmps53 rfl fun w => ?_
    simp only [Rm.v]
    repeat' (first | (apply R.is1; first | (apply R.isBin; first | (apply R.pure; exact rfl; first | (apply Ok1.lss_t; exact rfl; exact rfl; omega) | (apply Ok1.lss_f; exact rfl; exact rfl; omega) | (apply Ok1.gtr_t; exact rfl; exact rfl; omega) | (apply Ok1.gtr_f; exact rfl; exact rfl; omega)) | (apply R.lss rfl rfl rfl <;> intro) | (apply R.gtr rfl rfl rfl <;> intro)) | (apply R.isCall; first | apply R.callP rfl rfl rfl hR) | (apply R.pure; exact rfl; first | (apply Ok1.move; exact rfl) | (apply Ok1.fieldAddr; (iterate 5 exact rfl)) | (apply Ok1.load; exact rfl; first | (apply Ld.own1; exact rfl; exact rfl; (focus ((repeat' (first | exact At.head | apply At.tail | apply At.right)); done)); exact rfl) | (apply Ld.ownk; exact rfl; exact rfl; (focus ((repeat' (first | exact At.head | apply At.tail | apply At.right)); done)); exact rfl) | (apply Ld.old1; exact rfl; exact rfl; assumption; (first | exact List.not_mem_nil | assumption)) | (apply Ld.blk1; exact rfl; exact rfl; assumption; (first | exact List.not_mem_nil | assumption); exact rfl) | (apply Ld.blkk; exact rfl; exact rfl; assumption; (first | exact List.not_mem_nil | assumption); exact rfl)) | (apply Ok1.assign; exact rfl) | (apply Ok1.pick_t; exact rfl; exact rfl) | (apply Ok1.pick_f; exact rfl; exact rfl) | (apply Ok1.pick_h; exact rfl; assumption; exact rfl) | (apply Ok1.pick_n; exact rfl; assumption; exact rfl) | (apply Ok1.not_t; exact rfl) | (apply Ok1.not_f; exact rfl) | (apply Ok1.not; exact rfl) | (apply Ok1.neg; exact rfl)) | (apply R.box; (iterate 3 exact rfl); intro)) | (apply R.is0; first | fail) | (apply R.isG; first | (apply R.guard_run; exact rfl; exact rfl) | (apply R.guard_not; (iterate 3 exact rfl)) | (apply R.guard_not0; exact rfl; exact rfl) | (apply R.guard_un; (iterate 3 exact rfl)) | (apply R.guard_un0; exact rfl; exact rfl) | (apply R.guard rfl rfl ?_ (fun h => ⟨rfl, ?_⟩) <;> try intro)) | apply R.nil | (apply T.is; first | apply T.seq | apply T.region | apply T.block | apply T.scope | apply T.label | apply T.skip | apply T.exit | apply T.ret | (apply T.cond_t; exact rfl) | (apply T.cond_f; exact rfl) | (apply T.cond_h; exact rfl; assumption) | (apply T.cond_n; exact rfl; assumption) | (apply T.cond rfl <;> intro)) | apply Rnd.step)
    all_goals (apply RetOk.t; exact rfl)
    all_goals simp only [Rm.chk, hr, not_false_eq_true, true_or, if_true]
    all_goals congr 1
    all_goals repeat' split
    all_goals first | rfl | omega
theorem refTimes_ok (n : Int) : CallP Try.prog 40 [.int .i64 n] (.int .i64 (tms n)) := by
  refine enterP (tb := tb) Try.func40 rfl Try.ntmps40 rfl fun w => ?_
  repeat' (first | (apply R.is1; first | (apply R.isBin; first | (apply R.pure; exact rfl; first | (apply Ok1.add64; exact rfl; exact rfl; omega; omega) | (apply Ok1.gtr_t; exact rfl; exact rfl; omega) | (apply Ok1.gtr_f; exact rfl; exact rfl; omega) | (apply Ok1.quo64; exact rfl; exact rfl; omega; omega; omega)) | (apply R.gtr rfl rfl rfl <;> intro)) | (apply R.isCall; first | (apply R.pure; exact rfl; first | (apply Ok1.max2; exact rfl; exact rfl) | (apply Ok1.min2; exact rfl; exact rfl))) | (apply R.pure; exact rfl; first | (apply Ok1.move; exact rfl) | (apply Ok1.assign; exact rfl))) | (apply R.is0; first | fail) | (apply R.isG; first | (apply R.guard_run; exact rfl; exact rfl) | (apply R.guard_not; (iterate 3 exact rfl)) | (apply R.guard_not0; exact rfl; exact rfl) | (apply R.guard_un; (iterate 3 exact rfl)) | (apply R.guard_un0; exact rfl; exact rfl) | (apply R.guard rfl rfl ?_ (fun h => ⟨rfl, ?_⟩) <;> try intro)) | apply R.nil | (apply T.is; first | apply T.seq | apply T.region | apply T.block | apply T.scope | apply T.label | apply T.skip | apply T.exit | apply T.ret | (apply T.cond_t; exact rfl) | (apply T.cond_f; exact rfl) | (apply T.cond_h; exact rfl; assumption) | (apply T.cond_n; exact rfl; assumption) | (apply T.cond rfl <;> intro)) | apply Rnd.step)
  apply T.loopK (α := Nat × Nat) (I := fun q => q.1 ≤ 1073741825 ∧ q.2 ≤ 31 ∧ 3 * ((q.2 : Int) + blen q.1) = tms n) (σi := fun q => [(0, .int .i64 n), (3, .int .i64 q.1), (4, .int .i64 (3 * q.2))]) (Li := fun _ => []) (μ := fun q => q.1) (i0 := ((min (max n 0) 1073741824 + 1).toNat, 0))
  · refine ⟨by simp only; omega, by simp, ?_⟩
    simp only [tms]; omega
  · exact ⟨rfl, by rw [show ((min (max n 0) 1073741824 + 1).toNat : Int) = min (max n 0) 1073741824 + 1 by omega]; rfl, rfl, trivial⟩
  · exact Keep.nil _
  · rintro ⟨x, k⟩ ⟨hx, hk, he⟩
    simp only at hx hk he ⊢
    have hb := blen_le 31 (show x < 2 ^ 31 by omega)
    repeat' (first | (apply R.is1; first | (apply R.isBin; first | (apply R.pure; exact rfl; first | (apply Ok1.add64; exact rfl; exact rfl; omega; omega) | (apply Ok1.gtr_t; exact rfl; exact rfl; omega) | (apply Ok1.gtr_f; exact rfl; exact rfl; omega) | (apply Ok1.quo64; exact rfl; exact rfl; omega; omega; omega)) | (apply R.gtr rfl rfl rfl <;> intro)) | (apply R.isCall; first | (apply R.pure; exact rfl; first | (apply Ok1.max2; exact rfl; exact rfl) | (apply Ok1.min2; exact rfl; exact rfl))) | (apply R.pure; exact rfl; first | (apply Ok1.move; exact rfl) | (apply Ok1.assign; exact rfl))) | (apply R.is0; first | fail) | (apply R.isG; first | (apply R.guard_run; exact rfl; exact rfl) | (apply R.guard_not; (iterate 3 exact rfl)) | (apply R.guard_not0; exact rfl; exact rfl) | (apply R.guard_un; (iterate 3 exact rfl)) | (apply R.guard_un0; exact rfl; exact rfl) | (apply R.guard rfl rfl ?_ (fun h => ⟨rfl, ?_⟩) <;> try intro)) | apply R.nil | (apply T.is; first | apply T.seq | apply T.region | apply T.block | apply T.scope | apply T.label | apply T.skip | apply T.exit | apply T.ret | (apply T.cond_t; exact rfl) | (apply T.cond_f; exact rfl) | (apply T.cond_h; exact rfl; assumption) | (apply T.cond_n; exact rfl; assumption) | (apply T.cond rfl <;> intro)) | apply Rnd.step)
    · have hh := blen_half (x := x) (by omega)
      have h1 : tms n ≤ 93 := by
        have := blen_le 31 (show (min (max n 0) 1073741824 + 1).toNat < 2 ^ 31 by omega)
        unfold tms; omega
      refine ⟨(x / 2, k + 1), ⟨by simp only; omega, by simp only; omega, by simp only; omega⟩, by simp only; omega, ⟨rfl, ?_, ?_, trivial⟩, by (focus ((repeat' (first | exact Keep.nil _ | exact Ext.one _ _ | exact Ext.here _ _ | exact Ext.all _ | apply Keep.cons | apply Keep.app | apply Keep.last | apply Ext.cons | apply Ext.app)); done))⟩
      · simp only [look, Option.some.injEq, Value.int.injEq, true_and]; rfl
      · show some (Value.int .i64 (3 * (k : Int) + 3)) = some (Value.int .i64 (3 * ((k + 1 : Nat) : Int)))
        congr 2
    · (apply RetOk.t; exact rfl)
      have : x = 0 := by omega
      subst this
      rw [show blen 0 = 0 from rfl] at he
      congr 1
end Go.Proofs.Ytdoljkafkpgkbaa
