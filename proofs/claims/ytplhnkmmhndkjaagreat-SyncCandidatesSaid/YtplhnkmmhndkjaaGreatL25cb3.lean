/- Texts of the proof: Wi2, Mc3, Cl1, D0, Eng29, Sl3, Wr2, Pc1, Sl4, Sl6, Rv3. -/
import Derived.Test.YtplhnkmmhndkjaaGreatL25cb2
import Derived.Sort.Statements
import Derived.Shelf.SlSortCmp.Insertion
import Derived.Lib.RowBridge
import Derived.Test.YtplhnkmmhndkjaaGreatShelf
import Derived.Shelf.SortM.Plain
import Derived.Shelf.SortM.SortNone
import Derived.Shelf.SlicesG.CompactI
set_option linter.unusedSimpArgs false
set_option linter.unusedVariables false
namespace Go.Proofs.YtplhnkmmhndkjaaGreat
open Go.RowKit Go.Shelf
def len4 (n : Int) : List Int := [n / 16777216 % 256, n / 65536 % 256, n / 256 % 256, n % 256]
theorem cellsE_slV (ov : Ov) (n : Nat) : cellsE (slV ov n) = some [slV ov n] := by cases ov <;> rfl
theorem one_slV (ov : Ov) (n : Nat) : [slV ov n].all Value.oneCell' = true := by cases ov <;> rfl
end Go.Proofs.YtplhnkmmhndkjaaGreat
set_option linter.unusedSimpArgs false
set_option linter.unusedVariables false
namespace Go.Proofs.YtplhnkmmhndkjaaGreat
open Go.RowKit Go.Shelf
set_option maxRecDepth 100000
def numI (s : Nat) (n : Int) : List Int := match s with
  | 0 => [n % 256]
  | 1 => [n / 256 % 256, n % 256]
  | _ => len4 n
theorem width_ok (s v : Int) (h0 : 0 ≤ s) (h1 : s ≤ 10) (h : IntKind.i64.wrap (1 * pw s.toNat) = v) : CallP Tryz.prog 143 [.int .i64 s] (.int .i64 v) := by
  refine enterP (tb := tb) Tryz.func143 rfl Tryz.ntmps143 rfl fun w => ?_
  have hb : s.toNat ≤ IntKind.i64.bits := by show s.toNat ≤ 64; omega
  repeat' (first | (apply R.is1; first | (apply R.isBin; (apply R.pure; exact rfl; (apply Ok1.shl; exact rfl; exact rfl; omega; exact hb; exact rfl))) | (apply R.pure; exact rfl; first | (apply Ok1.move; exact rfl) | (apply Ok1.assign; exact rfl))) | apply R.nil | (apply T.is; first | apply T.seq | apply T.region | apply T.ret))
  (apply RetOk.t; exact rfl)
  rw [h]
theorem Keep.eq1 {b : Nat} {e : TypeId} {fz : Nat × Nat} {A B : List Value} (h : A = B) : Keep [(b, .cells ⟨A⟩ e fz)] [(b, .cells ⟨B⟩ e fz)] := by subst h; (focus ((repeat' (first | exact Keep.nil _ | exact Ext.one _ _ | apply Keep.cons)); done))
theorem number_ok (s : Nat) (n : Int) (hs : s = 0 ∨ s = 1 ∨ s = 2) (h0 : 0 ≤ n) (h1 : n ≤ 9223372036854775807) (w : World) : CallM Tryz.prog 144 [.int .i64 s, .int .i64 n] [] w fun v L => ∃ b, v = .slice (some ⟨b, 0, none⟩) (numI s n).length (numI s n).length ∧ L = [(b, .cells ⟨u8s (numI s n)⟩ 5 (0, 0))] := by
  have hc : IntKind.u64.wrap n = n := wrap_u64 h0 (by omega)
  rcases hs with rfl | rfl | rfl
  · refine enterK (tb := tb) Tryz.func144 rfl Tryz.ntmps144 rfl ?_
    repeat' (first | (apply R.is1; first | (apply R.make1 (n := 1); (iterate 9 exact rfl); omega; intro bt) | (apply R.isBin; (apply R.pure; exact rfl; first | (apply Ok1.shr; exact rfl; exact rfl; omega; exact Nat.le_of_ble_eq_true rfl; exact rfl) | (apply Ok1.add64; exact rfl; exact rfl; omega; omega) | (apply Ok1.sub64; exact rfl; exact rfl; omega; omega) | (apply Ok1.lss_t; exact rfl; exact rfl; omega) | (apply Ok1.lss_f; exact rfl; exact rfl; omega) | (apply Ok1.mul64; exact rfl; exact rfl; omega; omega))) | (apply R.isCall; first | apply R.callP rfl rfl rfl (width_ok 0 1 (by decide) (by decide) (by decide)) | (apply R.pure; exact rfl; (apply Ok1.lenS; (iterate 3 exact rfl)))) | (apply R.pure; exact rfl; first | (apply Ok1.move; exact rfl) | (apply Ok1.assign; exact rfl) | (apply Ok1.indexAddr; (iterate 5 exact rfl); omega; omega) | (apply Ok1.convU64; (iterate 5 exact rfl); omega; omega) | (apply Ok1.conv; (iterate 5 exact rfl)))) | (apply R.is0; (apply R.store; (iterate 6 exact rfl); exact Upd.head; exact rfl)) | apply R.nil | (apply T.is; first | apply T.rounds 2 | apply T.seq | apply T.region | apply T.block | apply T.skip | apply T.exit | apply T.ret | (apply T.cond_t; exact rfl) | (apply T.cond_f; exact rfl)))
    (apply RetOk.t; exact rfl)
    refine ⟨_, ?_, bt, rfl, rfl⟩
    simp only [u8_mod]
    apply Keep.eq1
    simp [numI, u8s, len4, pw]
  · refine enterK (tb := tb) Tryz.func144 rfl Tryz.ntmps144 rfl ?_
    repeat' (first | (apply R.is1; first | (apply R.make1 (n := 2); (iterate 9 exact rfl); omega; intro bt) | (apply R.isBin; (apply R.pure; exact rfl; first | (apply Ok1.shr; exact rfl; exact rfl; omega; exact Nat.le_of_ble_eq_true rfl; exact rfl) | (apply Ok1.add64; exact rfl; exact rfl; omega; omega) | (apply Ok1.sub64; exact rfl; exact rfl; omega; omega) | (apply Ok1.lss_t; exact rfl; exact rfl; omega) | (apply Ok1.lss_f; exact rfl; exact rfl; omega) | (apply Ok1.mul64; exact rfl; exact rfl; omega; omega))) | (apply R.isCall; first | apply R.callP rfl rfl rfl (width_ok 1 2 (by decide) (by decide) (by decide)) | (apply R.pure; exact rfl; (apply Ok1.lenS; (iterate 3 exact rfl)))) | (apply R.pure; exact rfl; first | (apply Ok1.move; exact rfl) | (apply Ok1.assign; exact rfl) | (apply Ok1.indexAddr; (iterate 5 exact rfl); omega; omega) | (apply Ok1.convU64; (iterate 5 exact rfl); omega; omega) | (apply Ok1.conv; (iterate 5 exact rfl)))) | (apply R.is0; (apply R.store; (iterate 6 exact rfl); exact Upd.head; exact rfl)) | apply R.nil | (apply T.is; first | apply T.rounds 3 | apply T.seq | apply T.region | apply T.block | apply T.skip | apply T.exit | apply T.ret | (apply T.cond_t; exact rfl) | (apply T.cond_f; exact rfl)))
    (apply RetOk.t; exact rfl)
    refine ⟨_, ?_, bt, rfl, rfl⟩
    simp only [u8_mod]
    apply Keep.eq1
    simp [numI, u8s, len4, pw]
  · refine enterK (tb := tb) Tryz.func144 rfl Tryz.ntmps144 rfl ?_
    repeat' (first | (apply R.is1; first | (apply R.make1 (n := 4); (iterate 9 exact rfl); omega; intro bt) | (apply R.isBin; (apply R.pure; exact rfl; first | (apply Ok1.shr; exact rfl; exact rfl; omega; exact Nat.le_of_ble_eq_true rfl; exact rfl) | (apply Ok1.add64; exact rfl; exact rfl; omega; omega) | (apply Ok1.sub64; exact rfl; exact rfl; omega; omega) | (apply Ok1.lss_t; exact rfl; exact rfl; omega) | (apply Ok1.lss_f; exact rfl; exact rfl; omega) | (apply Ok1.mul64; exact rfl; exact rfl; omega; omega))) | (apply R.isCall; first | apply R.callP rfl rfl rfl (width_ok 2 4 (by decide) (by decide) (by decide)) | (apply R.pure; exact rfl; (apply Ok1.lenS; (iterate 3 exact rfl)))) | (apply R.pure; exact rfl; first | (apply Ok1.move; exact rfl) | (apply Ok1.assign; exact rfl) | (apply Ok1.indexAddr; (iterate 5 exact rfl); omega; omega) | (apply Ok1.convU64; (iterate 5 exact rfl); omega; omega) | (apply Ok1.conv; (iterate 5 exact rfl)))) | (apply R.is0; (apply R.store; (iterate 6 exact rfl); exact Upd.head; exact rfl)) | apply R.nil | (apply T.is; first | apply T.rounds 5 | apply T.seq | apply T.region | apply T.block | apply T.skip | apply T.exit | apply T.ret | (apply T.cond_t; exact rfl) | (apply T.cond_f; exact rfl)))
    (apply RetOk.t; exact rfl)
    refine ⟨_, ?_, bt, rfl, rfl⟩
    simp only [u8_mod]
    apply Keep.eq1
    simp [numI, u8s, len4, pw]
end Go.Proofs.YtplhnkmmhndkjaaGreat
set_option linter.unusedSimpArgs false
set_option linter.unusedVariables false
namespace Go.Proofs.YtplhnkmmhndkjaaGreat
open Go.RowKit Go.Shelf
set_option maxRecDepth 100000
/-- A number that fits its size. -/
def Fits (s : Nat) (n : Int) : Prop := 0 ≤ n ∧ (s = 0 ∧ n ≤ 255 ∨ s = 1 ∧ n ≤ 65535 ∨ s = 2 ∧ n ≤ 4294967295)
def fldV (s : Nat) (n : Int) : List Value := [.int .i64 s, .int .i64 n, .slice none 0 0]
theorem wcheck_ok (s : Nat) (n : Int) (h : Fits s n) : CallP Tryz.prog 123 [.agg ⟨fldV s n⟩] (.int .i64 0) := by
  obtain ⟨h0, h⟩ := h
  unfold fldV
  rcases h with ⟨rfl, h1⟩ | ⟨rfl, h1⟩ | ⟨rfl, h1⟩
  · refine enterP (tb := tb) Tryz.func123 rfl Tryz.ntmps123 rfl fun w => ?_
    repeat' (first | (apply R.is1; first | (apply R.isBin; (apply R.pure; exact rfl; first | (apply Ok1.lss_t; exact rfl; exact rfl; omega) | (apply Ok1.lss_f; exact rfl; exact rfl; omega) | (apply Ok1.gtr_f; exact rfl; exact rfl; omega) | (apply Ok1.eql_f; exact rfl; exact rfl; omega))) | (apply R.isCall; (apply R.pure; exact rfl; (apply Ok1.lenS; (iterate 3 exact rfl)))) | (apply R.pure; exact rfl; first | (apply Ok1.move; exact rfl) | (apply Ok1.fieldAddr; (iterate 5 exact rfl)) | (apply Ok1.load; exact rfl; (apply Ld.own1; exact rfl; exact rfl; exact At.head; exact rfl)) | (apply Ok1.assign; exact rfl) | (apply Ok1.pick_t; exact rfl; exact rfl) | (apply Ok1.pick_f; exact rfl; exact rfl)) | (apply R.box; (iterate 3 exact rfl); intro)) | (apply R.isG; first | (apply R.guard_run; exact rfl; exact rfl) | (apply R.guard_not; (iterate 3 exact rfl))) | apply R.nil | (apply T.is; first | (apply T.drawC (id := 5) [0] (by decide); ((apply A.take 0; exact rfl; exact rfl; kernel_rfl; kernel_rfl; kernel_rfl; (apply Ok1.fieldAddr; (iterate 5 exact rfl))) <;> (apply A.take 1; exact rfl; exact rfl; kernel_rfl; kernel_rfl; kernel_rfl; (apply Ok1.load; exact rfl; (apply Ld.own1; exact rfl; exact rfl; exact At.head; exact rfl))) <;> ((apply A.take 2; exact rfl; exact rfl; kernel_rfl; kernel_rfl; kernel_rfl; (apply Ok1.lss_f; exact rfl; exact rfl; omega))) <;> (apply A.take 3; exact rfl; exact rfl; kernel_rfl; kernel_rfl; kernel_rfl; (apply Ok1.move; exact rfl)) <;> ((apply A.takeG 4; exact rfl; exact rfl; rotate_left 3; exact rfl; exact rfl; rotate_right 3; kernel_rfl; kernel_rfl; kernel_rfl; (apply Ok1.fieldAddr; (iterate 5 exact rfl)))) <;> ((apply A.takeG 5; exact rfl; exact rfl; rotate_left 3; exact rfl; exact rfl; rotate_right 3; kernel_rfl; kernel_rfl; kernel_rfl; (apply Ok1.load; exact rfl; (apply Ld.own1; exact rfl; exact rfl; exact At.head; exact rfl)))) <;> ((apply A.takeG 6; exact rfl; exact rfl; rotate_left 3; exact rfl; exact rfl; rotate_right 3; kernel_rfl; kernel_rfl; kernel_rfl; (apply Ok1.lss_t; exact rfl; exact rfl; omega))) <;> ((apply A.takeG 7; exact rfl; exact rfl; rotate_left 3; exact rfl; exact rfl; rotate_right 3; kernel_rfl; kernel_rfl; kernel_rfl; (apply Ok1.move; exact rfl))) <;> ((apply A.takeG 8; exact rfl; exact rfl; rotate_left 3; exact rfl; exact rfl; rotate_right 3; kernel_rfl; kernel_rfl; kernel_rfl; (apply Ok1.fieldAddr; (iterate 5 exact rfl)))) <;> ((apply A.takeG 9; exact rfl; exact rfl; rotate_left 3; exact rfl; exact rfl; rotate_right 3; kernel_rfl; kernel_rfl; kernel_rfl; (apply Ok1.load; exact rfl; (apply Ld.own1; exact rfl; exact rfl; exact At.head; exact rfl)))) <;> ((apply A.takeG 10; exact rfl; exact rfl; rotate_left 3; exact rfl; exact rfl; rotate_right 3; kernel_rfl; kernel_rfl; kernel_rfl; (apply Ok1.fieldAddr; (iterate 5 exact rfl)))) <;> ((apply A.takeG 11; exact rfl; exact rfl; rotate_left 3; exact rfl; exact rfl; rotate_right 3; kernel_rfl; kernel_rfl; kernel_rfl; (apply Ok1.load; exact rfl; (apply Ld.own1; exact rfl; exact rfl; exact At.head; exact rfl)))) <;> (apply A.one 12; kernel_rfl; exact rfl; (((apply R.isG; apply R.guard_run; exact rfl; exact rfl; (apply R.callP rfl rfl rfl (width_ok 0 1 (by decide) (by decide) (by decide)))))); apply R.nil; refine ⟨?_, ?_⟩; (focus ((repeat' (first | exact trivial | (refine ⟨?_, ?_⟩; exact At.head)))))) <;> ((apply A.takeG 13; exact rfl; exact rfl; rotate_left 3; exact rfl; exact rfl; rotate_right 3; kernel_rfl; kernel_rfl; kernel_rfl; (apply Ok1.mul64; exact rfl; exact rfl; omega; omega))) <;> ((apply A.takeG 14; exact rfl; exact rfl; rotate_left 3; exact rfl; exact rfl; rotate_right 3; kernel_rfl; kernel_rfl; kernel_rfl; (apply Ok1.shr (m := 256); exact rfl; exact rfl; omega; exact Nat.le_of_ble_eq_true rfl; exact rfl))) <;> ((apply A.takeG 15; exact rfl; exact rfl; rotate_left 3; exact rfl; exact rfl; rotate_right 3; kernel_rfl; kernel_rfl; kernel_rfl; (apply Ok1.neq_f; exact rfl; exact rfl; omega))) <;> ((apply A.takeG 16; exact rfl; exact rfl; rotate_left 3; exact rfl; exact rfl; rotate_right 3; kernel_rfl; kernel_rfl; kernel_rfl; (apply Ok1.pick_t; exact rfl; exact rfl))) <;> (apply A.take 17; exact rfl; exact rfl; kernel_rfl; kernel_rfl; kernel_rfl; (apply Ok1.pick_f; exact rfl; exact rfl)) <;> (apply A.take 18; exact rfl; exact rfl; kernel_rfl; kernel_rfl; kernel_rfl; (apply Ok1.assign; exact rfl)) <;> (apply A.done; kernel_rfl))) | apply T.seq | apply T.region | apply T.block | apply T.skip | apply T.ret | (apply T.cond_f; exact rfl)))
    (apply RetOk.t; exact rfl)
    rfl
  · refine enterP (tb := tb) Tryz.func123 rfl Tryz.ntmps123 rfl fun w => ?_
    repeat' (first | (apply R.is1; first | (apply R.isBin; (apply R.pure; exact rfl; first | (apply Ok1.lss_t; exact rfl; exact rfl; omega) | (apply Ok1.lss_f; exact rfl; exact rfl; omega) | (apply Ok1.gtr_f; exact rfl; exact rfl; omega) | (apply Ok1.eql_f; exact rfl; exact rfl; omega))) | (apply R.isCall; (apply R.pure; exact rfl; (apply Ok1.lenS; (iterate 3 exact rfl)))) | (apply R.pure; exact rfl; first | (apply Ok1.move; exact rfl) | (apply Ok1.fieldAddr; (iterate 5 exact rfl)) | (apply Ok1.load; exact rfl; (apply Ld.own1; exact rfl; exact rfl; exact At.head; exact rfl)) | (apply Ok1.assign; exact rfl) | (apply Ok1.pick_t; exact rfl; exact rfl) | (apply Ok1.pick_f; exact rfl; exact rfl)) | (apply R.box; (iterate 3 exact rfl); intro)) | (apply R.isG; first | (apply R.guard_run; exact rfl; exact rfl) | (apply R.guard_not; (iterate 3 exact rfl))) | apply R.nil | (apply T.is; first | (apply T.drawC (id := 5) [0] (by decide); ((apply A.take 0; exact rfl; exact rfl; kernel_rfl; kernel_rfl; kernel_rfl; (apply Ok1.fieldAddr; (iterate 5 exact rfl))) <;> (apply A.take 1; exact rfl; exact rfl; kernel_rfl; kernel_rfl; kernel_rfl; (apply Ok1.load; exact rfl; (apply Ld.own1; exact rfl; exact rfl; exact At.head; exact rfl))) <;> ((apply A.take 2; exact rfl; exact rfl; kernel_rfl; kernel_rfl; kernel_rfl; (apply Ok1.lss_f; exact rfl; exact rfl; omega))) <;> (apply A.take 3; exact rfl; exact rfl; kernel_rfl; kernel_rfl; kernel_rfl; (apply Ok1.move; exact rfl)) <;> ((apply A.takeG 4; exact rfl; exact rfl; rotate_left 3; exact rfl; exact rfl; rotate_right 3; kernel_rfl; kernel_rfl; kernel_rfl; (apply Ok1.fieldAddr; (iterate 5 exact rfl)))) <;> ((apply A.takeG 5; exact rfl; exact rfl; rotate_left 3; exact rfl; exact rfl; rotate_right 3; kernel_rfl; kernel_rfl; kernel_rfl; (apply Ok1.load; exact rfl; (apply Ld.own1; exact rfl; exact rfl; exact At.head; exact rfl)))) <;> ((apply A.takeG 6; exact rfl; exact rfl; rotate_left 3; exact rfl; exact rfl; rotate_right 3; kernel_rfl; kernel_rfl; kernel_rfl; (apply Ok1.lss_t; exact rfl; exact rfl; omega))) <;> ((apply A.takeG 7; exact rfl; exact rfl; rotate_left 3; exact rfl; exact rfl; rotate_right 3; kernel_rfl; kernel_rfl; kernel_rfl; (apply Ok1.move; exact rfl))) <;> ((apply A.takeG 8; exact rfl; exact rfl; rotate_left 3; exact rfl; exact rfl; rotate_right 3; kernel_rfl; kernel_rfl; kernel_rfl; (apply Ok1.fieldAddr; (iterate 5 exact rfl)))) <;> ((apply A.takeG 9; exact rfl; exact rfl; rotate_left 3; exact rfl; exact rfl; rotate_right 3; kernel_rfl; kernel_rfl; kernel_rfl; (apply Ok1.load; exact rfl; (apply Ld.own1; exact rfl; exact rfl; exact At.head; exact rfl)))) <;> ((apply A.takeG 10; exact rfl; exact rfl; rotate_left 3; exact rfl; exact rfl; rotate_right 3; kernel_rfl; kernel_rfl; kernel_rfl; (apply Ok1.fieldAddr; (iterate 5 exact rfl)))) <;> ((apply A.takeG 11; exact rfl; exact rfl; rotate_left 3; exact rfl; exact rfl; rotate_right 3; kernel_rfl; kernel_rfl; kernel_rfl; (apply Ok1.load; exact rfl; (apply Ld.own1; exact rfl; exact rfl; exact At.head; exact rfl)))) <;> (apply A.one 12; kernel_rfl; exact rfl; (((apply R.isG; apply R.guard_run; exact rfl; exact rfl; (apply R.callP rfl rfl rfl (width_ok 1 2 (by decide) (by decide) (by decide)))))); apply R.nil; refine ⟨?_, ?_⟩; (focus ((repeat' (first | exact trivial | (refine ⟨?_, ?_⟩; exact At.head)))))) <;> ((apply A.takeG 13; exact rfl; exact rfl; rotate_left 3; exact rfl; exact rfl; rotate_right 3; kernel_rfl; kernel_rfl; kernel_rfl; (apply Ok1.mul64; exact rfl; exact rfl; omega; omega))) <;> ((apply A.takeG 14; exact rfl; exact rfl; rotate_left 3; exact rfl; exact rfl; rotate_right 3; kernel_rfl; kernel_rfl; kernel_rfl; (apply Ok1.shr (m := 65536); exact rfl; exact rfl; omega; exact Nat.le_of_ble_eq_true rfl; exact rfl))) <;> ((apply A.takeG 15; exact rfl; exact rfl; rotate_left 3; exact rfl; exact rfl; rotate_right 3; kernel_rfl; kernel_rfl; kernel_rfl; (apply Ok1.neq_f; exact rfl; exact rfl; omega))) <;> ((apply A.takeG 16; exact rfl; exact rfl; rotate_left 3; exact rfl; exact rfl; rotate_right 3; kernel_rfl; kernel_rfl; kernel_rfl; (apply Ok1.pick_t; exact rfl; exact rfl))) <;> (apply A.take 17; exact rfl; exact rfl; kernel_rfl; kernel_rfl; kernel_rfl; (apply Ok1.pick_f; exact rfl; exact rfl)) <;> (apply A.take 18; exact rfl; exact rfl; kernel_rfl; kernel_rfl; kernel_rfl; (apply Ok1.assign; exact rfl)) <;> (apply A.done; kernel_rfl))) | apply T.seq | apply T.region | apply T.block | apply T.skip | apply T.ret | (apply T.cond_f; exact rfl)))
    (apply RetOk.t; exact rfl)
    rfl
  · refine enterP (tb := tb) Tryz.func123 rfl Tryz.ntmps123 rfl fun w => ?_
    repeat' (first | (apply R.is1; first | (apply R.isBin; (apply R.pure; exact rfl; first | (apply Ok1.lss_t; exact rfl; exact rfl; omega) | (apply Ok1.lss_f; exact rfl; exact rfl; omega) | (apply Ok1.gtr_f; exact rfl; exact rfl; omega) | (apply Ok1.eql_f; exact rfl; exact rfl; omega))) | (apply R.isCall; (apply R.pure; exact rfl; (apply Ok1.lenS; (iterate 3 exact rfl)))) | (apply R.pure; exact rfl; first | (apply Ok1.move; exact rfl) | (apply Ok1.fieldAddr; (iterate 5 exact rfl)) | (apply Ok1.load; exact rfl; (apply Ld.own1; exact rfl; exact rfl; exact At.head; exact rfl)) | (apply Ok1.assign; exact rfl) | (apply Ok1.pick_t; exact rfl; exact rfl) | (apply Ok1.pick_f; exact rfl; exact rfl)) | (apply R.box; (iterate 3 exact rfl); intro)) | (apply R.isG; first | (apply R.guard_run; exact rfl; exact rfl) | (apply R.guard_not; (iterate 3 exact rfl))) | apply R.nil | (apply T.is; first | (apply T.drawC (id := 5) [0] (by decide); ((apply A.take 0; exact rfl; exact rfl; kernel_rfl; kernel_rfl; kernel_rfl; (apply Ok1.fieldAddr; (iterate 5 exact rfl))) <;> (apply A.take 1; exact rfl; exact rfl; kernel_rfl; kernel_rfl; kernel_rfl; (apply Ok1.load; exact rfl; (apply Ld.own1; exact rfl; exact rfl; exact At.head; exact rfl))) <;> ((apply A.take 2; exact rfl; exact rfl; kernel_rfl; kernel_rfl; kernel_rfl; (apply Ok1.lss_f; exact rfl; exact rfl; omega))) <;> (apply A.take 3; exact rfl; exact rfl; kernel_rfl; kernel_rfl; kernel_rfl; (apply Ok1.move; exact rfl)) <;> ((apply A.takeG 4; exact rfl; exact rfl; rotate_left 3; exact rfl; exact rfl; rotate_right 3; kernel_rfl; kernel_rfl; kernel_rfl; (apply Ok1.fieldAddr; (iterate 5 exact rfl)))) <;> ((apply A.takeG 5; exact rfl; exact rfl; rotate_left 3; exact rfl; exact rfl; rotate_right 3; kernel_rfl; kernel_rfl; kernel_rfl; (apply Ok1.load; exact rfl; (apply Ld.own1; exact rfl; exact rfl; exact At.head; exact rfl)))) <;> ((apply A.takeG 6; exact rfl; exact rfl; rotate_left 3; exact rfl; exact rfl; rotate_right 3; kernel_rfl; kernel_rfl; kernel_rfl; (apply Ok1.lss_t; exact rfl; exact rfl; omega))) <;> ((apply A.takeG 7; exact rfl; exact rfl; rotate_left 3; exact rfl; exact rfl; rotate_right 3; kernel_rfl; kernel_rfl; kernel_rfl; (apply Ok1.move; exact rfl))) <;> ((apply A.takeG 8; exact rfl; exact rfl; rotate_left 3; exact rfl; exact rfl; rotate_right 3; kernel_rfl; kernel_rfl; kernel_rfl; (apply Ok1.fieldAddr; (iterate 5 exact rfl)))) <;> ((apply A.takeG 9; exact rfl; exact rfl; rotate_left 3; exact rfl; exact rfl; rotate_right 3; kernel_rfl; kernel_rfl; kernel_rfl; (apply Ok1.load; exact rfl; (apply Ld.own1; exact rfl; exact rfl; exact At.head; exact rfl)))) <;> ((apply A.takeG 10; exact rfl; exact rfl; rotate_left 3; exact rfl; exact rfl; rotate_right 3; kernel_rfl; kernel_rfl; kernel_rfl; (apply Ok1.fieldAddr; (iterate 5 exact rfl)))) <;> ((apply A.takeG 11; exact rfl; exact rfl; rotate_left 3; exact rfl; exact rfl; rotate_right 3; kernel_rfl; kernel_rfl; kernel_rfl; (apply Ok1.load; exact rfl; (apply Ld.own1; exact rfl; exact rfl; exact At.head; exact rfl)))) <;> (apply A.one 12; kernel_rfl; exact rfl; (((apply R.isG; apply R.guard_run; exact rfl; exact rfl; (apply R.callP rfl rfl rfl (width_ok 2 4 (by decide) (by decide) (by decide)))))); apply R.nil; refine ⟨?_, ?_⟩; (focus ((repeat' (first | exact trivial | (refine ⟨?_, ?_⟩; exact At.head)))))) <;> ((apply A.takeG 13; exact rfl; exact rfl; rotate_left 3; exact rfl; exact rfl; rotate_right 3; kernel_rfl; kernel_rfl; kernel_rfl; (apply Ok1.mul64; exact rfl; exact rfl; omega; omega))) <;> ((apply A.takeG 14; exact rfl; exact rfl; rotate_left 3; exact rfl; exact rfl; rotate_right 3; kernel_rfl; kernel_rfl; kernel_rfl; (apply Ok1.shr (m := 4294967296); exact rfl; exact rfl; omega; exact Nat.le_of_ble_eq_true rfl; exact rfl))) <;> ((apply A.takeG 15; exact rfl; exact rfl; rotate_left 3; exact rfl; exact rfl; rotate_right 3; kernel_rfl; kernel_rfl; kernel_rfl; (apply Ok1.neq_f; exact rfl; exact rfl; omega))) <;> ((apply A.takeG 16; exact rfl; exact rfl; rotate_left 3; exact rfl; exact rfl; rotate_right 3; kernel_rfl; kernel_rfl; kernel_rfl; (apply Ok1.pick_t; exact rfl; exact rfl))) <;> (apply A.take 17; exact rfl; exact rfl; kernel_rfl; kernel_rfl; kernel_rfl; (apply Ok1.pick_f; exact rfl; exact rfl)) <;> (apply A.take 18; exact rfl; exact rfl; kernel_rfl; kernel_rfl; kernel_rfl; (apply Ok1.assign; exact rfl)) <;> (apply A.done; kernel_rfl))) | apply T.seq | apply T.region | apply T.block | apply T.skip | apply T.ret | (apply T.cond_f; exact rfl)))
    (apply RetOk.t; exact rfl)
    rfl
theorem fout_ok (s : Nat) (n : Int) (h : Fits s n) (w : World) : CallM Tryz.prog 124 [.agg ⟨fldV s n⟩] [] w fun v L => ∃ b, v = .slice (some ⟨b, 0, none⟩) (numI s n).length (numI s n).length ∧ L = [(b, .cells ⟨u8s (numI s n)⟩ 5 (0, 0))] := by
  have hs : s = 0 ∨ s = 1 ∨ s = 2 := by unfold Fits at h; omega
  have hn : n ≤ 9223372036854775807 := by unfold Fits at h; omega
  have hnum := fun w1 => number_ok s n hs h.1 hn w1
  unfold fldV
  refine enterK (tb := tb) Tryz.func124 rfl Tryz.ntmps124 rfl ?_
  repeat' (first | (apply R.is1; first | (apply R.isBin; (apply R.pure; exact rfl; (apply Ok1.eql_f; exact rfl; exact rfl; omega))) | (apply R.isCall; (apply R.callE; (iterate 3 exact rfl); exact Ext.none _; intro w1 hw1; exact hnum w1; rintro v Lo ⟨b, rfl, rfl⟩)) | (apply R.pure; exact rfl; first | (apply Ok1.fieldAddr; (iterate 5 exact rfl)) | (apply Ok1.load; exact rfl; (apply Ld.own1; exact rfl; exact rfl; exact At.head; exact rfl)) | (apply Ok1.assign; exact rfl)) | (apply R.box; (iterate 3 exact rfl); intro)) | apply R.nil | (apply T.is; first | apply T.seq | apply T.region | apply T.skip | apply T.ret | (apply T.cond_f; exact rfl)))
  (apply RetOk.t; exact rfl)
  exact ⟨_, by (focus ((repeat' (first | exact Keep.nil _ | exact Ext.one _ _ | apply Keep.cons)); done)), b, rfl, rfl⟩
/-- A writer that has written, without an error. -/
def WL (bw : Nat) (ov : Ov) (bs : List Int) : Lst := (bw, .cells ⟨[slV ov bs.length, .int .i64 0]⟩ 152 (0, 0)) :: blkL 5 ov (u8s bs)
def WRes (bw : Nat) (bs : List Int) (v : Value) (L : Lst) : Prop := ∃ ov, v = .pointer (some ⟨bw, 0, none⟩) ∧ OvOk 1 ov bs.length (u8s bs) ∧ L = WL bw ov bs
theorem num_len (s : Nat) (n : Int) : 1 ≤ (numI s n).length ∧ (numI s n).length ≤ 4 := by unfold numI len4; split <;> simp
theorem put_ok (bw : Nat) (ov : Ov) (bs : List Int) (hov : OvOk 1 ov bs.length (u8s bs)) (s : Nat) (n : Int) (h : Fits s n) (hbig : bs.length ≤ 1000) (bf : Nat) (fz : Nat × Nat) (e : TypeId) (w : World) (hb : w.heap[bf]? = some (.cells ⟨fldV s n⟩ e fz)) (hoff : bf ∉ blks (WL bw ov bs)) :
    CallM Tryz.prog 108 [.pointer (some ⟨bw, 0, none⟩), .slice (some ⟨bf, 0, none⟩) 1 1] (WL bw ov bs) w (WRes bw (bs ++ numI s n)) := by
  have hck := wcheck_ok s n h
  have hfo := fun w1 => fout_ok s n h w1
  have hnl := num_len s n
  unfold WRes
  generalize numI s n = nb at *
  refine enterK (tb := tb) Tryz.func108 rfl Tryz.ntmps108 rfl ?_
  obtain ⟨S, hS⟩ : ∃ S, S = blks (WL bw ov bs) := ⟨_, rfl⟩
  rw [← hS] at hoff ⊢
  simp only [WL, fldV] at hb hck hfo ⊢
  repeat' (first | (apply R.is1; first | (apply R.isBin; (apply R.pure; exact rfl; first | (apply Ok1.add64; exact rfl; exact rfl; omega; omega) | (apply Ok1.lss_t; exact rfl; exact rfl; omega) | (apply Ok1.lss_f; exact rfl; exact rfl; omega) | (apply Ok1.gtr_f; exact rfl; exact rfl; omega) | (apply Ok1.neq_f; exact rfl; exact rfl; omega) | (apply Ok1.eqlP; (iterate 5 exact rfl)))) | (apply R.isCall; first | apply R.callP rfl rfl rfl hck | (apply R.callE; (iterate 3 exact rfl); exact Ext.none _; intro w1 hw1; exact hfo w1; rintro v Lo ⟨b7, rfl, rfl⟩) | (apply R.pure; exact rfl; apply Ok1.lenOv; (iterate 3 exact rfl); exact hov) | (apply R.appendRd (xs := nb) (v := u8V) (sz := 1) (ov := ov) (n := bs.length) (old := u8s bs); (iterate 12 exact rfl); exact hov; (focus ((repeat' (first | exact Ext.all _ | apply Ext.cons)); done)); exact rfl; exact u8V_len; exact rfl; (intro w1 hw1; exact RdSl.of (junk := []) hw1 (by exact At.head) (by rw [fl_u8, List.append_nil])); (focus (rw [fl_u8]; exact u8s_one nb)); omega; intro ov1 hov1 hsome; rw [fl_u8, ← u8s_app, ← List.length_append]; rw [fl_u8, ← u8s_app, ← List.length_append] at hov1) | (apply R.pure; exact rfl; (apply Ok1.lenS; (iterate 3 exact rfl)))) | (apply R.pure; exact rfl; first | (apply Ok1.move; exact rfl) | (apply Ok1.fieldAddr; (iterate 5 exact rfl)) | (apply Ok1.load; exact rfl; first | (apply Ld.own1; exact rfl; exact rfl; (focus ((repeat' (first | exact At.head | apply At.tail)); done)); exact rfl) | (apply Ld.ownk; exact rfl; exact rfl; (focus ((repeat' (first | exact At.head | apply At.tail)); done)); exact rfl) | (apply Ld.blkk; exact rfl; exact rfl; assumption; (assumption); exact rfl)) | (apply Ok1.assign; exact rfl) | (apply Ok1.indexAddr; (iterate 5 exact rfl); omega; omega) | (apply Ok1.nilCheck; exact rfl)) | (apply R.alloc; (iterate 3 exact rfl); intro)) | (apply R.is0; first | (apply R.store; (iterate 3 exact rfl); exact cellsE_slV _ _; exact rfl; exact one_slV _ _; (focus ((repeat' (first | exact Upd.head | apply Upd.tail | apply Upd.right)); done)); exact rfl) | (apply R.store; (iterate 6 exact rfl); (focus ((repeat' (first | exact Upd.head | apply Upd.tail)); done)); exact rfl)) | apply R.nil | (apply T.is; first | apply T.rounds 3 | apply T.seq | apply T.region | apply T.block | apply T.scope | apply T.label | apply T.skip | apply T.exit | apply T.ret | (apply T.cond_t; exact rfl) | (apply T.cond_f; exact rfl)))
  (apply RetOk.t; exact rfl)
  refine ⟨_, ?_, ov1, rfl, hov1, rfl⟩
  (focus ((repeat' (first | exact Ext.one _ _ | exact Ext.here _ _ | apply Keep.cons | apply Keep.last | apply Ext.cons | apply Ext.app)); done))
theorem number1_ok (bw : Nat) (ov : Ov) (bs : List Int) (hov : OvOk 1 ov bs.length (u8s bs)) (s : Nat) (n : Int) (h : Fits s n) (hbig : bs.length ≤ 1000) (bl : Nat) (fz : Nat × Nat) (e : TypeId) (w : World) (hb : w.heap[bl]? = some (.cells ⟨[.int .i64 n]⟩ e fz)) (hoff : bl ∉ blks (WL bw ov bs)) :
    CallM Tryz.prog 75 [.pointer (some ⟨bw, 0, none⟩), .int .i64 s, .slice (some ⟨bl, 0, none⟩) 1 1] (WL bw ov bs) w (WRes bw (bs ++ numI s n)) := by
  have hput := fun bf fz e w1 => put_ok bw ov bs hov s n h hbig bf fz e w1
  unfold WRes at hput ⊢
  generalize bs ++ numI s n = nb at *
  refine enterK (tb := tb) Tryz.func75 rfl Tryz.ntmps75 rfl ?_
  obtain ⟨S, hS⟩ : ∃ S, S = blks (WL bw ov bs) := ⟨_, rfl⟩
  rw [← hS] at hoff ⊢
  repeat' (first | (apply R.is1; first | (apply R.isBin; (apply R.pure; exact rfl; first | (apply Ok1.add64; exact rfl; exact rfl; omega; omega) | (apply Ok1.lss_t; exact rfl; exact rfl; omega) | (apply Ok1.lss_f; exact rfl; exact rfl; omega))) | (apply R.isCall; first | (apply R.callE (Li := WL bw ov bs); (iterate 3 exact rfl); (focus ((repeat' (first | exact Ext.all _ | apply Ext.cons)); done)); intro w1 hw1; exact hput _ _ _ w1 (hw1.get _ _ (At.mem (by exact At.head))) (RdSl.off hw1 (by (focus ((repeat' (first | exact Ext.all _ | apply Ext.cons)); done))) (At.mem (by exact At.head))); rintro v Lo ⟨ov1, rfl, hov1, rfl⟩) | (apply R.pure; exact rfl; (apply Ok1.lenS; (iterate 3 exact rfl)))) | (apply R.pure; exact rfl; first | (apply Ok1.move; exact rfl) | (apply Ok1.load; exact rfl; (apply Ld.blk1; exact rfl; exact rfl; assumption; (assumption); exact rfl)) | (apply Ok1.assign; exact rfl) | (apply Ok1.indexAddr; (iterate 5 exact rfl); omega; omega) | (apply Ok1.build; (iterate 5 exact rfl))) | (apply R.buildSlice; (iterate 12 exact rfl); intro)) | apply R.nil | (apply T.is; first | apply T.rounds 3 | apply T.seq | apply T.region | apply T.block | apply T.skip | apply T.exit | apply T.ret | (apply T.cond_t; exact rfl) | (apply T.cond_f; exact rfl)))
  (apply RetOk.t; exact rfl)
  refine ⟨_, ?_, ov1, rfl, hov1, rfl⟩
  (focus ((repeat' (first | exact Ext.one _ _ | exact Ext.here _ _ | apply Keep.cons | apply Keep.last)); done))
theorem wout_ok (bw : Nat) (ov : Ov) (bs : List Int) (hov : OvOk 1 ov bs.length (u8s bs)) (hbig : bs.length ≤ 1000000) (w : World) (hb : w.heap[bw]? = some (.cells ⟨[slV ov bs.length, .int .i64 0]⟩ 152 (0, 0))) (hr : RdSl w (ovp ov) u8V bs) :
    CallM Tryz.prog 76 [.pointer (some ⟨bw, 0, none⟩)] [] w fun v L => ∃ ov', OvOk 1 ov' bs.length (u8s bs) ∧ v = .tuple #[slV ov' bs.length, .int .i64 0] ∧ L = blkL 5 ov' (u8s bs) := by
  rw [slV_eq hov] at hb
  refine enterK (tb := tb) Tryz.func76 rfl Tryz.ntmps76 rfl ?_
  have hcl := fun w1 (hc : Chg [] w w1) => clone_ok (ovp ov) bs.length (ovc ov bs.length) bs rfl (by omega) w1 (hr.chg' hc (fun _ => Off.nil _))
  repeat' (first | (apply R.is1; first | (apply R.isBin; (apply R.pure; exact rfl; first | (apply Ok1.neq_f; exact rfl; exact rfl; omega) | (apply Ok1.eqlP; (iterate 5 exact rfl)))) | (apply R.isCall; (apply R.callE; (iterate 3 exact rfl); exact Ext.none _; intro w1 hw1; exact hcl w1 hw1.chg; rintro v Lo ⟨ov2, hov2, hsome, rfl, rfl⟩)) | (apply R.pure; exact rfl; first | (apply Ok1.move; exact rfl) | (apply Ok1.fieldAddr; (iterate 5 exact rfl)) | (apply Ok1.load; exact rfl; (apply Ld.blk1; exact rfl; exact rfl; assumption; (exact List.not_mem_nil); exact rfl)) | (apply Ok1.assign; exact rfl) | (apply Ok1.nilCheck; exact rfl))) | apply R.nil | (apply T.is; first | apply T.seq | apply T.region | apply T.block | apply T.skip | apply T.ret | (apply T.cond_f; exact rfl)))
  (apply RetOk.tt; exact rfl; exact rfl)
  exact ⟨_, by (focus ((repeat' (first | exact Ext.here _ _ | apply Keep.last)); done)), ov2, hov2, rfl, rfl⟩
end Go.Proofs.YtplhnkmmhndkjaaGreat
set_option linter.unusedSimpArgs false
set_option linter.unusedVariables false
namespace Go.Proofs.YtplhnkmmhndkjaaGreat
open Go.RowKit Go.Shelf
set_option maxRecDepth 100000
theorem RdSl.heap {α : Type} {v : α → List Value} {rs : List α} {w : World} {b : Nat} {e : TypeId} {fz : Nat × Nat} {junk : List Value} (h : w.heap[b]? = some (.cells ⟨fl v rs ++ junk⟩ e fz)) : RdSl w (some ⟨b, 0, none⟩) v rs := by
  right
  refine ⟨b, 0, rfl, fun k hk => ?_⟩
  simp only [World.cell?, h]
  simp [hk, List.getElem?_append_left]
end Go.Proofs.YtplhnkmmhndkjaaGreat
set_option linter.unusedSimpArgs false
set_option linter.unusedVariables false
namespace Go.Proofs.YtplhnkmmhndkjaaGreat
open Go.RowKit Go.Shelf
set_option maxRecDepth 100000
def clI (c : Cl) : List Int := ((([] ++ numI 1 c.id) ++ numI 0 c.roles) ++ numI 2 c.exp) ++ numI 1 c.ser
theorem clI_len (c : Cl) : (clI c).length = 9 := rfl
theorem clBytes_ok (c : Cl) (hr : c.right) (w : World) : CallM Tryz.prog 78 [kvC c] [] w fun v L => ∃ ov, OvOk 1 ov 9 (u8s (clI c)) ∧ v = .tuple #[slV ov 9, .int .i64 0] ∧ L = blkL 5 ov (u8s (clI c)) := by
  have hck := check_ok c.id c.roles c.exp c.ser
  rw [if_pos hr] at hck
  have hf1 : Fits 1 c.id := by unfold Cl.right at hr; unfold Fits; omega
  have hf2 : Fits 0 c.roles := by unfold Cl.right at hr; unfold Fits; omega
  have hf3 : Fits 2 c.exp := by unfold Cl.right at hr; unfold Fits; omega
  have hf4 : Fits 1 c.ser := by unfold Cl.right at hr; unfold Fits; omega
  refine enterK (tb := tb) Tryz.func78 rfl Tryz.ntmps78 rfl ?_
  simp only [kvC]
  repeat' (first | (apply R.is1; first | (apply R.isBin; (apply R.pure; exact rfl; (apply Ok1.neq_f; exact rfl; exact rfl; omega))) | (apply R.isCall; apply R.callP rfl rfl rfl hck) | (apply R.pure; exact rfl; first | (apply Ok1.move; exact rfl) | (apply Ok1.load; exact rfl; (apply Ld.ownk; exact rfl; exact rfl; exact At.head; exact rfl)) | (apply Ok1.assign; exact rfl)) | (apply R.box; (iterate 3 exact rfl); intro) | (apply R.alloc; (iterate 3 exact rfl); intro)) | apply R.nil | (apply T.is; first | apply T.seq | apply T.region | apply T.skip | (apply T.cond_f; exact rfl)))
  rename_i bc bw
  obtain ⟨B0, hB0⟩ : ∃ B : List Int, B = [] := ⟨_, rfl⟩
  obtain ⟨B1, hB1⟩ : ∃ B, B = B0 ++ numI 1 c.id := ⟨_, rfl⟩
  obtain ⟨B2, hB2⟩ : ∃ B, B = B1 ++ numI 0 c.roles := ⟨_, rfl⟩
  obtain ⟨B3, hB3⟩ : ∃ B, B = B2 ++ numI 2 c.exp := ⟨_, rfl⟩
  obtain ⟨B4, hB4⟩ : ∃ B, B = B3 ++ numI 1 c.ser := ⟨_, rfl⟩
  have hl0 : B0.length ≤ 1000 := by rw [hB0]; decide
  have hl1 : B1.length ≤ 1000 := by rw [hB1, hB0]; exact Nat.le_of_ble_eq_true rfl
  have hl2 : B2.length ≤ 1000 := by rw [hB2, hB1, hB0]; exact Nat.le_of_ble_eq_true rfl
  have hl3 : B3.length ≤ 1000 := by rw [hB3, hB2, hB1, hB0]; exact Nat.le_of_ble_eq_true rfl
  have hB : B4 = clI c := by rw [hB4, hB3, hB2, hB1, hB0]; rfl
  have hw0 : OvOk 1 none B0.length (u8s B0) := by rw [hB0]; exact OvOk.start 1
  apply T.drawC (id := 5) [1] (by decide)
  (apply A.take 0; exact rfl; exact rfl; kernel_rfl; kernel_rfl; kernel_rfl; (apply Ok1.fieldAddr; (iterate 5 exact rfl))) <;> (apply A.take 1; exact rfl; exact rfl; kernel_rfl; kernel_rfl; kernel_rfl; (apply Ok1.load; exact rfl; (apply Ld.own1; exact rfl; exact rfl; exact At.head; exact rfl))) <;> (apply A.take 4; exact rfl; exact rfl; kernel_rfl; kernel_rfl; kernel_rfl; (apply Ok1.fieldAddr; (iterate 5 exact rfl))) <;> (apply A.take 5; exact rfl; exact rfl; kernel_rfl; kernel_rfl; kernel_rfl; (apply Ok1.load; exact rfl; (apply Ld.own1; exact rfl; exact rfl; exact At.head; exact rfl))) <;> (apply A.take 8; exact rfl; exact rfl; kernel_rfl; kernel_rfl; kernel_rfl; (apply Ok1.fieldAddr; (iterate 5 exact rfl))) <;> (apply A.take 9; exact rfl; exact rfl; kernel_rfl; kernel_rfl; kernel_rfl; (apply Ok1.load; exact rfl; (apply Ld.own1; exact rfl; exact rfl; exact At.head; exact rfl))) <;> (apply A.take 12; exact rfl; exact rfl; kernel_rfl; kernel_rfl; kernel_rfl; (apply Ok1.fieldAddr; (iterate 5 exact rfl))) <;> (apply A.take 13; exact rfl; exact rfl; kernel_rfl; kernel_rfl; kernel_rfl; (apply Ok1.load; exact rfl; (apply Ld.own1; exact rfl; exact rfl; exact At.head; exact rfl)))
  refine A.merge (fun σ L => ∃ (ov : Ov), OvOk 1 ov B4.length (u8s B4) ∧ Sub [(5, .pointer (some ⟨bw, 0, none⟩)), (12, .int .i64 c.id), (16, .int .i64 c.roles), (20, .int .i64 c.exp), (24, .int .i64 c.ser), (26, .pointer (some ⟨bw, 0, none⟩))] σ ∧ Keep L (WL bw ov B4 ++ [(bc, .cells ⟨[.int .i64 c.id, .int .i64 c.roles, .int .i64 c.exp, .int .i64 c.ser]⟩ 71 (0, 0))])) 5 #[true, true, true, true, true, true, true, true, true, true, true, true, true, true, true, true, false, false, false, false, false] ?_ ?_
  rotate_left 1
  focus
    intro H4_
    refine A.merge (fun σ L => ∃ (ov : Ov) (b3 : Nat), OvOk 1 ov B3.length (u8s B3) ∧ Sub [(5, .pointer (some ⟨bw, 0, none⟩)), (12, .int .i64 c.id), (16, .int .i64 c.roles), (20, .int .i64 c.exp), (24, .int .i64 c.ser), (22, .pointer (some ⟨bw, 0, none⟩)), (25, .slice (some ⟨b3, 0, none⟩) 1 1)] σ ∧ Keep L (WL bw ov B3 ++ [(bc, .cells ⟨[.int .i64 c.id, .int .i64 c.roles, .int .i64 c.exp, .int .i64 c.ser]⟩ 71 (0, 0)), (b3, .cells ⟨[.int .i64 c.ser]⟩ 3 (0, 0))])) 6 #[true, true, true, true, true, true, true, true, true, true, true, true, true, true, true, false, false, false, false, false, false] ?_ ?_
    · rintro σ L ⟨ov, b3, hov, hs, hk⟩
      refine A.weak ?_ hs hk
      refine A.multi [15] (by kernel_rfl) (by decide) ⟨⟨_, rfl, ?_⟩, trivial⟩
      · (apply R.callE (Li := WL bw ov B3); (iterate 3 exact rfl); (focus ((repeat' (exact Ext.here _ _)); done)); intro w1 hw1; have h9 := number1_ok bw ov B3 hov 1 c.ser hf4 hl3 b3 _ _ w1 (hw1.get _ _ (At.mem (by (focus ((repeat' (first | exact At.head | apply At.tail | apply At.right)); done))))) (RdSl.off hw1 (by (focus ((repeat' (exact Ext.here _ _)); done))) (At.mem (by (focus ((repeat' (first | exact At.head | apply At.tail)); done))))); rw [← hB4] at h9; exact h9; rintro v Lo ⟨ov1, rfl, hov1, rfl⟩); apply R.nil; refine ⟨(by (focus ((repeat' (first | exact trivial | (refine ⟨?_, ?_⟩; (focus ((repeat' (first | exact At.head | apply At.tail | apply At.right)); done)))))))), A.cast (by kernel_rfl) (H4_ _ _ ⟨ov1, hov1, ⟨rfl, rfl, rfl, rfl, rfl, rfl, trivial⟩, (by (focus ((repeat' (first | exact Keep.nil _ | exact Ext.one _ _ | exact Ext.here _ _ | apply Keep.cons | apply Keep.app)); done)))⟩)⟩
    intro H3_3
    refine A.merge (fun σ L => ∃ (ov : Ov), OvOk 1 ov B3.length (u8s B3) ∧ Sub [(5, .pointer (some ⟨bw, 0, none⟩)), (12, .int .i64 c.id), (16, .int .i64 c.roles), (20, .int .i64 c.exp), (24, .int .i64 c.ser), (22, .pointer (some ⟨bw, 0, none⟩))] σ ∧ Keep L (WL bw ov B3 ++ [(bc, .cells ⟨[.int .i64 c.id, .int .i64 c.roles, .int .i64 c.exp, .int .i64 c.ser]⟩ 71 (0, 0))])) 7 #[true, true, true, true, true, true, true, true, true, true, true, true, true, true, false, false, false, false, false, false, false] ?_ ?_
    · rintro σ L ⟨ov, hov, hs, hk⟩
      refine A.weak ?_ hs hk
      refine A.multi [14] (by kernel_rfl) (by decide) ⟨⟨_, rfl, ?_⟩, trivial⟩
      · (((apply R.buildSlice; (iterate 12 exact rfl); intro))); rename_i b3; apply R.nil; refine ⟨(by (focus ((repeat' (first | exact trivial | (refine ⟨?_, ?_⟩; (focus ((repeat' (first | exact At.head | apply At.tail | apply At.right)); done)))))))), A.cast (by kernel_rfl) (H3_3 _ _ ⟨ov, b3, hov, ⟨rfl, rfl, rfl, rfl, rfl, rfl, rfl, trivial⟩, (by (focus ((repeat' (first | exact Keep.nil _ | exact Ext.one _ _ | exact Ext.here _ _ | apply Keep.cons | apply Keep.app | apply Ext.cons)); done)))⟩)⟩
    intro H3_
    refine A.merge (fun σ L => ∃ (ov : Ov) (b2 : Nat) (b3 : Nat), OvOk 1 ov B2.length (u8s B2) ∧ Sub [(5, .pointer (some ⟨bw, 0, none⟩)), (12, .int .i64 c.id), (16, .int .i64 c.roles), (20, .int .i64 c.exp), (24, .int .i64 c.ser), (18, .pointer (some ⟨bw, 0, none⟩)), (21, .slice (some ⟨b2, 0, none⟩) 1 1), (25, .slice (some ⟨b3, 0, none⟩) 1 1)] σ ∧ Keep L (WL bw ov B2 ++ [(bc, .cells ⟨[.int .i64 c.id, .int .i64 c.roles, .int .i64 c.exp, .int .i64 c.ser]⟩ 71 (0, 0)), (b2, .cells ⟨[.int .i64 c.exp]⟩ 3 (0, 0)), (b3, .cells ⟨[.int .i64 c.ser]⟩ 3 (0, 0))])) 7 #[true, true, true, true, true, true, true, true, true, true, true, false, true, true, true, false, false, false, false, false, false] ?_ ?_
    · rintro σ L ⟨ov, b2, b3, hov, hs, hk⟩
      refine A.weak ?_ hs hk
      refine A.multi [11] (by kernel_rfl) (by decide) ⟨⟨_, rfl, ?_⟩, trivial⟩
      · (apply R.callE (Li := WL bw ov B2); (iterate 3 exact rfl); (focus ((repeat' (exact Ext.here _ _)); done)); intro w1 hw1; have h9 := number1_ok bw ov B2 hov 2 c.exp hf3 hl2 b2 _ _ w1 (hw1.get _ _ (At.mem (by (focus ((repeat' (first | exact At.head | apply At.tail | apply At.right)); done))))) (RdSl.off hw1 (by (focus ((repeat' (exact Ext.here _ _)); done))) (At.mem (by (focus ((repeat' (first | exact At.head | apply At.tail)); done))))); rw [← hB3] at h9; exact h9; rintro v Lo ⟨ov1, rfl, hov1, rfl⟩); apply R.nil; refine ⟨(by (focus ((repeat' (first | exact trivial | (refine ⟨?_, ?_⟩; (focus ((repeat' (first | exact At.head | apply At.tail | apply At.right)); done)))))))), A.cast (by kernel_rfl) (H3_3 _ _ ⟨ov1, b3, hov1, ⟨rfl, rfl, rfl, rfl, rfl, rfl, rfl, trivial⟩, (by (focus ((repeat' (first | exact Keep.nil _ | exact Ext.one _ _ | exact Ext.here _ _ | apply Keep.cons | apply Keep.app | apply Ext.cons)); done)))⟩)⟩
    intro H2_23
    refine A.merge (fun σ L => ∃ (ov : Ov) (b2 : Nat), OvOk 1 ov B2.length (u8s B2) ∧ Sub [(5, .pointer (some ⟨bw, 0, none⟩)), (12, .int .i64 c.id), (16, .int .i64 c.roles), (20, .int .i64 c.exp), (24, .int .i64 c.ser), (18, .pointer (some ⟨bw, 0, none⟩)), (21, .slice (some ⟨b2, 0, none⟩) 1 1)] σ ∧ Keep L (WL bw ov B2 ++ [(bc, .cells ⟨[.int .i64 c.id, .int .i64 c.roles, .int .i64 c.exp, .int .i64 c.ser]⟩ 71 (0, 0)), (b2, .cells ⟨[.int .i64 c.exp]⟩ 3 (0, 0))])) 8 #[true, true, true, true, true, true, true, true, true, true, true, false, true, true, false, false, false, false, false, false, false] ?_ ?_
    · rintro σ L ⟨ov, b2, hov, hs, hk⟩
      refine A.weak ?_ hs hk
      refine A.multi [11, 14] (by kernel_rfl) (by decide) ⟨⟨_, rfl, ?_⟩, ⟨_, rfl, ?_⟩, trivial⟩
      · (apply R.callE (Li := WL bw ov B2); (iterate 3 exact rfl); (focus ((repeat' (exact Ext.here _ _)); done)); intro w1 hw1; have h9 := number1_ok bw ov B2 hov 2 c.exp hf3 hl2 b2 _ _ w1 (hw1.get _ _ (At.mem (by (focus ((repeat' (first | exact At.head | apply At.tail | apply At.right)); done))))) (RdSl.off hw1 (by (focus ((repeat' (exact Ext.here _ _)); done))) (At.mem (by (focus ((repeat' (first | exact At.head | apply At.tail)); done))))); rw [← hB3] at h9; exact h9; rintro v Lo ⟨ov1, rfl, hov1, rfl⟩); apply R.nil; refine ⟨(by (focus ((repeat' (first | exact trivial | (refine ⟨?_, ?_⟩; (focus ((repeat' (first | exact At.head | apply At.tail | apply At.right)); done)))))))), A.cast (by kernel_rfl) (H3_ _ _ ⟨ov1, hov1, ⟨rfl, rfl, rfl, rfl, rfl, rfl, trivial⟩, (by (focus ((repeat' (first | exact Keep.nil _ | exact Ext.one _ _ | exact Ext.here _ _ | apply Keep.cons | apply Keep.app)); done)))⟩)⟩
      · (((apply R.buildSlice; (iterate 12 exact rfl); intro))); rename_i b3; apply R.nil; refine ⟨(by (focus ((repeat' (first | exact trivial | (refine ⟨?_, ?_⟩; (focus ((repeat' (first | exact At.head | apply At.tail | apply At.right)); done)))))))), A.cast (by kernel_rfl) (H2_23 _ _ ⟨ov, b2, b3, hov, ⟨rfl, rfl, rfl, rfl, rfl, rfl, rfl, rfl, trivial⟩, (by (focus ((repeat' (first | exact Keep.nil _ | exact Ext.one _ _ | exact Ext.here _ _ | apply Keep.cons | apply Keep.app | apply Ext.cons)); done)))⟩)⟩
    intro H2_2
    refine A.merge (fun σ L => ∃ (ov : Ov) (b3 : Nat), OvOk 1 ov B2.length (u8s B2) ∧ Sub [(5, .pointer (some ⟨bw, 0, none⟩)), (12, .int .i64 c.id), (16, .int .i64 c.roles), (20, .int .i64 c.exp), (24, .int .i64 c.ser), (18, .pointer (some ⟨bw, 0, none⟩)), (25, .slice (some ⟨b3, 0, none⟩) 1 1)] σ ∧ Keep L (WL bw ov B2 ++ [(bc, .cells ⟨[.int .i64 c.id, .int .i64 c.roles, .int .i64 c.exp, .int .i64 c.ser]⟩ 71 (0, 0)), (b3, .cells ⟨[.int .i64 c.ser]⟩ 3 (0, 0))])) 8 #[true, true, true, true, true, true, true, true, true, true, false, false, true, true, true, false, false, false, false, false, false] ?_ ?_
    · rintro σ L ⟨ov, b3, hov, hs, hk⟩
      refine A.weak ?_ hs hk
      refine A.multi [10] (by kernel_rfl) (by decide) ⟨⟨_, rfl, ?_⟩, trivial⟩
      · (((apply R.buildSlice; (iterate 12 exact rfl); intro))); rename_i b2; apply R.nil; refine ⟨(by (focus ((repeat' (first | exact trivial | (refine ⟨?_, ?_⟩; (focus ((repeat' (first | exact At.head | apply At.tail | apply At.right)); done)))))))), A.cast (by kernel_rfl) (H2_23 _ _ ⟨ov, b2, b3, hov, ⟨rfl, rfl, rfl, rfl, rfl, rfl, rfl, rfl, trivial⟩, (by (focus ((repeat' (first | exact Keep.nil _ | exact Ext.one _ _ | exact Ext.here _ _ | apply Keep.cons | apply Keep.app | apply Ext.cons)); done)))⟩)⟩
    intro H2_3
    refine A.merge (fun σ L => ∃ (ov : Ov), OvOk 1 ov B2.length (u8s B2) ∧ Sub [(5, .pointer (some ⟨bw, 0, none⟩)), (12, .int .i64 c.id), (16, .int .i64 c.roles), (20, .int .i64 c.exp), (24, .int .i64 c.ser), (18, .pointer (some ⟨bw, 0, none⟩))] σ ∧ Keep L (WL bw ov B2 ++ [(bc, .cells ⟨[.int .i64 c.id, .int .i64 c.roles, .int .i64 c.exp, .int .i64 c.ser]⟩ 71 (0, 0))])) 9 #[true, true, true, true, true, true, true, true, true, true, false, false, true, true, false, false, false, false, false, false, false] ?_ ?_
    · rintro σ L ⟨ov, hov, hs, hk⟩
      refine A.weak ?_ hs hk
      refine A.multi [10, 14] (by kernel_rfl) (by decide) ⟨⟨_, rfl, ?_⟩, ⟨_, rfl, ?_⟩, trivial⟩
      · (((apply R.buildSlice; (iterate 12 exact rfl); intro))); rename_i b2; apply R.nil; refine ⟨(by (focus ((repeat' (first | exact trivial | (refine ⟨?_, ?_⟩; (focus ((repeat' (first | exact At.head | apply At.tail | apply At.right)); done)))))))), A.cast (by kernel_rfl) (H2_2 _ _ ⟨ov, b2, hov, ⟨rfl, rfl, rfl, rfl, rfl, rfl, rfl, trivial⟩, (by (focus ((repeat' (first | exact Keep.nil _ | exact Ext.one _ _ | exact Ext.here _ _ | apply Keep.cons | apply Keep.app | apply Ext.cons)); done)))⟩)⟩
      · (((apply R.buildSlice; (iterate 12 exact rfl); intro))); rename_i b3; apply R.nil; refine ⟨(by (focus ((repeat' (first | exact trivial | (refine ⟨?_, ?_⟩; (focus ((repeat' (first | exact At.head | apply At.tail | apply At.right)); done)))))))), A.cast (by kernel_rfl) (H2_3 _ _ ⟨ov, b3, hov, ⟨rfl, rfl, rfl, rfl, rfl, rfl, rfl, trivial⟩, (by (focus ((repeat' (first | exact Keep.nil _ | exact Ext.one _ _ | exact Ext.here _ _ | apply Keep.cons | apply Keep.app | apply Ext.cons)); done)))⟩)⟩
    intro H2_
    refine A.merge (fun σ L => ∃ (ov : Ov) (b1 : Nat) (b2 : Nat) (b3 : Nat), OvOk 1 ov B1.length (u8s B1) ∧ Sub [(5, .pointer (some ⟨bw, 0, none⟩)), (12, .int .i64 c.id), (16, .int .i64 c.roles), (20, .int .i64 c.exp), (24, .int .i64 c.ser), (14, .pointer (some ⟨bw, 0, none⟩)), (17, .slice (some ⟨b1, 0, none⟩) 1 1), (21, .slice (some ⟨b2, 0, none⟩) 1 1), (25, .slice (some ⟨b3, 0, none⟩) 1 1)] σ ∧ Keep L (WL bw ov B1 ++ [(bc, .cells ⟨[.int .i64 c.id, .int .i64 c.roles, .int .i64 c.exp, .int .i64 c.ser]⟩ 71 (0, 0)), (b1, .cells ⟨[.int .i64 c.roles]⟩ 3 (0, 0)), (b2, .cells ⟨[.int .i64 c.exp]⟩ 3 (0, 0)), (b3, .cells ⟨[.int .i64 c.ser]⟩ 3 (0, 0))])) 8 #[true, true, true, true, true, true, true, false, true, true, true, false, true, true, true, false, false, false, false, false, false] ?_ ?_
    · rintro σ L ⟨ov, b1, b2, b3, hov, hs, hk⟩
      refine A.weak ?_ hs hk
      refine A.multi [7] (by kernel_rfl) (by decide) ⟨⟨_, rfl, ?_⟩, trivial⟩
      · (apply R.callE (Li := WL bw ov B1); (iterate 3 exact rfl); (focus ((repeat' (exact Ext.here _ _)); done)); intro w1 hw1; have h9 := number1_ok bw ov B1 hov 0 c.roles hf2 hl1 b1 _ _ w1 (hw1.get _ _ (At.mem (by (focus ((repeat' (first | exact At.head | apply At.tail | apply At.right)); done))))) (RdSl.off hw1 (by (focus ((repeat' (exact Ext.here _ _)); done))) (At.mem (by (focus ((repeat' (first | exact At.head | apply At.tail)); done))))); rw [← hB2] at h9; exact h9; rintro v Lo ⟨ov1, rfl, hov1, rfl⟩); apply R.nil; refine ⟨(by (focus ((repeat' (first | exact trivial | (refine ⟨?_, ?_⟩; (focus ((repeat' (first | exact At.head | apply At.tail | apply At.right)); done)))))))), A.cast (by kernel_rfl) (H2_23 _ _ ⟨ov1, b2, b3, hov1, ⟨rfl, rfl, rfl, rfl, rfl, rfl, rfl, rfl, trivial⟩, (by (focus ((repeat' (first | exact Keep.nil _ | exact Ext.one _ _ | exact Ext.here _ _ | apply Keep.cons | apply Keep.app | apply Ext.cons)); done)))⟩)⟩
    intro H1_123
    refine A.merge (fun σ L => ∃ (ov : Ov) (b1 : Nat) (b2 : Nat), OvOk 1 ov B1.length (u8s B1) ∧ Sub [(5, .pointer (some ⟨bw, 0, none⟩)), (12, .int .i64 c.id), (16, .int .i64 c.roles), (20, .int .i64 c.exp), (24, .int .i64 c.ser), (14, .pointer (some ⟨bw, 0, none⟩)), (17, .slice (some ⟨b1, 0, none⟩) 1 1), (21, .slice (some ⟨b2, 0, none⟩) 1 1)] σ ∧ Keep L (WL bw ov B1 ++ [(bc, .cells ⟨[.int .i64 c.id, .int .i64 c.roles, .int .i64 c.exp, .int .i64 c.ser]⟩ 71 (0, 0)), (b1, .cells ⟨[.int .i64 c.roles]⟩ 3 (0, 0)), (b2, .cells ⟨[.int .i64 c.exp]⟩ 3 (0, 0))])) 9 #[true, true, true, true, true, true, true, false, true, true, true, false, true, true, false, false, false, false, false, false, false] ?_ ?_
    · rintro σ L ⟨ov, b1, b2, hov, hs, hk⟩
      refine A.weak ?_ hs hk
      refine A.multi [7, 14] (by kernel_rfl) (by decide) ⟨⟨_, rfl, ?_⟩, ⟨_, rfl, ?_⟩, trivial⟩
      · (apply R.callE (Li := WL bw ov B1); (iterate 3 exact rfl); (focus ((repeat' (exact Ext.here _ _)); done)); intro w1 hw1; have h9 := number1_ok bw ov B1 hov 0 c.roles hf2 hl1 b1 _ _ w1 (hw1.get _ _ (At.mem (by (focus ((repeat' (first | exact At.head | apply At.tail | apply At.right)); done))))) (RdSl.off hw1 (by (focus ((repeat' (exact Ext.here _ _)); done))) (At.mem (by (focus ((repeat' (first | exact At.head | apply At.tail)); done))))); rw [← hB2] at h9; exact h9; rintro v Lo ⟨ov1, rfl, hov1, rfl⟩); apply R.nil; refine ⟨(by (focus ((repeat' (first | exact trivial | (refine ⟨?_, ?_⟩; (focus ((repeat' (first | exact At.head | apply At.tail | apply At.right)); done)))))))), A.cast (by kernel_rfl) (H2_2 _ _ ⟨ov1, b2, hov1, ⟨rfl, rfl, rfl, rfl, rfl, rfl, rfl, trivial⟩, (by (focus ((repeat' (first | exact Keep.nil _ | exact Ext.one _ _ | exact Ext.here _ _ | apply Keep.cons | apply Keep.app | apply Ext.cons)); done)))⟩)⟩
      · (((apply R.buildSlice; (iterate 12 exact rfl); intro))); rename_i b3; apply R.nil; refine ⟨(by (focus ((repeat' (first | exact trivial | (refine ⟨?_, ?_⟩; (focus ((repeat' (first | exact At.head | apply At.tail | apply At.right)); done)))))))), A.cast (by kernel_rfl) (H1_123 _ _ ⟨ov, b1, b2, b3, hov, ⟨rfl, rfl, rfl, rfl, rfl, rfl, rfl, rfl, rfl, trivial⟩, (by (focus ((repeat' (first | exact Keep.nil _ | exact Ext.one _ _ | exact Ext.here _ _ | apply Keep.cons | apply Keep.app | apply Ext.cons)); done)))⟩)⟩
    intro H1_12
    refine A.merge (fun σ L => ∃ (ov : Ov) (b1 : Nat) (b3 : Nat), OvOk 1 ov B1.length (u8s B1) ∧ Sub [(5, .pointer (some ⟨bw, 0, none⟩)), (12, .int .i64 c.id), (16, .int .i64 c.roles), (20, .int .i64 c.exp), (24, .int .i64 c.ser), (14, .pointer (some ⟨bw, 0, none⟩)), (17, .slice (some ⟨b1, 0, none⟩) 1 1), (25, .slice (some ⟨b3, 0, none⟩) 1 1)] σ ∧ Keep L (WL bw ov B1 ++ [(bc, .cells ⟨[.int .i64 c.id, .int .i64 c.roles, .int .i64 c.exp, .int .i64 c.ser]⟩ 71 (0, 0)), (b1, .cells ⟨[.int .i64 c.roles]⟩ 3 (0, 0)), (b3, .cells ⟨[.int .i64 c.ser]⟩ 3 (0, 0))])) 9 #[true, true, true, true, true, true, true, false, true, true, false, false, true, true, true, false, false, false, false, false, false] ?_ ?_
    · rintro σ L ⟨ov, b1, b3, hov, hs, hk⟩
      refine A.weak ?_ hs hk
      refine A.multi [7, 10] (by kernel_rfl) (by decide) ⟨⟨_, rfl, ?_⟩, ⟨_, rfl, ?_⟩, trivial⟩
      · (apply R.callE (Li := WL bw ov B1); (iterate 3 exact rfl); (focus ((repeat' (exact Ext.here _ _)); done)); intro w1 hw1; have h9 := number1_ok bw ov B1 hov 0 c.roles hf2 hl1 b1 _ _ w1 (hw1.get _ _ (At.mem (by (focus ((repeat' (first | exact At.head | apply At.tail | apply At.right)); done))))) (RdSl.off hw1 (by (focus ((repeat' (exact Ext.here _ _)); done))) (At.mem (by (focus ((repeat' (first | exact At.head | apply At.tail)); done))))); rw [← hB2] at h9; exact h9; rintro v Lo ⟨ov1, rfl, hov1, rfl⟩); apply R.nil; refine ⟨(by (focus ((repeat' (first | exact trivial | (refine ⟨?_, ?_⟩; (focus ((repeat' (first | exact At.head | apply At.tail | apply At.right)); done)))))))), A.cast (by kernel_rfl) (H2_3 _ _ ⟨ov1, b3, hov1, ⟨rfl, rfl, rfl, rfl, rfl, rfl, rfl, trivial⟩, (by (focus ((repeat' (first | exact Keep.nil _ | exact Ext.one _ _ | exact Ext.here _ _ | apply Keep.cons | apply Keep.app | apply Ext.cons)); done)))⟩)⟩
      · (((apply R.buildSlice; (iterate 12 exact rfl); intro))); rename_i b2; apply R.nil; refine ⟨(by (focus ((repeat' (first | exact trivial | (refine ⟨?_, ?_⟩; (focus ((repeat' (first | exact At.head | apply At.tail | apply At.right)); done)))))))), A.cast (by kernel_rfl) (H1_123 _ _ ⟨ov, b1, b2, b3, hov, ⟨rfl, rfl, rfl, rfl, rfl, rfl, rfl, rfl, rfl, trivial⟩, (by (focus ((repeat' (first | exact Keep.nil _ | exact Ext.one _ _ | exact Ext.here _ _ | apply Keep.cons | apply Keep.app | apply Ext.cons)); done)))⟩)⟩
    intro H1_13
    refine A.merge (fun σ L => ∃ (ov : Ov) (b2 : Nat) (b3 : Nat), OvOk 1 ov B1.length (u8s B1) ∧ Sub [(5, .pointer (some ⟨bw, 0, none⟩)), (12, .int .i64 c.id), (16, .int .i64 c.roles), (20, .int .i64 c.exp), (24, .int .i64 c.ser), (14, .pointer (some ⟨bw, 0, none⟩)), (21, .slice (some ⟨b2, 0, none⟩) 1 1), (25, .slice (some ⟨b3, 0, none⟩) 1 1)] σ ∧ Keep L (WL bw ov B1 ++ [(bc, .cells ⟨[.int .i64 c.id, .int .i64 c.roles, .int .i64 c.exp, .int .i64 c.ser]⟩ 71 (0, 0)), (b2, .cells ⟨[.int .i64 c.exp]⟩ 3 (0, 0)), (b3, .cells ⟨[.int .i64 c.ser]⟩ 3 (0, 0))])) 9 #[true, true, true, true, true, true, false, false, true, true, true, false, true, true, true, false, false, false, false, false, false] ?_ ?_
    · rintro σ L ⟨ov, b2, b3, hov, hs, hk⟩
      refine A.weak ?_ hs hk
      refine A.multi [6] (by kernel_rfl) (by decide) ⟨⟨_, rfl, ?_⟩, trivial⟩
      · (((apply R.buildSlice; (iterate 12 exact rfl); intro))); rename_i b1; apply R.nil; refine ⟨(by (focus ((repeat' (first | exact trivial | (refine ⟨?_, ?_⟩; (focus ((repeat' (first | exact At.head | apply At.tail | apply At.right)); done)))))))), A.cast (by kernel_rfl) (H1_123 _ _ ⟨ov, b1, b2, b3, hov, ⟨rfl, rfl, rfl, rfl, rfl, rfl, rfl, rfl, rfl, trivial⟩, (by (focus ((repeat' (first | exact Keep.nil _ | exact Ext.one _ _ | exact Ext.here _ _ | apply Keep.cons | apply Keep.app | apply Ext.cons)); done)))⟩)⟩
    intro H1_23
    refine A.merge (fun σ L => ∃ (ov : Ov) (b1 : Nat), OvOk 1 ov B1.length (u8s B1) ∧ Sub [(5, .pointer (some ⟨bw, 0, none⟩)), (12, .int .i64 c.id), (16, .int .i64 c.roles), (20, .int .i64 c.exp), (24, .int .i64 c.ser), (14, .pointer (some ⟨bw, 0, none⟩)), (17, .slice (some ⟨b1, 0, none⟩) 1 1)] σ ∧ Keep L (WL bw ov B1 ++ [(bc, .cells ⟨[.int .i64 c.id, .int .i64 c.roles, .int .i64 c.exp, .int .i64 c.ser]⟩ 71 (0, 0)), (b1, .cells ⟨[.int .i64 c.roles]⟩ 3 (0, 0))])) 10 #[true, true, true, true, true, true, true, false, true, true, false, false, true, true, false, false, false, false, false, false, false] ?_ ?_
    · rintro σ L ⟨ov, b1, hov, hs, hk⟩
      refine A.weak ?_ hs hk
      refine A.multi [7, 10, 14] (by kernel_rfl) (by decide) ⟨⟨_, rfl, ?_⟩, ⟨_, rfl, ?_⟩, ⟨_, rfl, ?_⟩, trivial⟩
      · (apply R.callE (Li := WL bw ov B1); (iterate 3 exact rfl); (focus ((repeat' (exact Ext.here _ _)); done)); intro w1 hw1; have h9 := number1_ok bw ov B1 hov 0 c.roles hf2 hl1 b1 _ _ w1 (hw1.get _ _ (At.mem (by (focus ((repeat' (first | exact At.head | apply At.tail | apply At.right)); done))))) (RdSl.off hw1 (by (focus ((repeat' (exact Ext.here _ _)); done))) (At.mem (by (focus ((repeat' (first | exact At.head | apply At.tail)); done))))); rw [← hB2] at h9; exact h9; rintro v Lo ⟨ov1, rfl, hov1, rfl⟩); apply R.nil; refine ⟨(by (focus ((repeat' (first | exact trivial | (refine ⟨?_, ?_⟩; (focus ((repeat' (first | exact At.head | apply At.tail | apply At.right)); done)))))))), A.cast (by kernel_rfl) (H2_ _ _ ⟨ov1, hov1, ⟨rfl, rfl, rfl, rfl, rfl, rfl, trivial⟩, (by (focus ((repeat' (first | exact Keep.nil _ | exact Ext.one _ _ | exact Ext.here _ _ | apply Keep.cons | apply Keep.app)); done)))⟩)⟩
      · (((apply R.buildSlice; (iterate 12 exact rfl); intro))); rename_i b2; apply R.nil; refine ⟨(by (focus ((repeat' (first | exact trivial | (refine ⟨?_, ?_⟩; (focus ((repeat' (first | exact At.head | apply At.tail | apply At.right)); done)))))))), A.cast (by kernel_rfl) (H1_12 _ _ ⟨ov, b1, b2, hov, ⟨rfl, rfl, rfl, rfl, rfl, rfl, rfl, rfl, trivial⟩, (by (focus ((repeat' (first | exact Keep.nil _ | exact Ext.one _ _ | exact Ext.here _ _ | apply Keep.cons | apply Keep.app | apply Ext.cons)); done)))⟩)⟩
      · (((apply R.buildSlice; (iterate 12 exact rfl); intro))); rename_i b3; apply R.nil; refine ⟨(by (focus ((repeat' (first | exact trivial | (refine ⟨?_, ?_⟩; (focus ((repeat' (first | exact At.head | apply At.tail | apply At.right)); done)))))))), A.cast (by kernel_rfl) (H1_13 _ _ ⟨ov, b1, b3, hov, ⟨rfl, rfl, rfl, rfl, rfl, rfl, rfl, rfl, trivial⟩, (by (focus ((repeat' (first | exact Keep.nil _ | exact Ext.one _ _ | exact Ext.here _ _ | apply Keep.cons | apply Keep.app | apply Ext.cons)); done)))⟩)⟩
    intro H1_1
    refine A.merge (fun σ L => ∃ (ov : Ov) (b2 : Nat), OvOk 1 ov B1.length (u8s B1) ∧ Sub [(5, .pointer (some ⟨bw, 0, none⟩)), (12, .int .i64 c.id), (16, .int .i64 c.roles), (20, .int .i64 c.exp), (24, .int .i64 c.ser), (14, .pointer (some ⟨bw, 0, none⟩)), (21, .slice (some ⟨b2, 0, none⟩) 1 1)] σ ∧ Keep L (WL bw ov B1 ++ [(bc, .cells ⟨[.int .i64 c.id, .int .i64 c.roles, .int .i64 c.exp, .int .i64 c.ser]⟩ 71 (0, 0)), (b2, .cells ⟨[.int .i64 c.exp]⟩ 3 (0, 0))])) 10 #[true, true, true, true, true, true, false, false, true, true, true, false, true, true, false, false, false, false, false, false, false] ?_ ?_
    · rintro σ L ⟨ov, b2, hov, hs, hk⟩
      refine A.weak ?_ hs hk
      refine A.multi [6, 14] (by kernel_rfl) (by decide) ⟨⟨_, rfl, ?_⟩, ⟨_, rfl, ?_⟩, trivial⟩
      · (((apply R.buildSlice; (iterate 12 exact rfl); intro))); rename_i b1; apply R.nil; refine ⟨(by (focus ((repeat' (first | exact trivial | (refine ⟨?_, ?_⟩; (focus ((repeat' (first | exact At.head | apply At.tail | apply At.right)); done)))))))), A.cast (by kernel_rfl) (H1_12 _ _ ⟨ov, b1, b2, hov, ⟨rfl, rfl, rfl, rfl, rfl, rfl, rfl, rfl, trivial⟩, (by (focus ((repeat' (first | exact Keep.nil _ | exact Ext.one _ _ | exact Ext.here _ _ | apply Keep.cons | apply Keep.app | apply Ext.cons)); done)))⟩)⟩
      · (((apply R.buildSlice; (iterate 12 exact rfl); intro))); rename_i b3; apply R.nil; refine ⟨(by (focus ((repeat' (first | exact trivial | (refine ⟨?_, ?_⟩; (focus ((repeat' (first | exact At.head | apply At.tail | apply At.right)); done)))))))), A.cast (by kernel_rfl) (H1_23 _ _ ⟨ov, b2, b3, hov, ⟨rfl, rfl, rfl, rfl, rfl, rfl, rfl, rfl, trivial⟩, (by (focus ((repeat' (first | exact Keep.nil _ | exact Ext.one _ _ | exact Ext.here _ _ | apply Keep.cons | apply Keep.app | apply Ext.cons)); done)))⟩)⟩
    intro H1_2
    refine A.merge (fun σ L => ∃ (ov : Ov) (b3 : Nat), OvOk 1 ov B1.length (u8s B1) ∧ Sub [(5, .pointer (some ⟨bw, 0, none⟩)), (12, .int .i64 c.id), (16, .int .i64 c.roles), (20, .int .i64 c.exp), (24, .int .i64 c.ser), (14, .pointer (some ⟨bw, 0, none⟩)), (25, .slice (some ⟨b3, 0, none⟩) 1 1)] σ ∧ Keep L (WL bw ov B1 ++ [(bc, .cells ⟨[.int .i64 c.id, .int .i64 c.roles, .int .i64 c.exp, .int .i64 c.ser]⟩ 71 (0, 0)), (b3, .cells ⟨[.int .i64 c.ser]⟩ 3 (0, 0))])) 10 #[true, true, true, true, true, true, false, false, true, true, false, false, true, true, true, false, false, false, false, false, false] ?_ ?_
    · rintro σ L ⟨ov, b3, hov, hs, hk⟩
      refine A.weak ?_ hs hk
      refine A.multi [6, 10] (by kernel_rfl) (by decide) ⟨⟨_, rfl, ?_⟩, ⟨_, rfl, ?_⟩, trivial⟩
      · (((apply R.buildSlice; (iterate 12 exact rfl); intro))); rename_i b1; apply R.nil; refine ⟨(by (focus ((repeat' (first | exact trivial | (refine ⟨?_, ?_⟩; (focus ((repeat' (first | exact At.head | apply At.tail | apply At.right)); done)))))))), A.cast (by kernel_rfl) (H1_13 _ _ ⟨ov, b1, b3, hov, ⟨rfl, rfl, rfl, rfl, rfl, rfl, rfl, rfl, trivial⟩, (by (focus ((repeat' (first | exact Keep.nil _ | exact Ext.one _ _ | exact Ext.here _ _ | apply Keep.cons | apply Keep.app | apply Ext.cons)); done)))⟩)⟩
      · (((apply R.buildSlice; (iterate 12 exact rfl); intro))); rename_i b2; apply R.nil; refine ⟨(by (focus ((repeat' (first | exact trivial | (refine ⟨?_, ?_⟩; (focus ((repeat' (first | exact At.head | apply At.tail | apply At.right)); done)))))))), A.cast (by kernel_rfl) (H1_23 _ _ ⟨ov, b2, b3, hov, ⟨rfl, rfl, rfl, rfl, rfl, rfl, rfl, rfl, trivial⟩, (by (focus ((repeat' (first | exact Keep.nil _ | exact Ext.one _ _ | exact Ext.here _ _ | apply Keep.cons | apply Keep.app | apply Ext.cons)); done)))⟩)⟩
    intro H1_3
    refine A.merge (fun σ L => ∃ (ov : Ov), OvOk 1 ov B1.length (u8s B1) ∧ Sub [(5, .pointer (some ⟨bw, 0, none⟩)), (12, .int .i64 c.id), (16, .int .i64 c.roles), (20, .int .i64 c.exp), (24, .int .i64 c.ser), (14, .pointer (some ⟨bw, 0, none⟩))] σ ∧ Keep L (WL bw ov B1 ++ [(bc, .cells ⟨[.int .i64 c.id, .int .i64 c.roles, .int .i64 c.exp, .int .i64 c.ser]⟩ 71 (0, 0))])) 11 #[true, true, true, true, true, true, false, false, true, true, false, false, true, true, false, false, false, false, false, false, false] ?_ ?_
    · rintro σ L ⟨ov, hov, hs, hk⟩
      refine A.weak ?_ hs hk
      refine A.multi [6, 10, 14] (by kernel_rfl) (by decide) ⟨⟨_, rfl, ?_⟩, ⟨_, rfl, ?_⟩, ⟨_, rfl, ?_⟩, trivial⟩
      · (((apply R.buildSlice; (iterate 12 exact rfl); intro))); rename_i b1; apply R.nil; refine ⟨(by (focus ((repeat' (first | exact trivial | (refine ⟨?_, ?_⟩; (focus ((repeat' (first | exact At.head | apply At.tail | apply At.right)); done)))))))), A.cast (by kernel_rfl) (H1_1 _ _ ⟨ov, b1, hov, ⟨rfl, rfl, rfl, rfl, rfl, rfl, rfl, trivial⟩, (by (focus ((repeat' (first | exact Keep.nil _ | exact Ext.one _ _ | exact Ext.here _ _ | apply Keep.cons | apply Keep.app | apply Ext.cons)); done)))⟩)⟩
      · (((apply R.buildSlice; (iterate 12 exact rfl); intro))); rename_i b2; apply R.nil; refine ⟨(by (focus ((repeat' (first | exact trivial | (refine ⟨?_, ?_⟩; (focus ((repeat' (first | exact At.head | apply At.tail | apply At.right)); done)))))))), A.cast (by kernel_rfl) (H1_2 _ _ ⟨ov, b2, hov, ⟨rfl, rfl, rfl, rfl, rfl, rfl, rfl, trivial⟩, (by (focus ((repeat' (first | exact Keep.nil _ | exact Ext.one _ _ | exact Ext.here _ _ | apply Keep.cons | apply Keep.app | apply Ext.cons)); done)))⟩)⟩
      · (((apply R.buildSlice; (iterate 12 exact rfl); intro))); rename_i b3; apply R.nil; refine ⟨(by (focus ((repeat' (first | exact trivial | (refine ⟨?_, ?_⟩; (focus ((repeat' (first | exact At.head | apply At.tail | apply At.right)); done)))))))), A.cast (by kernel_rfl) (H1_3 _ _ ⟨ov, b3, hov, ⟨rfl, rfl, rfl, rfl, rfl, rfl, rfl, trivial⟩, (by (focus ((repeat' (first | exact Keep.nil _ | exact Ext.one _ _ | exact Ext.here _ _ | apply Keep.cons | apply Keep.app | apply Ext.cons)); done)))⟩)⟩
    intro H1_
    refine A.merge (fun σ L => ∃ (ov : Ov) (b0 : Nat) (b1 : Nat) (b2 : Nat) (b3 : Nat), OvOk 1 ov B0.length (u8s B0) ∧ Sub [(5, .pointer (some ⟨bw, 0, none⟩)), (12, .int .i64 c.id), (16, .int .i64 c.roles), (20, .int .i64 c.exp), (24, .int .i64 c.ser), (13, .slice (some ⟨b0, 0, none⟩) 1 1), (17, .slice (some ⟨b1, 0, none⟩) 1 1), (21, .slice (some ⟨b2, 0, none⟩) 1 1), (25, .slice (some ⟨b3, 0, none⟩) 1 1)] σ ∧ Keep L (WL bw ov B0 ++ [(bc, .cells ⟨[.int .i64 c.id, .int .i64 c.roles, .int .i64 c.exp, .int .i64 c.ser]⟩ 71 (0, 0)), (b0, .cells ⟨[.int .i64 c.id]⟩ 3 (0, 0)), (b1, .cells ⟨[.int .i64 c.roles]⟩ 3 (0, 0)), (b2, .cells ⟨[.int .i64 c.exp]⟩ 3 (0, 0)), (b3, .cells ⟨[.int .i64 c.ser]⟩ 3 (0, 0))])) 9 #[true, true, true, false, true, true, true, false, true, true, true, false, true, true, true, false, false, false, false, false, false] ?_ ?_
    · rintro σ L ⟨ov, b0, b1, b2, b3, hov, hs, hk⟩
      refine A.weak ?_ hs hk
      refine A.multi [3] (by kernel_rfl) (by decide) ⟨⟨_, rfl, ?_⟩, trivial⟩
      · (apply R.callE (Li := WL bw ov B0); (iterate 3 exact rfl); (focus ((repeat' (exact Ext.here _ _)); done)); intro w1 hw1; have h9 := number1_ok bw ov B0 hov 1 c.id hf1 hl0 b0 _ _ w1 (hw1.get _ _ (At.mem (by (focus ((repeat' (first | exact At.head | apply At.tail | apply At.right)); done))))) (RdSl.off hw1 (by (focus ((repeat' (exact Ext.here _ _)); done))) (At.mem (by (focus ((repeat' (first | exact At.head | apply At.tail)); done))))); rw [← hB1] at h9; exact h9; rintro v Lo ⟨ov1, rfl, hov1, rfl⟩); apply R.nil; refine ⟨(by (focus ((repeat' (first | exact trivial | (refine ⟨?_, ?_⟩; (focus ((repeat' (first | exact At.head | apply At.tail | apply At.right)); done)))))))), A.cast (by kernel_rfl) (H1_123 _ _ ⟨ov1, b1, b2, b3, hov1, ⟨rfl, rfl, rfl, rfl, rfl, rfl, rfl, rfl, rfl, trivial⟩, (by (focus ((repeat' (first | exact Keep.nil _ | exact Ext.one _ _ | exact Ext.here _ _ | apply Keep.cons | apply Keep.app | apply Ext.cons)); done)))⟩)⟩
    intro H0_0123
    refine A.merge (fun σ L => ∃ (ov : Ov) (b0 : Nat) (b1 : Nat) (b2 : Nat), OvOk 1 ov B0.length (u8s B0) ∧ Sub [(5, .pointer (some ⟨bw, 0, none⟩)), (12, .int .i64 c.id), (16, .int .i64 c.roles), (20, .int .i64 c.exp), (24, .int .i64 c.ser), (13, .slice (some ⟨b0, 0, none⟩) 1 1), (17, .slice (some ⟨b1, 0, none⟩) 1 1), (21, .slice (some ⟨b2, 0, none⟩) 1 1)] σ ∧ Keep L (WL bw ov B0 ++ [(bc, .cells ⟨[.int .i64 c.id, .int .i64 c.roles, .int .i64 c.exp, .int .i64 c.ser]⟩ 71 (0, 0)), (b0, .cells ⟨[.int .i64 c.id]⟩ 3 (0, 0)), (b1, .cells ⟨[.int .i64 c.roles]⟩ 3 (0, 0)), (b2, .cells ⟨[.int .i64 c.exp]⟩ 3 (0, 0))])) 10 #[true, true, true, false, true, true, true, false, true, true, true, false, true, true, false, false, false, false, false, false, false] ?_ ?_
    · rintro σ L ⟨ov, b0, b1, b2, hov, hs, hk⟩
      refine A.weak ?_ hs hk
      refine A.multi [3, 14] (by kernel_rfl) (by decide) ⟨⟨_, rfl, ?_⟩, ⟨_, rfl, ?_⟩, trivial⟩
      · (apply R.callE (Li := WL bw ov B0); (iterate 3 exact rfl); (focus ((repeat' (exact Ext.here _ _)); done)); intro w1 hw1; have h9 := number1_ok bw ov B0 hov 1 c.id hf1 hl0 b0 _ _ w1 (hw1.get _ _ (At.mem (by (focus ((repeat' (first | exact At.head | apply At.tail | apply At.right)); done))))) (RdSl.off hw1 (by (focus ((repeat' (exact Ext.here _ _)); done))) (At.mem (by (focus ((repeat' (first | exact At.head | apply At.tail)); done))))); rw [← hB1] at h9; exact h9; rintro v Lo ⟨ov1, rfl, hov1, rfl⟩); apply R.nil; refine ⟨(by (focus ((repeat' (first | exact trivial | (refine ⟨?_, ?_⟩; (focus ((repeat' (first | exact At.head | apply At.tail | apply At.right)); done)))))))), A.cast (by kernel_rfl) (H1_12 _ _ ⟨ov1, b1, b2, hov1, ⟨rfl, rfl, rfl, rfl, rfl, rfl, rfl, rfl, trivial⟩, (by (focus ((repeat' (first | exact Keep.nil _ | exact Ext.one _ _ | exact Ext.here _ _ | apply Keep.cons | apply Keep.app | apply Ext.cons)); done)))⟩)⟩
      · (((apply R.buildSlice; (iterate 12 exact rfl); intro))); rename_i b3; apply R.nil; refine ⟨(by (focus ((repeat' (first | exact trivial | (refine ⟨?_, ?_⟩; (focus ((repeat' (first | exact At.head | apply At.tail | apply At.right)); done)))))))), A.cast (by kernel_rfl) (H0_0123 _ _ ⟨ov, b0, b1, b2, b3, hov, ⟨rfl, rfl, rfl, rfl, rfl, rfl, rfl, rfl, rfl, trivial⟩, (by (focus ((repeat' (first | exact Keep.nil _ | exact Ext.one _ _ | exact Ext.here _ _ | apply Keep.cons | apply Keep.app | apply Ext.cons)); done)))⟩)⟩
    intro H0_012
    refine A.merge (fun σ L => ∃ (ov : Ov) (b0 : Nat) (b1 : Nat) (b3 : Nat), OvOk 1 ov B0.length (u8s B0) ∧ Sub [(5, .pointer (some ⟨bw, 0, none⟩)), (12, .int .i64 c.id), (16, .int .i64 c.roles), (20, .int .i64 c.exp), (24, .int .i64 c.ser), (13, .slice (some ⟨b0, 0, none⟩) 1 1), (17, .slice (some ⟨b1, 0, none⟩) 1 1), (25, .slice (some ⟨b3, 0, none⟩) 1 1)] σ ∧ Keep L (WL bw ov B0 ++ [(bc, .cells ⟨[.int .i64 c.id, .int .i64 c.roles, .int .i64 c.exp, .int .i64 c.ser]⟩ 71 (0, 0)), (b0, .cells ⟨[.int .i64 c.id]⟩ 3 (0, 0)), (b1, .cells ⟨[.int .i64 c.roles]⟩ 3 (0, 0)), (b3, .cells ⟨[.int .i64 c.ser]⟩ 3 (0, 0))])) 10 #[true, true, true, false, true, true, true, false, true, true, false, false, true, true, true, false, false, false, false, false, false] ?_ ?_
    · rintro σ L ⟨ov, b0, b1, b3, hov, hs, hk⟩
      refine A.weak ?_ hs hk
      refine A.multi [3, 10] (by kernel_rfl) (by decide) ⟨⟨_, rfl, ?_⟩, ⟨_, rfl, ?_⟩, trivial⟩
      · (apply R.callE (Li := WL bw ov B0); (iterate 3 exact rfl); (focus ((repeat' (exact Ext.here _ _)); done)); intro w1 hw1; have h9 := number1_ok bw ov B0 hov 1 c.id hf1 hl0 b0 _ _ w1 (hw1.get _ _ (At.mem (by (focus ((repeat' (first | exact At.head | apply At.tail | apply At.right)); done))))) (RdSl.off hw1 (by (focus ((repeat' (exact Ext.here _ _)); done))) (At.mem (by (focus ((repeat' (first | exact At.head | apply At.tail)); done))))); rw [← hB1] at h9; exact h9; rintro v Lo ⟨ov1, rfl, hov1, rfl⟩); apply R.nil; refine ⟨(by (focus ((repeat' (first | exact trivial | (refine ⟨?_, ?_⟩; (focus ((repeat' (first | exact At.head | apply At.tail | apply At.right)); done)))))))), A.cast (by kernel_rfl) (H1_13 _ _ ⟨ov1, b1, b3, hov1, ⟨rfl, rfl, rfl, rfl, rfl, rfl, rfl, rfl, trivial⟩, (by (focus ((repeat' (first | exact Keep.nil _ | exact Ext.one _ _ | exact Ext.here _ _ | apply Keep.cons | apply Keep.app | apply Ext.cons)); done)))⟩)⟩
      · (((apply R.buildSlice; (iterate 12 exact rfl); intro))); rename_i b2; apply R.nil; refine ⟨(by (focus ((repeat' (first | exact trivial | (refine ⟨?_, ?_⟩; (focus ((repeat' (first | exact At.head | apply At.tail | apply At.right)); done)))))))), A.cast (by kernel_rfl) (H0_0123 _ _ ⟨ov, b0, b1, b2, b3, hov, ⟨rfl, rfl, rfl, rfl, rfl, rfl, rfl, rfl, rfl, trivial⟩, (by (focus ((repeat' (first | exact Keep.nil _ | exact Ext.one _ _ | exact Ext.here _ _ | apply Keep.cons | apply Keep.app | apply Ext.cons)); done)))⟩)⟩
    intro H0_013
    refine A.merge (fun σ L => ∃ (ov : Ov) (b0 : Nat) (b2 : Nat) (b3 : Nat), OvOk 1 ov B0.length (u8s B0) ∧ Sub [(5, .pointer (some ⟨bw, 0, none⟩)), (12, .int .i64 c.id), (16, .int .i64 c.roles), (20, .int .i64 c.exp), (24, .int .i64 c.ser), (13, .slice (some ⟨b0, 0, none⟩) 1 1), (21, .slice (some ⟨b2, 0, none⟩) 1 1), (25, .slice (some ⟨b3, 0, none⟩) 1 1)] σ ∧ Keep L (WL bw ov B0 ++ [(bc, .cells ⟨[.int .i64 c.id, .int .i64 c.roles, .int .i64 c.exp, .int .i64 c.ser]⟩ 71 (0, 0)), (b0, .cells ⟨[.int .i64 c.id]⟩ 3 (0, 0)), (b2, .cells ⟨[.int .i64 c.exp]⟩ 3 (0, 0)), (b3, .cells ⟨[.int .i64 c.ser]⟩ 3 (0, 0))])) 10 #[true, true, true, false, true, true, false, false, true, true, true, false, true, true, true, false, false, false, false, false, false] ?_ ?_
    · rintro σ L ⟨ov, b0, b2, b3, hov, hs, hk⟩
      refine A.weak ?_ hs hk
      refine A.multi [3, 6] (by kernel_rfl) (by decide) ⟨⟨_, rfl, ?_⟩, ⟨_, rfl, ?_⟩, trivial⟩
      · (apply R.callE (Li := WL bw ov B0); (iterate 3 exact rfl); (focus ((repeat' (exact Ext.here _ _)); done)); intro w1 hw1; have h9 := number1_ok bw ov B0 hov 1 c.id hf1 hl0 b0 _ _ w1 (hw1.get _ _ (At.mem (by (focus ((repeat' (first | exact At.head | apply At.tail | apply At.right)); done))))) (RdSl.off hw1 (by (focus ((repeat' (exact Ext.here _ _)); done))) (At.mem (by (focus ((repeat' (first | exact At.head | apply At.tail)); done))))); rw [← hB1] at h9; exact h9; rintro v Lo ⟨ov1, rfl, hov1, rfl⟩); apply R.nil; refine ⟨(by (focus ((repeat' (first | exact trivial | (refine ⟨?_, ?_⟩; (focus ((repeat' (first | exact At.head | apply At.tail | apply At.right)); done)))))))), A.cast (by kernel_rfl) (H1_23 _ _ ⟨ov1, b2, b3, hov1, ⟨rfl, rfl, rfl, rfl, rfl, rfl, rfl, rfl, trivial⟩, (by (focus ((repeat' (first | exact Keep.nil _ | exact Ext.one _ _ | exact Ext.here _ _ | apply Keep.cons | apply Keep.app | apply Ext.cons)); done)))⟩)⟩
      · (((apply R.buildSlice; (iterate 12 exact rfl); intro))); rename_i b1; apply R.nil; refine ⟨(by (focus ((repeat' (first | exact trivial | (refine ⟨?_, ?_⟩; (focus ((repeat' (first | exact At.head | apply At.tail | apply At.right)); done)))))))), A.cast (by kernel_rfl) (H0_0123 _ _ ⟨ov, b0, b1, b2, b3, hov, ⟨rfl, rfl, rfl, rfl, rfl, rfl, rfl, rfl, rfl, trivial⟩, (by (focus ((repeat' (first | exact Keep.nil _ | exact Ext.one _ _ | exact Ext.here _ _ | apply Keep.cons | apply Keep.app | apply Ext.cons)); done)))⟩)⟩
    intro H0_023
    refine A.merge (fun σ L => ∃ (ov : Ov) (b1 : Nat) (b2 : Nat) (b3 : Nat), OvOk 1 ov B0.length (u8s B0) ∧ Sub [(5, .pointer (some ⟨bw, 0, none⟩)), (12, .int .i64 c.id), (16, .int .i64 c.roles), (20, .int .i64 c.exp), (24, .int .i64 c.ser), (17, .slice (some ⟨b1, 0, none⟩) 1 1), (21, .slice (some ⟨b2, 0, none⟩) 1 1), (25, .slice (some ⟨b3, 0, none⟩) 1 1)] σ ∧ Keep L (WL bw ov B0 ++ [(bc, .cells ⟨[.int .i64 c.id, .int .i64 c.roles, .int .i64 c.exp, .int .i64 c.ser]⟩ 71 (0, 0)), (b1, .cells ⟨[.int .i64 c.roles]⟩ 3 (0, 0)), (b2, .cells ⟨[.int .i64 c.exp]⟩ 3 (0, 0)), (b3, .cells ⟨[.int .i64 c.ser]⟩ 3 (0, 0))])) 10 #[true, true, false, false, true, true, true, false, true, true, true, false, true, true, true, false, false, false, false, false, false] ?_ ?_
    · rintro σ L ⟨ov, b1, b2, b3, hov, hs, hk⟩
      refine A.weak ?_ hs hk
      refine A.multi [2] (by kernel_rfl) (by decide) ⟨⟨_, rfl, ?_⟩, trivial⟩
      · (((apply R.buildSlice; (iterate 12 exact rfl); intro))); rename_i b0; apply R.nil; refine ⟨(by (focus ((repeat' (first | exact trivial | (refine ⟨?_, ?_⟩; (focus ((repeat' (first | exact At.head | apply At.tail | apply At.right)); done)))))))), A.cast (by kernel_rfl) (H0_0123 _ _ ⟨ov, b0, b1, b2, b3, hov, ⟨rfl, rfl, rfl, rfl, rfl, rfl, rfl, rfl, rfl, trivial⟩, (by (focus ((repeat' (first | exact Keep.nil _ | exact Ext.one _ _ | exact Ext.here _ _ | apply Keep.cons | apply Keep.app | apply Ext.cons)); done)))⟩)⟩
    intro H0_123
    refine A.merge (fun σ L => ∃ (ov : Ov) (b0 : Nat) (b1 : Nat), OvOk 1 ov B0.length (u8s B0) ∧ Sub [(5, .pointer (some ⟨bw, 0, none⟩)), (12, .int .i64 c.id), (16, .int .i64 c.roles), (20, .int .i64 c.exp), (24, .int .i64 c.ser), (13, .slice (some ⟨b0, 0, none⟩) 1 1), (17, .slice (some ⟨b1, 0, none⟩) 1 1)] σ ∧ Keep L (WL bw ov B0 ++ [(bc, .cells ⟨[.int .i64 c.id, .int .i64 c.roles, .int .i64 c.exp, .int .i64 c.ser]⟩ 71 (0, 0)), (b0, .cells ⟨[.int .i64 c.id]⟩ 3 (0, 0)), (b1, .cells ⟨[.int .i64 c.roles]⟩ 3 (0, 0))])) 11 #[true, true, true, false, true, true, true, false, true, true, false, false, true, true, false, false, false, false, false, false, false] ?_ ?_
    · rintro σ L ⟨ov, b0, b1, hov, hs, hk⟩
      refine A.weak ?_ hs hk
      refine A.multi [3, 10, 14] (by kernel_rfl) (by decide) ⟨⟨_, rfl, ?_⟩, ⟨_, rfl, ?_⟩, ⟨_, rfl, ?_⟩, trivial⟩
      · (apply R.callE (Li := WL bw ov B0); (iterate 3 exact rfl); (focus ((repeat' (exact Ext.here _ _)); done)); intro w1 hw1; have h9 := number1_ok bw ov B0 hov 1 c.id hf1 hl0 b0 _ _ w1 (hw1.get _ _ (At.mem (by (focus ((repeat' (first | exact At.head | apply At.tail | apply At.right)); done))))) (RdSl.off hw1 (by (focus ((repeat' (exact Ext.here _ _)); done))) (At.mem (by (focus ((repeat' (first | exact At.head | apply At.tail)); done))))); rw [← hB1] at h9; exact h9; rintro v Lo ⟨ov1, rfl, hov1, rfl⟩); apply R.nil; refine ⟨(by (focus ((repeat' (first | exact trivial | (refine ⟨?_, ?_⟩; (focus ((repeat' (first | exact At.head | apply At.tail | apply At.right)); done)))))))), A.cast (by kernel_rfl) (H1_1 _ _ ⟨ov1, b1, hov1, ⟨rfl, rfl, rfl, rfl, rfl, rfl, rfl, trivial⟩, (by (focus ((repeat' (first | exact Keep.nil _ | exact Ext.one _ _ | exact Ext.here _ _ | apply Keep.cons | apply Keep.app | apply Ext.cons)); done)))⟩)⟩
      · (((apply R.buildSlice; (iterate 12 exact rfl); intro))); rename_i b2; apply R.nil; refine ⟨(by (focus ((repeat' (first | exact trivial | (refine ⟨?_, ?_⟩; (focus ((repeat' (first | exact At.head | apply At.tail | apply At.right)); done)))))))), A.cast (by kernel_rfl) (H0_012 _ _ ⟨ov, b0, b1, b2, hov, ⟨rfl, rfl, rfl, rfl, rfl, rfl, rfl, rfl, trivial⟩, (by (focus ((repeat' (first | exact Keep.nil _ | exact Ext.one _ _ | exact Ext.here _ _ | apply Keep.cons | apply Keep.app | apply Ext.cons)); done)))⟩)⟩
      · (((apply R.buildSlice; (iterate 12 exact rfl); intro))); rename_i b3; apply R.nil; refine ⟨(by (focus ((repeat' (first | exact trivial | (refine ⟨?_, ?_⟩; (focus ((repeat' (first | exact At.head | apply At.tail | apply At.right)); done)))))))), A.cast (by kernel_rfl) (H0_013 _ _ ⟨ov, b0, b1, b3, hov, ⟨rfl, rfl, rfl, rfl, rfl, rfl, rfl, rfl, trivial⟩, (by (focus ((repeat' (first | exact Keep.nil _ | exact Ext.one _ _ | exact Ext.here _ _ | apply Keep.cons | apply Keep.app | apply Ext.cons)); done)))⟩)⟩
    intro H0_01
    refine A.merge (fun σ L => ∃ (ov : Ov) (b0 : Nat) (b2 : Nat), OvOk 1 ov B0.length (u8s B0) ∧ Sub [(5, .pointer (some ⟨bw, 0, none⟩)), (12, .int .i64 c.id), (16, .int .i64 c.roles), (20, .int .i64 c.exp), (24, .int .i64 c.ser), (13, .slice (some ⟨b0, 0, none⟩) 1 1), (21, .slice (some ⟨b2, 0, none⟩) 1 1)] σ ∧ Keep L (WL bw ov B0 ++ [(bc, .cells ⟨[.int .i64 c.id, .int .i64 c.roles, .int .i64 c.exp, .int .i64 c.ser]⟩ 71 (0, 0)), (b0, .cells ⟨[.int .i64 c.id]⟩ 3 (0, 0)), (b2, .cells ⟨[.int .i64 c.exp]⟩ 3 (0, 0))])) 11 #[true, true, true, false, true, true, false, false, true, true, true, false, true, true, false, false, false, false, false, false, false] ?_ ?_
    · rintro σ L ⟨ov, b0, b2, hov, hs, hk⟩
      refine A.weak ?_ hs hk
      refine A.multi [3, 6, 14] (by kernel_rfl) (by decide) ⟨⟨_, rfl, ?_⟩, ⟨_, rfl, ?_⟩, ⟨_, rfl, ?_⟩, trivial⟩
      · (apply R.callE (Li := WL bw ov B0); (iterate 3 exact rfl); (focus ((repeat' (exact Ext.here _ _)); done)); intro w1 hw1; have h9 := number1_ok bw ov B0 hov 1 c.id hf1 hl0 b0 _ _ w1 (hw1.get _ _ (At.mem (by (focus ((repeat' (first | exact At.head | apply At.tail | apply At.right)); done))))) (RdSl.off hw1 (by (focus ((repeat' (exact Ext.here _ _)); done))) (At.mem (by (focus ((repeat' (first | exact At.head | apply At.tail)); done))))); rw [← hB1] at h9; exact h9; rintro v Lo ⟨ov1, rfl, hov1, rfl⟩); apply R.nil; refine ⟨(by (focus ((repeat' (first | exact trivial | (refine ⟨?_, ?_⟩; (focus ((repeat' (first | exact At.head | apply At.tail | apply At.right)); done)))))))), A.cast (by kernel_rfl) (H1_2 _ _ ⟨ov1, b2, hov1, ⟨rfl, rfl, rfl, rfl, rfl, rfl, rfl, trivial⟩, (by (focus ((repeat' (first | exact Keep.nil _ | exact Ext.one _ _ | exact Ext.here _ _ | apply Keep.cons | apply Keep.app | apply Ext.cons)); done)))⟩)⟩
      · (((apply R.buildSlice; (iterate 12 exact rfl); intro))); rename_i b1; apply R.nil; refine ⟨(by (focus ((repeat' (first | exact trivial | (refine ⟨?_, ?_⟩; (focus ((repeat' (first | exact At.head | apply At.tail | apply At.right)); done)))))))), A.cast (by kernel_rfl) (H0_012 _ _ ⟨ov, b0, b1, b2, hov, ⟨rfl, rfl, rfl, rfl, rfl, rfl, rfl, rfl, trivial⟩, (by (focus ((repeat' (first | exact Keep.nil _ | exact Ext.one _ _ | exact Ext.here _ _ | apply Keep.cons | apply Keep.app | apply Ext.cons)); done)))⟩)⟩
      · (((apply R.buildSlice; (iterate 12 exact rfl); intro))); rename_i b3; apply R.nil; refine ⟨(by (focus ((repeat' (first | exact trivial | (refine ⟨?_, ?_⟩; (focus ((repeat' (first | exact At.head | apply At.tail | apply At.right)); done)))))))), A.cast (by kernel_rfl) (H0_023 _ _ ⟨ov, b0, b2, b3, hov, ⟨rfl, rfl, rfl, rfl, rfl, rfl, rfl, rfl, trivial⟩, (by (focus ((repeat' (first | exact Keep.nil _ | exact Ext.one _ _ | exact Ext.here _ _ | apply Keep.cons | apply Keep.app | apply Ext.cons)); done)))⟩)⟩
    intro H0_02
    refine A.merge (fun σ L => ∃ (ov : Ov) (b0 : Nat) (b3 : Nat), OvOk 1 ov B0.length (u8s B0) ∧ Sub [(5, .pointer (some ⟨bw, 0, none⟩)), (12, .int .i64 c.id), (16, .int .i64 c.roles), (20, .int .i64 c.exp), (24, .int .i64 c.ser), (13, .slice (some ⟨b0, 0, none⟩) 1 1), (25, .slice (some ⟨b3, 0, none⟩) 1 1)] σ ∧ Keep L (WL bw ov B0 ++ [(bc, .cells ⟨[.int .i64 c.id, .int .i64 c.roles, .int .i64 c.exp, .int .i64 c.ser]⟩ 71 (0, 0)), (b0, .cells ⟨[.int .i64 c.id]⟩ 3 (0, 0)), (b3, .cells ⟨[.int .i64 c.ser]⟩ 3 (0, 0))])) 11 #[true, true, true, false, true, true, false, false, true, true, false, false, true, true, true, false, false, false, false, false, false] ?_ ?_
    · rintro σ L ⟨ov, b0, b3, hov, hs, hk⟩
      refine A.weak ?_ hs hk
      refine A.multi [3, 6, 10] (by kernel_rfl) (by decide) ⟨⟨_, rfl, ?_⟩, ⟨_, rfl, ?_⟩, ⟨_, rfl, ?_⟩, trivial⟩
      · (apply R.callE (Li := WL bw ov B0); (iterate 3 exact rfl); (focus ((repeat' (exact Ext.here _ _)); done)); intro w1 hw1; have h9 := number1_ok bw ov B0 hov 1 c.id hf1 hl0 b0 _ _ w1 (hw1.get _ _ (At.mem (by (focus ((repeat' (first | exact At.head | apply At.tail | apply At.right)); done))))) (RdSl.off hw1 (by (focus ((repeat' (exact Ext.here _ _)); done))) (At.mem (by (focus ((repeat' (first | exact At.head | apply At.tail)); done))))); rw [← hB1] at h9; exact h9; rintro v Lo ⟨ov1, rfl, hov1, rfl⟩); apply R.nil; refine ⟨(by (focus ((repeat' (first | exact trivial | (refine ⟨?_, ?_⟩; (focus ((repeat' (first | exact At.head | apply At.tail | apply At.right)); done)))))))), A.cast (by kernel_rfl) (H1_3 _ _ ⟨ov1, b3, hov1, ⟨rfl, rfl, rfl, rfl, rfl, rfl, rfl, trivial⟩, (by (focus ((repeat' (first | exact Keep.nil _ | exact Ext.one _ _ | exact Ext.here _ _ | apply Keep.cons | apply Keep.app | apply Ext.cons)); done)))⟩)⟩
      · (((apply R.buildSlice; (iterate 12 exact rfl); intro))); rename_i b1; apply R.nil; refine ⟨(by (focus ((repeat' (first | exact trivial | (refine ⟨?_, ?_⟩; (focus ((repeat' (first | exact At.head | apply At.tail | apply At.right)); done)))))))), A.cast (by kernel_rfl) (H0_013 _ _ ⟨ov, b0, b1, b3, hov, ⟨rfl, rfl, rfl, rfl, rfl, rfl, rfl, rfl, trivial⟩, (by (focus ((repeat' (first | exact Keep.nil _ | exact Ext.one _ _ | exact Ext.here _ _ | apply Keep.cons | apply Keep.app | apply Ext.cons)); done)))⟩)⟩
      · (((apply R.buildSlice; (iterate 12 exact rfl); intro))); rename_i b2; apply R.nil; refine ⟨(by (focus ((repeat' (first | exact trivial | (refine ⟨?_, ?_⟩; (focus ((repeat' (first | exact At.head | apply At.tail | apply At.right)); done)))))))), A.cast (by kernel_rfl) (H0_023 _ _ ⟨ov, b0, b2, b3, hov, ⟨rfl, rfl, rfl, rfl, rfl, rfl, rfl, rfl, trivial⟩, (by (focus ((repeat' (first | exact Keep.nil _ | exact Ext.one _ _ | exact Ext.here _ _ | apply Keep.cons | apply Keep.app | apply Ext.cons)); done)))⟩)⟩
    intro H0_03
    refine A.merge (fun σ L => ∃ (ov : Ov) (b1 : Nat) (b2 : Nat), OvOk 1 ov B0.length (u8s B0) ∧ Sub [(5, .pointer (some ⟨bw, 0, none⟩)), (12, .int .i64 c.id), (16, .int .i64 c.roles), (20, .int .i64 c.exp), (24, .int .i64 c.ser), (17, .slice (some ⟨b1, 0, none⟩) 1 1), (21, .slice (some ⟨b2, 0, none⟩) 1 1)] σ ∧ Keep L (WL bw ov B0 ++ [(bc, .cells ⟨[.int .i64 c.id, .int .i64 c.roles, .int .i64 c.exp, .int .i64 c.ser]⟩ 71 (0, 0)), (b1, .cells ⟨[.int .i64 c.roles]⟩ 3 (0, 0)), (b2, .cells ⟨[.int .i64 c.exp]⟩ 3 (0, 0))])) 11 #[true, true, false, false, true, true, true, false, true, true, true, false, true, true, false, false, false, false, false, false, false] ?_ ?_
    · rintro σ L ⟨ov, b1, b2, hov, hs, hk⟩
      refine A.weak ?_ hs hk
      refine A.multi [2, 14] (by kernel_rfl) (by decide) ⟨⟨_, rfl, ?_⟩, ⟨_, rfl, ?_⟩, trivial⟩
      · (((apply R.buildSlice; (iterate 12 exact rfl); intro))); rename_i b0; apply R.nil; refine ⟨(by (focus ((repeat' (first | exact trivial | (refine ⟨?_, ?_⟩; (focus ((repeat' (first | exact At.head | apply At.tail | apply At.right)); done)))))))), A.cast (by kernel_rfl) (H0_012 _ _ ⟨ov, b0, b1, b2, hov, ⟨rfl, rfl, rfl, rfl, rfl, rfl, rfl, rfl, trivial⟩, (by (focus ((repeat' (first | exact Keep.nil _ | exact Ext.one _ _ | exact Ext.here _ _ | apply Keep.cons | apply Keep.app | apply Ext.cons)); done)))⟩)⟩
      · (((apply R.buildSlice; (iterate 12 exact rfl); intro))); rename_i b3; apply R.nil; refine ⟨(by (focus ((repeat' (first | exact trivial | (refine ⟨?_, ?_⟩; (focus ((repeat' (first | exact At.head | apply At.tail | apply At.right)); done)))))))), A.cast (by kernel_rfl) (H0_123 _ _ ⟨ov, b1, b2, b3, hov, ⟨rfl, rfl, rfl, rfl, rfl, rfl, rfl, rfl, trivial⟩, (by (focus ((repeat' (first | exact Keep.nil _ | exact Ext.one _ _ | exact Ext.here _ _ | apply Keep.cons | apply Keep.app | apply Ext.cons)); done)))⟩)⟩
    intro H0_12
    refine A.merge (fun σ L => ∃ (ov : Ov) (b1 : Nat) (b3 : Nat), OvOk 1 ov B0.length (u8s B0) ∧ Sub [(5, .pointer (some ⟨bw, 0, none⟩)), (12, .int .i64 c.id), (16, .int .i64 c.roles), (20, .int .i64 c.exp), (24, .int .i64 c.ser), (17, .slice (some ⟨b1, 0, none⟩) 1 1), (25, .slice (some ⟨b3, 0, none⟩) 1 1)] σ ∧ Keep L (WL bw ov B0 ++ [(bc, .cells ⟨[.int .i64 c.id, .int .i64 c.roles, .int .i64 c.exp, .int .i64 c.ser]⟩ 71 (0, 0)), (b1, .cells ⟨[.int .i64 c.roles]⟩ 3 (0, 0)), (b3, .cells ⟨[.int .i64 c.ser]⟩ 3 (0, 0))])) 11 #[true, true, false, false, true, true, true, false, true, true, false, false, true, true, true, false, false, false, false, false, false] ?_ ?_
    · rintro σ L ⟨ov, b1, b3, hov, hs, hk⟩
      refine A.weak ?_ hs hk
      refine A.multi [2, 10] (by kernel_rfl) (by decide) ⟨⟨_, rfl, ?_⟩, ⟨_, rfl, ?_⟩, trivial⟩
      · (((apply R.buildSlice; (iterate 12 exact rfl); intro))); rename_i b0; apply R.nil; refine ⟨(by (focus ((repeat' (first | exact trivial | (refine ⟨?_, ?_⟩; (focus ((repeat' (first | exact At.head | apply At.tail | apply At.right)); done)))))))), A.cast (by kernel_rfl) (H0_013 _ _ ⟨ov, b0, b1, b3, hov, ⟨rfl, rfl, rfl, rfl, rfl, rfl, rfl, rfl, trivial⟩, (by (focus ((repeat' (first | exact Keep.nil _ | exact Ext.one _ _ | exact Ext.here _ _ | apply Keep.cons | apply Keep.app | apply Ext.cons)); done)))⟩)⟩
      · (((apply R.buildSlice; (iterate 12 exact rfl); intro))); rename_i b2; apply R.nil; refine ⟨(by (focus ((repeat' (first | exact trivial | (refine ⟨?_, ?_⟩; (focus ((repeat' (first | exact At.head | apply At.tail | apply At.right)); done)))))))), A.cast (by kernel_rfl) (H0_123 _ _ ⟨ov, b1, b2, b3, hov, ⟨rfl, rfl, rfl, rfl, rfl, rfl, rfl, rfl, trivial⟩, (by (focus ((repeat' (first | exact Keep.nil _ | exact Ext.one _ _ | exact Ext.here _ _ | apply Keep.cons | apply Keep.app | apply Ext.cons)); done)))⟩)⟩
    intro H0_13
    refine A.merge (fun σ L => ∃ (ov : Ov) (b2 : Nat) (b3 : Nat), OvOk 1 ov B0.length (u8s B0) ∧ Sub [(5, .pointer (some ⟨bw, 0, none⟩)), (12, .int .i64 c.id), (16, .int .i64 c.roles), (20, .int .i64 c.exp), (24, .int .i64 c.ser), (21, .slice (some ⟨b2, 0, none⟩) 1 1), (25, .slice (some ⟨b3, 0, none⟩) 1 1)] σ ∧ Keep L (WL bw ov B0 ++ [(bc, .cells ⟨[.int .i64 c.id, .int .i64 c.roles, .int .i64 c.exp, .int .i64 c.ser]⟩ 71 (0, 0)), (b2, .cells ⟨[.int .i64 c.exp]⟩ 3 (0, 0)), (b3, .cells ⟨[.int .i64 c.ser]⟩ 3 (0, 0))])) 11 #[true, true, false, false, true, true, false, false, true, true, true, false, true, true, true, false, false, false, false, false, false] ?_ ?_
    · rintro σ L ⟨ov, b2, b3, hov, hs, hk⟩
      refine A.weak ?_ hs hk
      refine A.multi [2, 6] (by kernel_rfl) (by decide) ⟨⟨_, rfl, ?_⟩, ⟨_, rfl, ?_⟩, trivial⟩
      · (((apply R.buildSlice; (iterate 12 exact rfl); intro))); rename_i b0; apply R.nil; refine ⟨(by (focus ((repeat' (first | exact trivial | (refine ⟨?_, ?_⟩; (focus ((repeat' (first | exact At.head | apply At.tail | apply At.right)); done)))))))), A.cast (by kernel_rfl) (H0_023 _ _ ⟨ov, b0, b2, b3, hov, ⟨rfl, rfl, rfl, rfl, rfl, rfl, rfl, rfl, trivial⟩, (by (focus ((repeat' (first | exact Keep.nil _ | exact Ext.one _ _ | exact Ext.here _ _ | apply Keep.cons | apply Keep.app | apply Ext.cons)); done)))⟩)⟩
      · (((apply R.buildSlice; (iterate 12 exact rfl); intro))); rename_i b1; apply R.nil; refine ⟨(by (focus ((repeat' (first | exact trivial | (refine ⟨?_, ?_⟩; (focus ((repeat' (first | exact At.head | apply At.tail | apply At.right)); done)))))))), A.cast (by kernel_rfl) (H0_123 _ _ ⟨ov, b1, b2, b3, hov, ⟨rfl, rfl, rfl, rfl, rfl, rfl, rfl, rfl, trivial⟩, (by (focus ((repeat' (first | exact Keep.nil _ | exact Ext.one _ _ | exact Ext.here _ _ | apply Keep.cons | apply Keep.app | apply Ext.cons)); done)))⟩)⟩
    intro H0_23
    refine A.merge (fun σ L => ∃ (ov : Ov) (b0 : Nat), OvOk 1 ov B0.length (u8s B0) ∧ Sub [(5, .pointer (some ⟨bw, 0, none⟩)), (12, .int .i64 c.id), (16, .int .i64 c.roles), (20, .int .i64 c.exp), (24, .int .i64 c.ser), (13, .slice (some ⟨b0, 0, none⟩) 1 1)] σ ∧ Keep L (WL bw ov B0 ++ [(bc, .cells ⟨[.int .i64 c.id, .int .i64 c.roles, .int .i64 c.exp, .int .i64 c.ser]⟩ 71 (0, 0)), (b0, .cells ⟨[.int .i64 c.id]⟩ 3 (0, 0))])) 12 #[true, true, true, false, true, true, false, false, true, true, false, false, true, true, false, false, false, false, false, false, false] ?_ ?_
    · rintro σ L ⟨ov, b0, hov, hs, hk⟩
      refine A.weak ?_ hs hk
      refine A.multi [3, 6, 10, 14] (by kernel_rfl) (by decide) ⟨⟨_, rfl, ?_⟩, ⟨_, rfl, ?_⟩, ⟨_, rfl, ?_⟩, ⟨_, rfl, ?_⟩, trivial⟩
      · (apply R.callE (Li := WL bw ov B0); (iterate 3 exact rfl); (focus ((repeat' (exact Ext.here _ _)); done)); intro w1 hw1; have h9 := number1_ok bw ov B0 hov 1 c.id hf1 hl0 b0 _ _ w1 (hw1.get _ _ (At.mem (by (focus ((repeat' (first | exact At.head | apply At.tail | apply At.right)); done))))) (RdSl.off hw1 (by (focus ((repeat' (exact Ext.here _ _)); done))) (At.mem (by (focus ((repeat' (first | exact At.head | apply At.tail)); done))))); rw [← hB1] at h9; exact h9; rintro v Lo ⟨ov1, rfl, hov1, rfl⟩); apply R.nil; refine ⟨(by (focus ((repeat' (first | exact trivial | (refine ⟨?_, ?_⟩; (focus ((repeat' (first | exact At.head | apply At.tail | apply At.right)); done)))))))), A.cast (by kernel_rfl) (H1_ _ _ ⟨ov1, hov1, ⟨rfl, rfl, rfl, rfl, rfl, rfl, trivial⟩, (by (focus ((repeat' (first | exact Keep.nil _ | exact Ext.one _ _ | exact Ext.here _ _ | apply Keep.cons | apply Keep.app)); done)))⟩)⟩
      · (((apply R.buildSlice; (iterate 12 exact rfl); intro))); rename_i b1; apply R.nil; refine ⟨(by (focus ((repeat' (first | exact trivial | (refine ⟨?_, ?_⟩; (focus ((repeat' (first | exact At.head | apply At.tail | apply At.right)); done)))))))), A.cast (by kernel_rfl) (H0_01 _ _ ⟨ov, b0, b1, hov, ⟨rfl, rfl, rfl, rfl, rfl, rfl, rfl, trivial⟩, (by (focus ((repeat' (first | exact Keep.nil _ | exact Ext.one _ _ | exact Ext.here _ _ | apply Keep.cons | apply Keep.app | apply Ext.cons)); done)))⟩)⟩
      · (((apply R.buildSlice; (iterate 12 exact rfl); intro))); rename_i b2; apply R.nil; refine ⟨(by (focus ((repeat' (first | exact trivial | (refine ⟨?_, ?_⟩; (focus ((repeat' (first | exact At.head | apply At.tail | apply At.right)); done)))))))), A.cast (by kernel_rfl) (H0_02 _ _ ⟨ov, b0, b2, hov, ⟨rfl, rfl, rfl, rfl, rfl, rfl, rfl, trivial⟩, (by (focus ((repeat' (first | exact Keep.nil _ | exact Ext.one _ _ | exact Ext.here _ _ | apply Keep.cons | apply Keep.app | apply Ext.cons)); done)))⟩)⟩
      · (((apply R.buildSlice; (iterate 12 exact rfl); intro))); rename_i b3; apply R.nil; refine ⟨(by (focus ((repeat' (first | exact trivial | (refine ⟨?_, ?_⟩; (focus ((repeat' (first | exact At.head | apply At.tail | apply At.right)); done)))))))), A.cast (by kernel_rfl) (H0_03 _ _ ⟨ov, b0, b3, hov, ⟨rfl, rfl, rfl, rfl, rfl, rfl, rfl, trivial⟩, (by (focus ((repeat' (first | exact Keep.nil _ | exact Ext.one _ _ | exact Ext.here _ _ | apply Keep.cons | apply Keep.app | apply Ext.cons)); done)))⟩)⟩
    intro H0_0
    refine A.merge (fun σ L => ∃ (ov : Ov) (b1 : Nat), OvOk 1 ov B0.length (u8s B0) ∧ Sub [(5, .pointer (some ⟨bw, 0, none⟩)), (12, .int .i64 c.id), (16, .int .i64 c.roles), (20, .int .i64 c.exp), (24, .int .i64 c.ser), (17, .slice (some ⟨b1, 0, none⟩) 1 1)] σ ∧ Keep L (WL bw ov B0 ++ [(bc, .cells ⟨[.int .i64 c.id, .int .i64 c.roles, .int .i64 c.exp, .int .i64 c.ser]⟩ 71 (0, 0)), (b1, .cells ⟨[.int .i64 c.roles]⟩ 3 (0, 0))])) 12 #[true, true, false, false, true, true, true, false, true, true, false, false, true, true, false, false, false, false, false, false, false] ?_ ?_
    · rintro σ L ⟨ov, b1, hov, hs, hk⟩
      refine A.weak ?_ hs hk
      refine A.multi [2, 10, 14] (by kernel_rfl) (by decide) ⟨⟨_, rfl, ?_⟩, ⟨_, rfl, ?_⟩, ⟨_, rfl, ?_⟩, trivial⟩
      · (((apply R.buildSlice; (iterate 12 exact rfl); intro))); rename_i b0; apply R.nil; refine ⟨(by (focus ((repeat' (first | exact trivial | (refine ⟨?_, ?_⟩; (focus ((repeat' (first | exact At.head | apply At.tail | apply At.right)); done)))))))), A.cast (by kernel_rfl) (H0_01 _ _ ⟨ov, b0, b1, hov, ⟨rfl, rfl, rfl, rfl, rfl, rfl, rfl, trivial⟩, (by (focus ((repeat' (first | exact Keep.nil _ | exact Ext.one _ _ | exact Ext.here _ _ | apply Keep.cons | apply Keep.app | apply Ext.cons)); done)))⟩)⟩
      · (((apply R.buildSlice; (iterate 12 exact rfl); intro))); rename_i b2; apply R.nil; refine ⟨(by (focus ((repeat' (first | exact trivial | (refine ⟨?_, ?_⟩; (focus ((repeat' (first | exact At.head | apply At.tail | apply At.right)); done)))))))), A.cast (by kernel_rfl) (H0_12 _ _ ⟨ov, b1, b2, hov, ⟨rfl, rfl, rfl, rfl, rfl, rfl, rfl, trivial⟩, (by (focus ((repeat' (first | exact Keep.nil _ | exact Ext.one _ _ | exact Ext.here _ _ | apply Keep.cons | apply Keep.app | apply Ext.cons)); done)))⟩)⟩
      · (((apply R.buildSlice; (iterate 12 exact rfl); intro))); rename_i b3; apply R.nil; refine ⟨(by (focus ((repeat' (first | exact trivial | (refine ⟨?_, ?_⟩; (focus ((repeat' (first | exact At.head | apply At.tail | apply At.right)); done)))))))), A.cast (by kernel_rfl) (H0_13 _ _ ⟨ov, b1, b3, hov, ⟨rfl, rfl, rfl, rfl, rfl, rfl, rfl, trivial⟩, (by (focus ((repeat' (first | exact Keep.nil _ | exact Ext.one _ _ | exact Ext.here _ _ | apply Keep.cons | apply Keep.app | apply Ext.cons)); done)))⟩)⟩
    intro H0_1
    refine A.merge (fun σ L => ∃ (ov : Ov) (b2 : Nat), OvOk 1 ov B0.length (u8s B0) ∧ Sub [(5, .pointer (some ⟨bw, 0, none⟩)), (12, .int .i64 c.id), (16, .int .i64 c.roles), (20, .int .i64 c.exp), (24, .int .i64 c.ser), (21, .slice (some ⟨b2, 0, none⟩) 1 1)] σ ∧ Keep L (WL bw ov B0 ++ [(bc, .cells ⟨[.int .i64 c.id, .int .i64 c.roles, .int .i64 c.exp, .int .i64 c.ser]⟩ 71 (0, 0)), (b2, .cells ⟨[.int .i64 c.exp]⟩ 3 (0, 0))])) 12 #[true, true, false, false, true, true, false, false, true, true, true, false, true, true, false, false, false, false, false, false, false] ?_ ?_
    · rintro σ L ⟨ov, b2, hov, hs, hk⟩
      refine A.weak ?_ hs hk
      refine A.multi [2, 6, 14] (by kernel_rfl) (by decide) ⟨⟨_, rfl, ?_⟩, ⟨_, rfl, ?_⟩, ⟨_, rfl, ?_⟩, trivial⟩
      · (((apply R.buildSlice; (iterate 12 exact rfl); intro))); rename_i b0; apply R.nil; refine ⟨(by (focus ((repeat' (first | exact trivial | (refine ⟨?_, ?_⟩; (focus ((repeat' (first | exact At.head | apply At.tail | apply At.right)); done)))))))), A.cast (by kernel_rfl) (H0_02 _ _ ⟨ov, b0, b2, hov, ⟨rfl, rfl, rfl, rfl, rfl, rfl, rfl, trivial⟩, (by (focus ((repeat' (first | exact Keep.nil _ | exact Ext.one _ _ | exact Ext.here _ _ | apply Keep.cons | apply Keep.app | apply Ext.cons)); done)))⟩)⟩
      · (((apply R.buildSlice; (iterate 12 exact rfl); intro))); rename_i b1; apply R.nil; refine ⟨(by (focus ((repeat' (first | exact trivial | (refine ⟨?_, ?_⟩; (focus ((repeat' (first | exact At.head | apply At.tail | apply At.right)); done)))))))), A.cast (by kernel_rfl) (H0_12 _ _ ⟨ov, b1, b2, hov, ⟨rfl, rfl, rfl, rfl, rfl, rfl, rfl, trivial⟩, (by (focus ((repeat' (first | exact Keep.nil _ | exact Ext.one _ _ | exact Ext.here _ _ | apply Keep.cons | apply Keep.app | apply Ext.cons)); done)))⟩)⟩
      · (((apply R.buildSlice; (iterate 12 exact rfl); intro))); rename_i b3; apply R.nil; refine ⟨(by (focus ((repeat' (first | exact trivial | (refine ⟨?_, ?_⟩; (focus ((repeat' (first | exact At.head | apply At.tail | apply At.right)); done)))))))), A.cast (by kernel_rfl) (H0_23 _ _ ⟨ov, b2, b3, hov, ⟨rfl, rfl, rfl, rfl, rfl, rfl, rfl, trivial⟩, (by (focus ((repeat' (first | exact Keep.nil _ | exact Ext.one _ _ | exact Ext.here _ _ | apply Keep.cons | apply Keep.app | apply Ext.cons)); done)))⟩)⟩
    intro H0_2
    refine A.merge (fun σ L => ∃ (ov : Ov) (b3 : Nat), OvOk 1 ov B0.length (u8s B0) ∧ Sub [(5, .pointer (some ⟨bw, 0, none⟩)), (12, .int .i64 c.id), (16, .int .i64 c.roles), (20, .int .i64 c.exp), (24, .int .i64 c.ser), (25, .slice (some ⟨b3, 0, none⟩) 1 1)] σ ∧ Keep L (WL bw ov B0 ++ [(bc, .cells ⟨[.int .i64 c.id, .int .i64 c.roles, .int .i64 c.exp, .int .i64 c.ser]⟩ 71 (0, 0)), (b3, .cells ⟨[.int .i64 c.ser]⟩ 3 (0, 0))])) 12 #[true, true, false, false, true, true, false, false, true, true, false, false, true, true, true, false, false, false, false, false, false] ?_ ?_
    · rintro σ L ⟨ov, b3, hov, hs, hk⟩
      refine A.weak ?_ hs hk
      refine A.multi [2, 6, 10] (by kernel_rfl) (by decide) ⟨⟨_, rfl, ?_⟩, ⟨_, rfl, ?_⟩, ⟨_, rfl, ?_⟩, trivial⟩
      · (((apply R.buildSlice; (iterate 12 exact rfl); intro))); rename_i b0; apply R.nil; refine ⟨(by (focus ((repeat' (first | exact trivial | (refine ⟨?_, ?_⟩; (focus ((repeat' (first | exact At.head | apply At.tail | apply At.right)); done)))))))), A.cast (by kernel_rfl) (H0_03 _ _ ⟨ov, b0, b3, hov, ⟨rfl, rfl, rfl, rfl, rfl, rfl, rfl, trivial⟩, (by (focus ((repeat' (first | exact Keep.nil _ | exact Ext.one _ _ | exact Ext.here _ _ | apply Keep.cons | apply Keep.app | apply Ext.cons)); done)))⟩)⟩
      · (((apply R.buildSlice; (iterate 12 exact rfl); intro))); rename_i b1; apply R.nil; refine ⟨(by (focus ((repeat' (first | exact trivial | (refine ⟨?_, ?_⟩; (focus ((repeat' (first | exact At.head | apply At.tail | apply At.right)); done)))))))), A.cast (by kernel_rfl) (H0_13 _ _ ⟨ov, b1, b3, hov, ⟨rfl, rfl, rfl, rfl, rfl, rfl, rfl, trivial⟩, (by (focus ((repeat' (first | exact Keep.nil _ | exact Ext.one _ _ | exact Ext.here _ _ | apply Keep.cons | apply Keep.app | apply Ext.cons)); done)))⟩)⟩
      · (((apply R.buildSlice; (iterate 12 exact rfl); intro))); rename_i b2; apply R.nil; refine ⟨(by (focus ((repeat' (first | exact trivial | (refine ⟨?_, ?_⟩; (focus ((repeat' (first | exact At.head | apply At.tail | apply At.right)); done)))))))), A.cast (by kernel_rfl) (H0_23 _ _ ⟨ov, b2, b3, hov, ⟨rfl, rfl, rfl, rfl, rfl, rfl, rfl, trivial⟩, (by (focus ((repeat' (first | exact Keep.nil _ | exact Ext.one _ _ | exact Ext.here _ _ | apply Keep.cons | apply Keep.app | apply Ext.cons)); done)))⟩)⟩
    intro H0_3
    refine A.merge (fun σ L => ∃ (ov : Ov), OvOk 1 ov B0.length (u8s B0) ∧ Sub [(5, .pointer (some ⟨bw, 0, none⟩)), (12, .int .i64 c.id), (16, .int .i64 c.roles), (20, .int .i64 c.exp), (24, .int .i64 c.ser)] σ ∧ Keep L (WL bw ov B0 ++ [(bc, .cells ⟨[.int .i64 c.id, .int .i64 c.roles, .int .i64 c.exp, .int .i64 c.ser]⟩ 71 (0, 0))])) 13 #[true, true, false, false, true, true, false, false, true, true, false, false, true, true, false, false, false, false, false, false, false] ?_ ?_
    · rintro σ L ⟨ov, hov, hs, hk⟩
      refine A.weak ?_ hs hk
      refine A.multi [2, 6, 10, 14] (by kernel_rfl) (by decide) ⟨⟨_, rfl, ?_⟩, ⟨_, rfl, ?_⟩, ⟨_, rfl, ?_⟩, ⟨_, rfl, ?_⟩, trivial⟩
      · (((apply R.buildSlice; (iterate 12 exact rfl); intro))); rename_i b0; apply R.nil; refine ⟨(by (focus ((repeat' (first | exact trivial | (refine ⟨?_, ?_⟩; (focus ((repeat' (first | exact At.head | apply At.tail | apply At.right)); done)))))))), A.cast (by kernel_rfl) (H0_0 _ _ ⟨ov, b0, hov, ⟨rfl, rfl, rfl, rfl, rfl, rfl, trivial⟩, (by (focus ((repeat' (first | exact Keep.nil _ | exact Ext.one _ _ | exact Ext.here _ _ | apply Keep.cons | apply Keep.app | apply Ext.cons)); done)))⟩)⟩
      · (((apply R.buildSlice; (iterate 12 exact rfl); intro))); rename_i b1; apply R.nil; refine ⟨(by (focus ((repeat' (first | exact trivial | (refine ⟨?_, ?_⟩; (focus ((repeat' (first | exact At.head | apply At.tail | apply At.right)); done)))))))), A.cast (by kernel_rfl) (H0_1 _ _ ⟨ov, b1, hov, ⟨rfl, rfl, rfl, rfl, rfl, rfl, trivial⟩, (by (focus ((repeat' (first | exact Keep.nil _ | exact Ext.one _ _ | exact Ext.here _ _ | apply Keep.cons | apply Keep.app | apply Ext.cons)); done)))⟩)⟩
      · (((apply R.buildSlice; (iterate 12 exact rfl); intro))); rename_i b2; apply R.nil; refine ⟨(by (focus ((repeat' (first | exact trivial | (refine ⟨?_, ?_⟩; (focus ((repeat' (first | exact At.head | apply At.tail | apply At.right)); done)))))))), A.cast (by kernel_rfl) (H0_2 _ _ ⟨ov, b2, hov, ⟨rfl, rfl, rfl, rfl, rfl, rfl, trivial⟩, (by (focus ((repeat' (first | exact Keep.nil _ | exact Ext.one _ _ | exact Ext.here _ _ | apply Keep.cons | apply Keep.app | apply Ext.cons)); done)))⟩)⟩
      · (((apply R.buildSlice; (iterate 12 exact rfl); intro))); rename_i b3; apply R.nil; refine ⟨(by (focus ((repeat' (first | exact trivial | (refine ⟨?_, ?_⟩; (focus ((repeat' (first | exact At.head | apply At.tail | apply At.right)); done)))))))), A.cast (by kernel_rfl) (H0_3 _ _ ⟨ov, b3, hov, ⟨rfl, rfl, rfl, rfl, rfl, rfl, trivial⟩, (by (focus ((repeat' (first | exact Keep.nil _ | exact Ext.one _ _ | exact Ext.here _ _ | apply Keep.cons | apply Keep.app | apply Ext.cons)); done)))⟩)⟩
    intro H0_
    exact A.cast (by kernel_rfl) (H0_ _ _ ⟨none, hw0, ⟨rfl, rfl, rfl, rfl, rfl, trivial⟩, (by (focus ((repeat' (first | exact Keep.nil _ | exact Ext.one _ _ | apply Keep.cons)); done)))⟩)
  rintro σ L ⟨ov, hov, hs, hk⟩
  refine A.weak ?_ hs hk
  clear hs hk
  (apply A.one 16; kernel_rfl; exact rfl; (((simp only [WL, List.cons_append]; apply R.callE; (iterate 3 exact rfl); exact Ext.none _; intro w1 hw1; exact wout_ok bw ov B4 hov (by rw [hB, clI_len]; decide) w1 (hw1.get _ _ (At.mem (by exact At.head))) (rdown hov hw1 (Ext.mem (by (focus ((repeat' (first | exact Ext.here _ _ | apply Ext.cons)); done))))); rintro v Lo ⟨ov9, hov9, rfl, rfl⟩))); apply R.nil; refine ⟨?_, ?_⟩; (focus ((repeat' (first | exact trivial | (refine ⟨?_, ?_⟩; (focus ((repeat' (first | exact At.head | apply At.tail | apply At.right)); done)))))))) <;> (apply A.take 17; exact rfl; exact rfl; kernel_rfl; kernel_rfl; kernel_rfl; (apply Ok1.extract; exact rfl; exact rfl)) <;> (apply A.take 18; exact rfl; exact rfl; kernel_rfl; kernel_rfl; kernel_rfl; (apply Ok1.extract; exact rfl; exact rfl)) <;> (apply A.take 19; exact rfl; exact rfl; kernel_rfl; kernel_rfl; kernel_rfl; (apply Ok1.assign; exact rfl)) <;> (apply A.take 20; exact rfl; exact rfl; kernel_rfl; kernel_rfl; kernel_rfl; (apply Ok1.assign; exact rfl)) <;> (apply A.done; kernel_rfl)
  rw [hB, clI_len] at hov9
  repeat' ((apply T.is; apply T.ret))
  (apply RetOk.tt; exact rfl; exact rfl)
  refine ⟨_, ?_, ov9, hov9, by rw [hB, clI_len], rfl⟩
  rw [hB]
  (focus ((repeat' (first | exact Ext.here _ _ | apply Keep.last)); done))
end Go.Proofs.YtplhnkmmhndkjaaGreat
set_option linter.unusedSimpArgs false
set_option linter.unusedVariables false
namespace Go.Proofs.YtplhnkmmhndkjaaGreat
open Go.RowKit Go.Shelf Go.Sort
def ltC (c d : Cl) : Prop := c.ser < d.ser ∨ c.ser = d.ser ∧ (c.id < d.id ∨ c.id = d.id ∧ (c.exp < d.exp ∨ c.exp = d.exp ∧ c.roles < d.roles))
theorem cmpI_neg (x y : Int) : cmpI x y < 0 ↔ x < y := by
  unfold cmpI
  repeat' split
  all_goals omega
theorem cmpI_zero (x y : Int) : cmpI x y = 0 ↔ x = y := by
  unfold cmpI
  repeat' split
  all_goals omega
theorem cmpCl_neg (c d : Cl) : cmpCl c d < 0 ↔ ltC c d := by
  unfold cmpCl ltC
  split
  · rename_i h; subst h; simp
  · have h1 := cmpI_neg c.ser d.ser
    have h2 := cmpI_neg c.id d.id
    have h3 := cmpI_neg c.exp d.exp
    have h4 := cmpI_neg c.roles d.roles
    have z1 := cmpI_zero c.ser d.ser
    have z2 := cmpI_zero c.id d.id
    have z3 := cmpI_zero c.exp d.exp
    have z4 := cmpI_zero c.roles d.roles
    unfold or4
    repeat' split
    all_goals omega
end Go.Proofs.YtplhnkmmhndkjaaGreat
set_option linter.unusedSimpArgs false
set_option linter.unusedVariables false
namespace Go.Proofs.YtplhnkmmhndkjaaGreat
open Go.RowKit Go.Shelf
section
variable {X : Cx} {σ : Env} {L : Lst} {ty t : TypeId} {pos : String} {af : Array Edge} {x y : Operand} {r : TRow}
end
section
variable {X : Cx} {σ : Env} {L : Lst} {ty t : TypeId} {pos : String} {af : Array Edge} {x y : Operand} {r : TRow} {xs ys : List Value} {ks : List TK}
theorem Ok1.eqlFq2 {d : Option Nat} {g : Option (Nat × Bool)} {ty2 : TypeId} {q : Bool} (hx : ev σ x = some (.agg ⟨xs⟩)) (hy : ev σ y = some (.agg ⟨ys⟩)) (ht : X.tb.row t = some r) (hk : r.k.agg = some true) (hf : flatE X.tb 8 t = some ks) (h1 : allOk ks xs = true) (h2 : allOk ks ys = true) (hq : xs = ys ↔ q = true) :
    Ok1 X ⟨d, .binOp .eql t x y ty2, ty, pos, af, g⟩ σ L (.bool q) := by
  have h := Ok1.eqlF (X := X) (L := L) (ty2 := ty2) (d := d) (ty := ty) (pos := pos) (af := af) (g := g) hx hy ht hk hf h1 h2
  have e : ∀ (i : Decidable (xs = ys)), @decide (xs = ys) i = q := by intro i; cases q <;> simp_all
  rw [e] at h
  exact h
end
/-- The walk stops here. -/
structure Stop (p : Prop) : Prop where
  of : p
section
variable {X : Cx} {Q : Post} {σ : Env} {L : Lst}
theorem T.stop (i : Nat) {ops : Array Oper} {g : Bool} {c d : Code} (h : Stop (T X (.seq (.seq (.region i ops g) c) d) Q σ L)) : T X (.seq (.seq (.region i ops g) c) d) Q σ L := h.of
end
section
variable {X : Cx} {σ : Env} {L Lr : Lst} {d : Option Nat} {dd : Nat} {ty : TypeId} {pos : String} {af : Array Edge} {g : Option (Nat × Bool)} {x y : Operand} {t t2 e : TypeId} {r r2 re : TRow}
variable {all : Array Oper} {rest : List Oper} {K : Env → Lst → Prop} {p : Option Addr} {n cap i : Nat}
end
section
variable {X : Cx} {σ : Env} {L Lr : Lst} {d : Option Nat} {ty : TypeId} {pos : String} {af : Array Edge} {g : Option (Nat × Bool)} {x : Operand} {t e : TypeId} {r re : TRow} {p : Option Addr} {n m cap b o i : Nat}
end
end Go.Proofs.YtplhnkmmhndkjaaGreat
set_option linter.unusedSimpArgs false
set_option linter.unusedVariables false
namespace Go.Proofs.YtplhnkmmhndkjaaGreat
open Go.RowKit Go.Shelf
def iV (x : Int) : List Value := [.int .i64 x]
theorem iV_len (x : Int) : (iV x).length = 1 := rfl
def iis (xs : List Int) : List Value := xs.map fun x => .int .i64 x
theorem iis_len (xs : List Int) : (iis xs).length = xs.length := by simp [iis]
theorem iis_one (xs : List Int) : (iis xs).all Value.oneCell' = true := by simp [iis, Value.oneCell']
theorem iis_app (xs ys : List Int) : iis (xs ++ ys) = iis xs ++ iis ys := by simp [iis]
theorem fl_i (xs : List Int) : fl iV xs = iis xs := by
  unfold fl iis
  induction xs with
  | nil => rfl
  | cons a l ih => simp only [List.map_cons, List.flatten_cons, ih]; rfl
theorem irdown {ov : Ov} {xs : List Int} {e : Nat} (hov : OvOk 1 ov xs.length (iis xs)) {w0 w : World} {S : List Nat} {L : Lst} (hw : Hp w0 S L w) (hin : ∀ x ∈ blkL e ov (iis xs), x ∈ L) : RdSl w (ovp ov) iV xs := by
  rw [← fl_i] at hov hin
  exact RdSl.own' hw hin hov iV_len
/-- A log: nothing, or a slice of one's own. -/
structure Lg where
  ov : Ov
  xs : List Int
def Lg.v (g : Lg) : Value := slV g.ov g.xs.length
def Lg.L (g : Lg) : Lst := blkL 3 g.ov (iis g.xs)
def Lg.ok (g : Lg) : Prop := OvOk 1 g.ov g.xs.length (iis g.xs)
theorem Lg.v_eq {g : Lg} (h : g.ok) : g.v = .slice (ovp g.ov) g.xs.length (ovc g.ov g.xs.length) := slV_eq h
def lg0 : Lg := ⟨none, []⟩
theorem lg0_ok : lg0.ok := ⟨rfl, rfl⟩
theorem Lg.rd {g : Lg} (h : g.ok) {w0 w : World} {S : List Nat} {L : Lst} (hw : Hp w0 S L w) (hin : ∀ x ∈ g.L, x ∈ L) : RdSl w (ovp g.ov) iV g.xs := irdown h hw hin
end Go.Proofs.YtplhnkmmhndkjaaGreat
set_option linter.unusedSimpArgs false
set_option linter.unusedVariables false
namespace Go.Proofs.YtplhnkmmhndkjaaGreat
open Go.RowKit Go.Shelf
set_option maxRecDepth 100000
theorem irdnone {n : Nat} {xs : List Int} {w : World} (hn : n = xs.length) (h : RdSl w none iV xs) : n = 0 := by
  rcases h with h | ⟨b, o, h, _⟩
  · rw [hn, h]; rfl
  · cases h
theorem iclone_ok (p : Option Addr) (n cap : Nat) (xs : List Int) (hn : n = xs.length) (hbig : n ≤ 1000000000) (w : World) (hp : RdSl w p iV xs) : CallM Tryz.prog 119 [.slice p n cap] [] w fun v L => ∃ ov, OvOk 1 ov n (iis xs) ∧ ov.isSome = p.isSome ∧ v = slV ov n ∧ L = blkL 3 ov (iis xs) := by
  refine enterK (tb := tb) Tryz.func119 rfl Tryz.ntmps119 rfl ?_
  cases p with
  | none =>
    have h0 := irdnone hn hp
    have hx : xs = [] := List.eq_nil_of_length_eq_zero (by omega)
    subst hx
    repeat' (first | (apply R.is1; first | (apply R.isBin; (apply R.pure; exact rfl; (apply Ok1.eqlS; (iterate 5 exact rfl)))) | (apply R.pure; exact rfl; first | (apply Ok1.move; exact rfl) | (apply Ok1.assign; exact rfl))) | apply R.nil | (apply T.is; first | apply T.seq | apply T.region | apply T.ret | (apply T.cond_t; exact rfl)))
    (apply RetOk.t; exact rfl)
    exact ⟨_, by (focus ((repeat' (exact Keep.nil _)); done)), none, by rw [h0]; exact OvOk.start 1, rfl, rfl, rfl⟩
  | some a =>
    repeat' (first | (apply R.is1; first | (apply R.buildSlice0; (iterate 4 exact rfl); intro b0) | (apply R.isBin; (apply R.pure; exact rfl; (apply Ok1.eqlS; (iterate 5 exact rfl)))) | (apply R.isCall; (apply R.appendRd (xs := xs) (v := iV) (sz := 1) (ov := some (b0, 0, [])) (n := 0) (old := []); (iterate 12 exact rfl); exact ⟨rfl, rfl⟩; (focus ((repeat' (exact Ext.one _ _)); done)); exact hn; exact iV_len; exact rfl; (intro w1 hw1; exact hp.chg hw1.chg (Off.nil _)); (focus (rw [fl_i]; exact iis_one xs)); omega; intro ov1 hov1 hsome)) | (apply R.pure; exact rfl; first | (apply Ok1.move; exact rfl) | (apply Ok1.assign; exact rfl))) | apply R.nil | (apply T.is; first | apply T.seq | apply T.region | apply T.skip | apply T.ret | (apply T.cond_f; exact rfl)))
    rw [Nat.zero_add, List.nil_append, fl_i] at hov1
    rw [Nat.zero_add, List.nil_append, fl_i]
    repeat' (fail)
    (apply RetOk.t; exact rfl)
    refine ⟨_, ?_, ov1, hov1, by rw [hsome rfl]; rfl, rfl, rfl⟩
    (focus ((repeat' (first | exact Ext.here _ _ | apply Keep.last)); done))
theorem igrow_ok (n : Nat) (hbig : n ≤ 1000000000) (w : World) : CallM Tryz.prog 98 [.slice none 0 0, .int .i64 n] [] w fun v L => ∃ ov, OvOk 1 ov 0 [] ∧ v = slV ov 0 ∧ L = blkL 3 ov [] := by
  refine enterK (tb := tb) Tryz.func98 rfl Tryz.ntmps98 rfl ?_
  rcases Nat.eq_zero_or_pos n with h0 | h0
  · subst h0
    repeat' (first | (apply R.is1; first | (apply R.isBin; (apply R.pure; exact rfl; first | (apply Ok1.sub64; exact rfl; exact rfl; omega; omega) | (apply Ok1.lss_f; exact rfl; exact rfl; omega) | (apply Ok1.gtr_f; exact rfl; exact rfl; omega))) | (apply R.isCall; (apply R.pure; exact rfl; (apply Ok1.lenS; (iterate 3 exact rfl)))) | (apply R.pure; exact rfl; first | (apply Ok1.capS; (iterate 3 exact rfl)) | (apply Ok1.move; exact rfl) | (apply Ok1.assign; exact rfl))) | apply R.nil | (apply T.is; first | apply T.seq | apply T.region | apply T.skip | apply T.ret | (apply T.cond_f; exact rfl)))
    (apply RetOk.t; exact rfl)
    exact ⟨_, by (focus ((repeat' (exact Keep.nil _)); done)), none, OvOk.start 1, rfl, rfl⟩
  · repeat' (first | (apply R.is1; first | (apply R.isBin; (apply R.pure; exact rfl; first | (apply Ok1.sub64; exact rfl; exact rfl; omega; omega) | (apply Ok1.lss_f; exact rfl; exact rfl; omega) | (apply Ok1.gtr_t; exact rfl; exact rfl; omega))) | (apply R.isCall; first | (apply R.growMk (n := n); (iterate 12 exact rfl); omega; omega; intro b0 j0) | (apply R.pure; exact rfl; (apply Ok1.lenS; (iterate 3 exact rfl)))) | (apply R.pure; exact rfl; first | (apply Ok1.capS; (iterate 3 exact rfl)) | (apply Ok1.move; exact rfl) | (apply Ok1.assign; exact rfl) | (apply Ok1.slice0; (iterate 7 exact rfl); (refine ⟨?_, ?_, ?_⟩ <;> omega); (exact Or.inl rfl)) | (apply Ok1.sliceTo; (iterate 6 exact rfl); omega; omega; omega; (exact Or.inl rfl)))) | apply R.nil | (apply T.is; first | apply T.seq | apply T.region | apply T.skip | apply T.ret | (apply T.cond_t; exact rfl) | (apply T.cond_f; exact rfl)))
    (apply RetOk.t; exact rfl)
    refine ⟨_, ?_, some (b0, n + j0, List.replicate (n + j0) (.int .i64 0)), ⟨rfl, by simp⟩, by simp [slV]; omega, rfl⟩
    simp only [blkL, List.nil_append]
    (focus ((repeat' (first | exact Keep.nil _ | exact Ext.one _ _ | apply Keep.cons)); done))
/-- A part: a slice of integers. -/
structure Pi where
  p : Option Addr
  cap : Nat
  xs : List Int
deriving Inhabited
def Pi.v (x : Pi) : List Value := [.slice x.p x.xs.length x.cap]
theorem Pi.v_len (x : Pi) : x.v.length = 1 := rfl
def icat (ps : List Pi) : List Int := ps.flatMap (·.xs)
theorem icat_nil : icat [] = [] := rfl
theorem icat_snoc {ps : List Pi} {i : Nat} {x : Pi} (h : ps[i]? = some x) : icat (ps.take (i + 1)) = icat (ps.take i) ++ x.xs := by
  unfold icat
  rw [List.take_add_one, h, List.flatMap_append]
  simp
theorem icat_le (ps : List Pi) (i : Nat) : (icat (ps.take i)).length ≤ (icat ps).length := by
  conv => rhs; rw [← List.take_append_drop i ps]
  unfold icat
  rw [List.flatMap_append, List.length_append]
  omega
theorem iconcat_ok (p : Option Addr) (n cap : Nat) (ps : List Pi) (hn : n = ps.length) (hbig : (icat ps).length ≤ 1000000000) (hbig2 : n ≤ 1000000000) (w : World) (hp : RdSl w p Pi.v ps) (hall : ∀ x ∈ ps, RdSl w x.p iV x.xs) :
    CallM Tryz.prog 62 [.slice p n cap] [] w fun v L => ∃ ov, OvOk 1 ov (icat ps).length (iis (icat ps)) ∧ v = slV ov (icat ps).length ∧ L = blkL 3 ov (iis (icat ps)) := by
  subst hn
  refine enterK (tb := tb) Tryz.func62 rfl Tryz.ntmps62 rfl ?_
  repeat' (first | (apply R.is1; first | (apply R.isCall; (apply R.pure; exact rfl; (apply Ok1.lenS; (iterate 3 exact rfl)))) | (apply R.pure; exact rfl; first | (apply Ok1.move; exact rfl) | (apply Ok1.assign; exact rfl))) | apply R.nil | (apply T.is; first | apply T.seq | apply T.region | apply T.block))
  apply T.loopK (α := Nat) (I := fun i => i ≤ ps.length) (σi := fun i => [(0, .slice p ps.length cap), (3, .int .i64 (icat (ps.take i)).length), (9, .slice p ps.length cap), (10, .int .i64 ps.length), (11, .int .i64 i)]) (Li := fun _ => []) (μ := fun i => ps.length - i) (i0 := 0)
  · exact Nat.zero_le _
  · exact ⟨rfl, rfl, rfl, rfl, rfl, trivial⟩
  · (focus ((repeat' (exact Keep.nil _)); done))
  · intro i hi
    have hle := icat_le ps i
    rcases Nat.lt_or_ge i ps.length with hlt | hge
    · obtain ⟨x, hx⟩ : ∃ x, ps[i]? = some x := ⟨_, List.getElem?_eq_getElem (by omega)⟩
      obtain ⟨b, o, hpe, H⟩ := hp.at hx
      replace H := H 1 Pi.v_len
      have hs := icat_snoc hx
      have hl := congrArg List.length hs
      rw [List.length_append] at hl
      have hle2 := icat_le ps (i + 1)
      repeat' (first | (apply R.is1; first | (apply R.isBin; (apply R.pure; exact rfl; first | (apply Ok1.add64; exact rfl; exact rfl; omega; omega) | (apply Ok1.lss_t; exact rfl; exact rfl; omega) | (apply Ok1.lss_f; exact rfl; exact rfl; omega))) | (apply R.isCall; (apply R.pure; exact rfl; (apply Ok1.lenS; (iterate 3 exact rfl)))) | (apply R.pure; exact rfl; first | (apply Ok1.indexAddrP; (iterate 4 exact rfl); exact hpe; exact rfl; omega; omega) | (apply Ok1.load; exact rfl; apply Ld.row0 H; exact rfl; exact List.not_mem_nil; (iterate 3 exact rfl)) | (apply Ok1.move; exact rfl) | (apply Ok1.assign; exact rfl))) | apply R.nil | (apply T.is; first | apply T.seq | apply T.region | apply T.block | apply T.skip | (apply T.cond_t; exact rfl) | (apply T.cond_f; exact rfl)))
      refine ⟨i + 1, by omega, by omega, ⟨rfl, ?_, rfl, rfl, rfl, trivial⟩, by (focus ((repeat' (exact Keep.nil _)); done))⟩
      rw [hl]
      rfl
    · have him : i = ps.length := by omega
      subst him
      rw [List.take_length]
      have hgr := fun w1 => igrow_ok (icat ps).length hbig w1
      repeat' (first | (apply R.is1; first | (apply R.isBin; (apply R.pure; exact rfl; (apply Ok1.lss_f; exact rfl; exact rfl; omega))) | (apply R.isCall; first | (apply R.callE; (iterate 3 exact rfl); exact Ext.none _; intro w1 hw1; exact hgr w1; rintro v Lo ⟨ov0, hov0, rfl, rfl⟩) | (apply R.pure; exact rfl; (apply Ok1.lenS; (iterate 3 exact rfl)))) | (apply R.pure; exact rfl; first | (apply Ok1.move; exact rfl) | (apply Ok1.assign; exact rfl))) | apply R.nil | (apply T.is; first | apply T.seq | apply T.region | apply T.block | apply T.exit | (apply T.cond_f; exact rfl)))
      apply T.loopK (α := Nat × Ov) (I := fun y => y.1 ≤ ps.length ∧ OvOk 1 y.2 (icat (ps.take y.1)).length (iis (icat (ps.take y.1)))) (σi := fun y => [(6, slV y.2 (icat (ps.take y.1)).length), (25, .slice p ps.length cap), (26, .int .i64 ps.length), (27, .int .i64 y.1)]) (Li := fun y => blkL 3 y.2 (iis (icat (ps.take y.1)))) (μ := fun y => ps.length - y.1) (i0 := (0, ov0))
      · exact ⟨Nat.zero_le _, hov0⟩
      · exact ⟨rfl, rfl, rfl, rfl, trivial⟩
      · simp only [List.take_zero, icat_nil]
        change Keep _ (blkL 3 ov0 [])
        (focus ((repeat' (first | exact Ext.here _ _ | apply Keep.last)); done))
      · rintro ⟨i, ov⟩ ⟨hi, hov⟩
        simp only at hi hov ⊢
        rcases Nat.lt_or_ge i ps.length with hlt | hge
        · obtain ⟨x, hx⟩ : ∃ x, ps[i]? = some x := ⟨_, List.getElem?_eq_getElem (by omega)⟩
          obtain ⟨b, o, hpe, H⟩ := hp.at hx
          replace H := H 1 Pi.v_len
          have hs := icat_snoc hx
          have hl := congrArg List.length hs
          rw [List.length_append] at hl
          have hle2 := icat_le ps (i + 1)
          have hrd := hall x (List.mem_of_getElem? hx)
          repeat' (first | (apply R.is1; first | (apply R.isBin; (apply R.pure; exact rfl; first | (apply Ok1.add64; exact rfl; exact rfl; omega; omega) | (apply Ok1.lss_t; exact rfl; exact rfl; omega))) | (apply R.isCall; (apply R.appendRd (xs := x.xs) (v := iV) (sz := 1) (ov := ov) (n := (icat (ps.take i)).length) (old := iis (icat (ps.take i))); (iterate 12 exact rfl); exact hov; (focus ((repeat' (exact Ext.all _)); done)); exact rfl; exact iV_len; exact rfl; (intro w1 hw1; exact hrd.chg hw1.chg (Off.nil _)); (focus (rw [fl_i]; exact iis_one x.xs)); omega; intro ov1 hov1 hsome)) | (apply R.pure; exact rfl; first | (apply Ok1.indexAddrP; (iterate 4 exact rfl); exact hpe; exact rfl; omega; omega) | (apply Ok1.load; exact rfl; apply Ld.row0 H; exact rfl; exact List.not_mem_nil; (iterate 3 exact rfl)) | (apply Ok1.move; exact rfl) | (apply Ok1.assign; exact rfl))) | apply R.nil | (apply T.is; first | apply T.seq | apply T.region | apply T.block | apply T.skip | (apply T.cond_t; exact rfl)))
          rw [fl_i, ← iis_app, ← hs, ← hl] at hov1
          rw [fl_i, ← iis_app, ← hs, ← hl]
          repeat' (fail)
          exact ⟨(i + 1, ov1), ⟨by simp only; omega, hov1⟩, by simp only; omega, ⟨rfl, rfl, rfl, rfl, trivial⟩, by (focus ((repeat' (first | exact Ext.here _ _ | apply Keep.last)); done))⟩
        · have him : i = ps.length := by omega
          subst him
          rw [List.take_length] at hov ⊢
          repeat' (first | (apply R.is1; first | (apply R.isBin; (apply R.pure; exact rfl; (apply Ok1.lss_f; exact rfl; exact rfl; omega))) | (apply R.pure; exact rfl; first | (apply Ok1.move; exact rfl) | (apply Ok1.assign; exact rfl))) | apply R.nil | (apply T.is; first | apply T.seq | apply T.region | apply T.exit | apply T.ret | (apply T.cond_f; exact rfl)))
          (apply RetOk.t; exact rfl)
          exact ⟨_, by (focus ((repeat' (first | exact Ext.all _ | apply Keep.last)); done)), ov, hov, rfl, rfl⟩
end Go.Proofs.YtplhnkmmhndkjaaGreat
set_option linter.unusedSimpArgs false
set_option linter.unusedVariables false
namespace Go.Proofs.YtplhnkmmhndkjaaGreat
open Go.RowKit Go.Shelf
set_option maxRecDepth 100000
theorem idxF_ok (p : Option Addr) (n cap : Nat) (xs : List Int) (hn : n = xs.length) (hbig : n ≤ 1000000000) (g : Nat) (hgc : tb.fns.contains g = true) (bad : Int → Bool) (hg : ∀ x, CallP Tryz.prog g [.int .i64 x] (.bool (bad x))) (w : World) (hp : RdSl w p iV xs) :
    CallW Tryz.prog 116 [.slice p n cap, .func (.func g) #[] #[]] w fun v _ => ∃ r, v = .int .i64 r ∧ (0 ≤ r ↔ ∃ x ∈ xs, bad x = true) := by
  subst hn
  refine enterW (tb := tb) Tryz.func116 rfl Tryz.ntmps116 rfl ?_
  repeat' (first | (apply R.is1; first | (apply R.isCall; (apply R.pure; exact rfl; (apply Ok1.lenS; (iterate 3 exact rfl)))) | (apply R.pure; exact rfl; first | (apply Ok1.move; exact rfl) | (apply Ok1.assign; exact rfl))) | apply R.nil | (apply T.is; first | apply T.seq | apply T.region | apply T.block))
  apply T.loopK (α := Nat) (I := fun i => i ≤ xs.length ∧ ∀ x ∈ xs.take i, bad x = false) (σi := fun i => [(0, .slice p xs.length cap), (1, .func (.func g) #[] #[]), (7, .int .i64 xs.length), (8, .int .i64 i)]) (Li := fun _ => []) (μ := fun i => xs.length - i) (i0 := 0)
  · exact ⟨Nat.zero_le _, by simp⟩
  · exact ⟨rfl, rfl, rfl, rfl, trivial⟩
  · (focus ((repeat' (exact Keep.nil _)); done))
  · intro i ⟨hi, hall⟩
    rcases Nat.lt_or_ge i xs.length with hlt | hge
    · obtain ⟨x, hx⟩ : ∃ x, xs[i]? = some x := ⟨_, List.getElem?_eq_getElem (by omega)⟩
      obtain ⟨b, o, hpe, H⟩ := hp.at hx
      replace H := H 1 iV_len
      have hgx := hg x
      cases hb : bad x with
      | true =>
        rw [hb] at hgx
        repeat' (first | (apply R.is1; first | (apply R.isBin; (apply R.pure; exact rfl; (apply Ok1.lss_t; exact rfl; exact rfl; omega))) | (apply R.isCall; (apply R.callFP (fa := []) (cb := []); exact rfl; exact hgc; exact rfl; exact rfl; exact hgx)) | (apply R.pure; exact rfl; first | (apply Ok1.indexAddrP; (iterate 4 exact rfl); exact hpe; exact rfl; omega; omega) | (apply Ok1.load; exact rfl; apply Ld.row0 H; exact rfl; exact List.not_mem_nil; (iterate 3 exact rfl)) | (apply Ok1.move; exact rfl) | (apply Ok1.assign; exact rfl))) | apply R.nil | (apply T.is; first | apply T.seq | apply T.region | apply T.block | apply T.skip | apply T.ret | (apply T.cond_t; exact rfl)))
        (apply RetOk.t; exact rfl)
        exact ⟨_, rfl, ⟨fun _ => ⟨x, List.mem_of_getElem? hx, hb⟩, fun _ => by omega⟩⟩
      | false =>
        rw [hb] at hgx
        repeat' (first | (apply R.is1; first | (apply R.isBin; (apply R.pure; exact rfl; first | (apply Ok1.add64; exact rfl; exact rfl; omega; omega) | (apply Ok1.lss_t; exact rfl; exact rfl; omega))) | (apply R.isCall; (apply R.callFP (fa := []) (cb := []); exact rfl; exact hgc; exact rfl; exact rfl; exact hgx)) | (apply R.pure; exact rfl; first | (apply Ok1.indexAddrP; (iterate 4 exact rfl); exact hpe; exact rfl; omega; omega) | (apply Ok1.load; exact rfl; apply Ld.row0 H; exact rfl; exact List.not_mem_nil; (iterate 3 exact rfl)) | (apply Ok1.move; exact rfl) | (apply Ok1.assign; exact rfl))) | apply R.nil | (apply T.is; first | apply T.seq | apply T.region | apply T.block | apply T.skip | (apply T.cond_t; exact rfl) | (apply T.cond_f; exact rfl)))
        refine ⟨i + 1, ⟨by omega, ?_⟩, by omega, ⟨rfl, rfl, rfl, rfl, trivial⟩, by (focus ((repeat' (exact Keep.nil _)); done))⟩
        intro y hy
        rw [List.take_add_one, hx, List.mem_append] at hy
        rcases hy with hy | hy
        · exact hall y hy
        · simp only [Option.toList_some, List.mem_singleton] at hy
          rw [hy]; exact hb
    · have him : i = xs.length := by omega
      subst him
      rw [List.take_length] at hall
      repeat' (first | (apply R.is1; first | (apply R.isBin; (apply R.pure; exact rfl; (apply Ok1.lss_f; exact rfl; exact rfl; omega))) | (apply R.pure; exact rfl; (apply Ok1.assign; exact rfl))) | apply R.nil | (apply T.is; first | apply T.seq | apply T.region | apply T.exit | apply T.ret | (apply T.cond_f; exact rfl)))
      (apply RetOk.t; exact rfl)
      refine ⟨_, rfl, ⟨fun h => absurd h (by decide), ?_⟩⟩
      rintro ⟨x, hx, hb⟩
      rw [hall x hx] at hb
      cases hb
theorem conF_ok (p : Option Addr) (n cap : Nat) (xs : List Int) (hn : n = xs.length) (hbig : n ≤ 1000000000) (g : Nat) (hgc : tb.fns.contains g = true) (bad : Int → Bool) (hg : ∀ x, CallP Tryz.prog g [.int .i64 x] (.bool (bad x))) (w : World) (hp : RdSl w p iV xs) :
    CallW Tryz.prog 96 [.slice p n cap, .func (.func g) #[] #[]] w fun v _ => v = .bool (xs.any bad) := by
  have h := fun w1 (hc : Chg [] w w1) => idxF_ok p n cap xs hn hbig g hgc bad hg w1 (hp.chg' hc (fun _ => Off.nil _))
  refine enterW (tb := tb) Tryz.func96 rfl Tryz.ntmps96 rfl ?_
  repeat' (first | (apply R.is1; first | (apply R.isBin; (apply R.geq rfl rfl rfl <;> intro)) | (apply R.isCall; (apply R.callW (vs := [.slice p n cap, .func (.func g) #[] #[]]); (iterate 3 exact rfl); intro w1 hw1; exact h w1 hw1.chg; rintro v ⟨r, rfl, hr⟩)) | (apply R.pure; exact rfl; first | (apply Ok1.move; exact rfl) | (apply Ok1.assign; exact rfl))) | apply R.nil | (apply T.is; first | apply T.seq | apply T.region | apply T.ret))
  all_goals have hq : 0 ≤ r ↔ xs.any bad = true := hr.trans List.any_eq_true.symm
  all_goals (apply RetOk.t; exact rfl)
  all_goals cases hqq : xs.any bad with
    | true => first | rfl | (have := hq.2 hqq; omega)
    | false => first | rfl | (have h5 := hq.1 ‹0 ≤ r›; rw [hqq] at h5; cases h5)
/-- Serials are as they must be. -/
def SR (xs : List Int) : Prop := ∀ x ∈ xs, 1 ≤ x ∧ x ≤ 65535
instance (xs : List Int) : Decidable (SR xs) := by unfold SR; infer_instance
theorem serials1_ok (x : Int) : CallP Tryz.prog 97 [.int .i64 x] (.bool (decide (x < 1 ∨ 65535 < x))) := by
  refine enterP (tb := tb) Tryz.func97 rfl Tryz.ntmps97 rfl fun w => ?_
  by_cases h1 : x < 1
  · repeat' (first | (apply R.is1; first | (apply R.isBin; (apply R.pure; exact rfl; (apply Ok1.lss_t; exact rfl; exact rfl; omega))) | (apply R.pure; exact rfl; first | (apply Ok1.move; exact rfl) | (apply Ok1.assign; exact rfl) | (apply Ok1.pick_t; exact rfl; exact rfl))) | (apply R.isG; (apply R.guard_not; (iterate 3 exact rfl))) | apply R.nil | (apply T.is; first | apply T.seq | apply T.region | apply T.ret))
    (apply RetOk.t; exact rfl)
    rw [decide_eq_true (.inl h1)]
  · by_cases h2 : 65535 < x
    · repeat' (first | (apply R.is1; first | (apply R.isBin; (apply R.pure; exact rfl; first | (apply Ok1.lss_f; exact rfl; exact rfl; omega) | (apply Ok1.gtr_t; exact rfl; exact rfl; omega))) | (apply R.pure; exact rfl; first | (apply Ok1.move; exact rfl) | (apply Ok1.assign; exact rfl) | (apply Ok1.pick_f; exact rfl; exact rfl))) | (apply R.isG; (apply R.guard_run; exact rfl; exact rfl)) | apply R.nil | (apply T.is; first | apply T.seq | apply T.region | apply T.ret))
      (apply RetOk.t; exact rfl)
      rw [decide_eq_true (.inr h2)]
    · repeat' (first | (apply R.is1; first | (apply R.isBin; (apply R.pure; exact rfl; first | (apply Ok1.lss_f; exact rfl; exact rfl; omega) | (apply Ok1.gtr_f; exact rfl; exact rfl; omega))) | (apply R.pure; exact rfl; first | (apply Ok1.move; exact rfl) | (apply Ok1.assign; exact rfl) | (apply Ok1.pick_f; exact rfl; exact rfl))) | (apply R.isG; (apply R.guard_run; exact rfl; exact rfl)) | apply R.nil | (apply T.is; first | apply T.seq | apply T.region | apply T.ret))
      (apply RetOk.t; exact rfl)
      rw [decide_eq_false (by omega)]
theorem serials_ok (p : Option Addr) (n cap : Nat) (xs : List Int) (hn : n = xs.length) (hbig : n ≤ 1000000000) (w : World) (hp : RdSl w p iV xs) :
    CallW Tryz.prog 61 [.slice p n cap] w fun v _ => v = .bool (decide (SR xs)) := by
  have h := fun w1 (hc : Chg [] w w1) => conF_ok p n cap xs hn hbig 97 rfl _ serials1_ok w1 (hp.chg' hc (fun _ => Off.nil _))
  have he : (xs.any fun x => decide (x < 1 ∨ 65535 < x)) = !decide (SR xs) := by
    by_cases hs : SR xs
    · rw [decide_eq_true hs]
      cases h4 : xs.any fun x => decide (x < 1 ∨ 65535 < x) with
      | false => rfl
      | true =>
        obtain ⟨x, hx, hb⟩ := List.any_eq_true.1 h4
        have := hs x hx
        have := of_decide_eq_true hb
        omega
    · rw [decide_eq_false hs]
      cases h4 : xs.any fun x => decide (x < 1 ∨ 65535 < x) with
      | true => rfl
      | false =>
        refine absurd (fun x hx => ?_) hs
        have := List.any_eq_false.1 h4 x hx
        simp only [decide_eq_true_eq] at this
        omega
  rw [he] at h
  generalize decide (SR xs) = q at *
  refine enterW (tb := tb) Tryz.func61 rfl Tryz.ntmps61 rfl ?_
  cases q
  · repeat' (first | (apply R.is1; first | (apply R.isCall; (apply R.callV (vs := [.slice p n cap, .func (.func 97) #[] #[]]); (iterate 3 exact rfl); intro w1 hw1; exact h w1 hw1.chg)) | (apply R.pure; exact rfl; first | (apply Ok1.move; exact rfl) | (apply Ok1.assign; exact rfl) | (apply Ok1.not_t; exact rfl))) | apply R.nil | (apply T.is; first | apply T.seq | apply T.region | apply T.ret))
    (apply RetOk.t; exact rfl)
    rfl
  · repeat' (first | (apply R.is1; first | (apply R.isCall; (apply R.callV (vs := [.slice p n cap, .func (.func 97) #[] #[]]); (iterate 3 exact rfl); intro w1 hw1; exact h w1 hw1.chg)) | (apply R.pure; exact rfl; first | (apply Ok1.move; exact rfl) | (apply Ok1.assign; exact rfl) | (apply Ok1.not_f; exact rfl))) | apply R.nil | (apply T.is; first | apply T.seq | apply T.region | apply T.ret))
    (apply RetOk.t; exact rfl)
    rfl
end Go.Proofs.YtplhnkmmhndkjaaGreat
set_option linter.unusedSimpArgs false
set_option linter.unusedVariables false
namespace Go.Proofs.YtplhnkmmhndkjaaGreat
open Go.RowKit Go.Shelf
set_option maxRecDepth 100000
theorem index_ok (p : Option Addr) (n cap : Nat) (xs : List Int) (hn : n = xs.length) (hbig : n ≤ 1000000000) (y : Int) (w : World) (hp : RdSl w p iV xs) :
    CallW Tryz.prog 103 [.slice p n cap, .int .i64 y] w fun v _ => ∃ r, v = .int .i64 r ∧ (0 ≤ r ↔ y ∈ xs) := by
  subst hn
  refine enterW (tb := tb) Tryz.func103 rfl Tryz.ntmps103 rfl ?_
  repeat' (first | (apply R.is1; first | (apply R.isCall; (apply R.pure; exact rfl; (apply Ok1.lenS; (iterate 3 exact rfl)))) | (apply R.pure; exact rfl; first | (apply Ok1.move; exact rfl) | (apply Ok1.assign; exact rfl))) | apply R.nil | (apply T.is; first | apply T.seq | apply T.region | apply T.block))
  apply T.loopK (α := Nat) (I := fun i => i ≤ xs.length ∧ ∀ x ∈ xs.take i, x ≠ y) (σi := fun i => [(0, .slice p xs.length cap), (1, .int .i64 y), (7, .int .i64 xs.length), (8, .int .i64 i)]) (Li := fun _ => []) (μ := fun i => xs.length - i) (i0 := 0)
  · exact ⟨Nat.zero_le _, by simp⟩
  · exact ⟨rfl, rfl, rfl, rfl, trivial⟩
  · (focus ((repeat' (exact Keep.nil _)); done))
  · intro i ⟨hi, hall⟩
    rcases Nat.lt_or_ge i xs.length with hlt | hge
    · obtain ⟨x, hx⟩ : ∃ x, xs[i]? = some x := ⟨_, List.getElem?_eq_getElem (by omega)⟩
      obtain ⟨b, o, hpe, H⟩ := hp.at hx
      replace H := H 1 iV_len
      by_cases hb : y = x
      · repeat' (first | (apply R.is1; first | (apply R.isBin; (apply R.pure; exact rfl; first | (apply Ok1.lss_t; exact rfl; exact rfl; omega) | (apply Ok1.eql_t; exact rfl; exact rfl; omega))) | (apply R.pure; exact rfl; first | (apply Ok1.indexAddrP; (iterate 4 exact rfl); exact hpe; exact rfl; omega; omega) | (apply Ok1.load; exact rfl; apply Ld.row0 H; exact rfl; exact List.not_mem_nil; (iterate 3 exact rfl)) | (apply Ok1.move; exact rfl) | (apply Ok1.assign; exact rfl))) | apply R.nil | (apply T.is; first | apply T.seq | apply T.region | apply T.block | apply T.skip | apply T.ret | (apply T.cond_t; exact rfl)))
        (apply RetOk.t; exact rfl)
        exact ⟨_, rfl, ⟨fun _ => hb ▸ List.mem_of_getElem? hx, fun _ => by omega⟩⟩
      · repeat' (first | (apply R.is1; first | (apply R.isBin; (apply R.pure; exact rfl; first | (apply Ok1.add64; exact rfl; exact rfl; omega; omega) | (apply Ok1.lss_t; exact rfl; exact rfl; omega) | (apply Ok1.eql_f; exact rfl; exact rfl; omega))) | (apply R.pure; exact rfl; first | (apply Ok1.indexAddrP; (iterate 4 exact rfl); exact hpe; exact rfl; omega; omega) | (apply Ok1.load; exact rfl; apply Ld.row0 H; exact rfl; exact List.not_mem_nil; (iterate 3 exact rfl)) | (apply Ok1.move; exact rfl) | (apply Ok1.assign; exact rfl))) | apply R.nil | (apply T.is; first | apply T.seq | apply T.region | apply T.block | apply T.skip | (apply T.cond_t; exact rfl) | (apply T.cond_f; exact rfl)))
        refine ⟨i + 1, ⟨by omega, ?_⟩, by omega, ⟨rfl, rfl, rfl, rfl, trivial⟩, by (focus ((repeat' (exact Keep.nil _)); done))⟩
        intro z hz
        rw [List.take_add_one, hx, List.mem_append] at hz
        rcases hz with hz | hz
        · exact hall z hz
        · simp only [Option.toList_some, List.mem_singleton] at hz
          rw [hz]; exact fun e => hb e.symm
    · have him : i = xs.length := by omega
      subst him
      rw [List.take_length] at hall
      repeat' (first | (apply R.is1; first | (apply R.isBin; (apply R.pure; exact rfl; (apply Ok1.lss_f; exact rfl; exact rfl; omega))) | (apply R.pure; exact rfl; (apply Ok1.assign; exact rfl))) | apply R.nil | (apply T.is; first | apply T.seq | apply T.region | apply T.exit | apply T.ret | (apply T.cond_f; exact rfl)))
      (apply RetOk.t; exact rfl)
      exact ⟨_, rfl, ⟨fun h => absurd h (by decide), fun h => absurd rfl (hall y h)⟩⟩
theorem contains_ok (p : Option Addr) (n cap : Nat) (xs : List Int) (hn : n = xs.length) (hbig : n ≤ 1000000000) (y : Int) (w : World) (hp : RdSl w p iV xs) :
    CallW Tryz.prog 70 [.slice p n cap, .int .i64 y] w fun v _ => v = .bool (decide (y ∈ xs)) := by
  have h := fun w1 (hc : Chg [] w w1) => index_ok p n cap xs hn hbig y w1 (hp.chg' hc (fun _ => Off.nil _))
  refine enterW (tb := tb) Tryz.func70 rfl Tryz.ntmps70 rfl ?_
  repeat' (first | (apply R.is1; first | (apply R.isBin; (apply R.geq rfl rfl rfl <;> intro)) | (apply R.isCall; (apply R.callW (vs := [.slice p n cap, .int .i64 y]); (iterate 3 exact rfl); intro w1 hw1; exact h w1 hw1.chg; rintro v ⟨r, rfl, hr⟩)) | (apply R.pure; exact rfl; first | (apply Ok1.move; exact rfl) | (apply Ok1.assign; exact rfl))) | apply R.nil | (apply T.is; first | apply T.seq | apply T.region | apply T.ret))
  all_goals have hq : 0 ≤ r ↔ decide (y ∈ xs) = true := hr.trans decide_eq_true_iff.symm
  all_goals (apply RetOk.t; exact rfl)
  all_goals cases hqq : decide (y ∈ xs) with
    | true => first | rfl | (have := hq.2 hqq; omega)
    | false => first | rfl | (have h5 := hq.1 ‹0 ≤ r›; rw [hqq] at h5; cases h5)
end Go.Proofs.YtplhnkmmhndkjaaGreat
set_option linter.unusedSimpArgs false
set_option linter.unusedVariables false
namespace Go.Proofs.YtplhnkmmhndkjaaGreat
open Go.RowKit Go.Shelf
set_option maxRecDepth 100000
def numsI (s : Nat) (xs : List Int) : List Int := xs.flatMap (numI s)
theorem nums_take {s : Nat} {xs : List Int} {i : Nat} {x : Int} (h : xs[i]? = some x) : numsI s (xs.take (i + 1)) = numsI s (xs.take i) ++ numI s x := by
  unfold numsI
  rw [List.take_add_one, h, List.flatMap_append]
  simp
theorem nums_le (s : Nat) (xs : List Int) : (numsI s xs).length ≤ 4 * xs.length := by
  induction xs with
  | nil => exact Nat.le_refl _
  | cons x l ih =>
    have := (num_len s x).2
    simp only [numsI, List.flatMap_cons, List.length_append, List.length_cons] at *
    omega
theorem numbers_ok (bw : Nat) (ov : Ov) (bs : List Int) (hov : OvOk 1 ov bs.length (u8s bs)) (s : Nat) (p : Option Addr) (n cap : Nat) (xs : List Int) (hn : n = xs.length) (hf : ∀ x ∈ xs, Fits s x) (hbig : bs.length + 4 * xs.length ≤ 1000) (w : World) (hp : RdSl w p iV xs) (hoff : xs ≠ [] → Off p (blks (WL bw ov bs))) :
    CallM Tryz.prog 75 [.pointer (some ⟨bw, 0, none⟩), .int .i64 s, .slice p n cap] (WL bw ov bs) w (WRes bw (bs ++ numsI s xs)) := by
  subst hn
  refine enterK (tb := tb) Tryz.func75 rfl Tryz.ntmps75 rfl ?_
  repeat' (first | (apply R.is1; first | (apply R.isBin; first | (apply R.pure; exact rfl; first | (apply Ok1.add64; exact rfl; exact rfl; omega; omega) | (apply Ok1.lss_t; exact rfl; exact rfl; omega) | (apply Ok1.lss_f; exact rfl; exact rfl; omega)) | (apply R.lss rfl rfl rfl <;> intro)) | (apply R.isCall; first | (apply R.pure; exact rfl; first | (apply Ok1.lenS; (iterate 3 exact rfl)) | (apply Ok1.lenStr; (iterate 3 exact rfl)) | (apply Ok1.lenMm; (iterate 3 exact rfl); (focus ((repeat' (first | exact At.head | apply At.tail | apply At.right)); done))) | (apply Ok1.lenM_nil; (iterate 3 exact rfl)))) | (apply R.pure; exact rfl; first | (apply Ok1.move; exact rfl) | (apply Ok1.load; exact rfl; first | (apply Ld.own1; exact rfl; exact rfl; (focus ((repeat' (first | exact At.head | apply At.tail | apply At.right)); done)); exact rfl) | (apply Ld.ownk; exact rfl; exact rfl; (focus ((repeat' (first | exact At.head | apply At.tail | apply At.right)); done)); exact rfl) | (apply Ld.old1; exact rfl; exact rfl; assumption; (first | exact List.not_mem_nil | assumption)) | (apply Ld.blk1; exact rfl; exact rfl; assumption; (first | exact List.not_mem_nil | assumption); exact rfl) | (apply Ld.blkk; exact rfl; exact rfl; assumption; (first | exact List.not_mem_nil | assumption); exact rfl)) | (apply Ok1.assign; exact rfl) | (apply Ok1.indexAddr; (iterate 5 exact rfl); omega; omega) | (apply Ok1.indexAddrA; (iterate 5 exact rfl); omega; omega) | (apply Ok1.build; (iterate 5 exact rfl)) | (apply Ok1.buildA; (iterate 6 exact rfl))) | (apply R.buildSlice; (iterate 12 exact rfl); intro)) | (apply R.is0; first | fail) | (apply R.isG; first | (apply R.guard_run; exact rfl; exact rfl) | (apply R.guard_not; (iterate 3 exact rfl)) | (apply R.guard_not0; exact rfl; exact rfl) | (apply R.guard_un; (iterate 3 exact rfl)) | (apply R.guard_un0; exact rfl; exact rfl) | (apply R.guard rfl rfl ?_ (fun h => ⟨rfl, ?_⟩) <;> try intro)) | apply R.nil | (apply T.is; first | apply T.seq | apply T.region | apply T.block | apply T.scope | apply T.label | apply T.skip | apply T.exit | apply T.ret | (apply T.cond_t; exact rfl) | (apply T.cond_f; exact rfl) | (apply T.cond_h; exact rfl; assumption) | (apply T.cond_n; exact rfl; assumption) | (apply T.cond rfl <;> intro)) | apply Rnd.step)
  apply T.loopK (α := Nat × Ov) (I := fun y => y.1 ≤ xs.length ∧ OvOk 1 y.2 (bs ++ numsI s (xs.take y.1)).length (u8s (bs ++ numsI s (xs.take y.1)))) (σi := fun y => [(0, .pointer (some ⟨bw, 0, none⟩)), (1, .int .i64 s), (9, .slice p xs.length cap), (10, .int .i64 xs.length), (11, .int .i64 y.1)]) (Li := fun y => WL bw y.2 (bs ++ numsI s (xs.take y.1))) (μ := fun y => xs.length - y.1) (i0 := (0, ov))
  · refine ⟨Nat.zero_le _, ?_⟩
    simpa [numsI] using hov
  · exact ⟨rfl, rfl, rfl, rfl, rfl, trivial⟩
  · simp only [List.take_zero, numsI, List.flatMap_nil, List.append_nil]
    (focus ((repeat' (first | exact Keep.nil _ | exact Ext.one _ _ | exact Ext.here _ _ | exact Ext.all _ | apply Keep.cons | apply Keep.app | apply Keep.last | apply Ext.cons | apply Ext.app)); done))
  · rintro ⟨i, ov1⟩ ⟨hi, hov1⟩
    simp only at hi hov1 ⊢
    rcases Nat.lt_or_ge i xs.length with hlt | hge
    · obtain ⟨x, hx⟩ : ∃ x, xs[i]? = some x := ⟨_, List.getElem?_eq_getElem (by omega)⟩
      obtain ⟨b, o, hpe, H⟩ := hp.at hx
      replace H := H 1 iV_len
      have hxf := hf x (List.mem_of_getElem? hx)
      have htk : (xs.take i).length = i := by rw [List.length_take]; omega
      have hnl := nums_le s (xs.take i)
      have hput := fun bf fz e w1 => put_ok bw ov1 (bs ++ numsI s (xs.take i)) hov1 s x hxf (by rw [List.length_append]; omega) bf fz e w1
      have hoff1 := hoff (by rintro rfl; cases hx)
      unfold WRes at hput
      rw [List.append_assoc, ← nums_take hx] at hput
      repeat' (first | (apply R.is1; first | (apply R.isBin; first | (apply R.pure; exact rfl; first | (apply Ok1.add64; exact rfl; exact rfl; omega; omega) | (apply Ok1.lss_t; exact rfl; exact rfl; omega) | (apply Ok1.lss_f; exact rfl; exact rfl; omega)) | (apply R.lss rfl rfl rfl <;> intro)) | (apply R.isCall; first | (apply R.callE (Li := WL bw ov1 (bs ++ numsI s (xs.take i))); (iterate 3 exact rfl); (focus ((repeat' (first | exact Ext.none _ | exact Ext.one _ _ | exact Ext.here _ _ | exact Ext.all _ | apply Ext.cons | apply Ext.app | apply Ext.two)); done)); intro w1 hw1; exact hput _ _ _ w1 (hw1.get _ _ (At.mem (by (focus ((repeat' (first | exact At.head | apply At.tail | apply At.right)); done))))) (RdSl.off hw1 (by (focus ((repeat' (first | exact Ext.none _ | exact Ext.one _ _ | exact Ext.here _ _ | exact Ext.all _ | apply Ext.cons | apply Ext.app | apply Ext.two)); done))) (At.mem (by (focus ((repeat' (first | exact At.head | apply At.tail | apply At.right)); done))))); rintro v Lo ⟨ov2, rfl, hov2, rfl⟩) | (apply R.pure; exact rfl; first | (apply Ok1.lenS; (iterate 3 exact rfl)) | (apply Ok1.lenStr; (iterate 3 exact rfl)) | (apply Ok1.lenMm; (iterate 3 exact rfl); (focus ((repeat' (first | exact At.head | apply At.tail | apply At.right)); done))) | (apply Ok1.lenM_nil; (iterate 3 exact rfl)))) | (apply R.pure; exact rfl; first | (apply Ok1.indexAddrP; (iterate 4 exact rfl); exact hpe; exact rfl; omega; omega) | (apply Ok1.load; exact rfl; apply Ld.row1 (f := 0) H; exact rfl; exact hoff1 _ hpe; (iterate 3 exact rfl)) | (apply Ok1.move; exact rfl) | (apply Ok1.load; exact rfl; first | (apply Ld.own1; exact rfl; exact rfl; (focus ((repeat' (first | exact At.head | apply At.tail | apply At.right)); done)); exact rfl) | (apply Ld.ownk; exact rfl; exact rfl; (focus ((repeat' (first | exact At.head | apply At.tail | apply At.right)); done)); exact rfl) | (apply Ld.old1; exact rfl; exact rfl; assumption; (first | exact List.not_mem_nil | assumption)) | (apply Ld.blk1; exact rfl; exact rfl; assumption; (first | exact List.not_mem_nil | assumption); exact rfl) | (apply Ld.blkk; exact rfl; exact rfl; assumption; (first | exact List.not_mem_nil | assumption); exact rfl)) | (apply Ok1.assign; exact rfl) | (apply Ok1.indexAddr; (iterate 5 exact rfl); omega; omega) | (apply Ok1.indexAddrA; (iterate 5 exact rfl); omega; omega) | (apply Ok1.build; (iterate 5 exact rfl)) | (apply Ok1.buildA; (iterate 6 exact rfl))) | (apply R.buildSlice; (iterate 12 exact rfl); intro)) | (apply R.is0; first | fail) | (apply R.isG; first | (apply R.guard_run; exact rfl; exact rfl) | (apply R.guard_not; (iterate 3 exact rfl)) | (apply R.guard_not0; exact rfl; exact rfl) | (apply R.guard_un; (iterate 3 exact rfl)) | (apply R.guard_un0; exact rfl; exact rfl) | (apply R.guard rfl rfl ?_ (fun h => ⟨rfl, ?_⟩) <;> try intro)) | apply R.nil | (apply T.is; first | apply T.seq | apply T.region | apply T.block | apply T.scope | apply T.label | apply T.skip | apply T.exit | apply T.ret | (apply T.cond_t; exact rfl) | (apply T.cond_f; exact rfl) | (apply T.cond_h; exact rfl; assumption) | (apply T.cond_n; exact rfl; assumption) | (apply T.cond rfl <;> intro)) | apply Rnd.step)
      exact ⟨(i + 1, ov2), ⟨by simp only; omega, hov2⟩, by simp only; omega, ⟨rfl, rfl, rfl, rfl, rfl, trivial⟩, by (focus ((repeat' (first | exact Keep.nil _ | exact Ext.one _ _ | exact Ext.here _ _ | exact Ext.all _ | apply Keep.cons | apply Keep.app | apply Keep.last | apply Ext.cons | apply Ext.app)); done))⟩
    · have him : i = xs.length := by omega
      subst him
      rw [List.take_length] at hov1 ⊢
      repeat' (first | (apply R.is1; first | (apply R.isBin; first | (apply R.pure; exact rfl; first | (apply Ok1.add64; exact rfl; exact rfl; omega; omega) | (apply Ok1.lss_t; exact rfl; exact rfl; omega) | (apply Ok1.lss_f; exact rfl; exact rfl; omega)) | (apply R.lss rfl rfl rfl <;> intro)) | (apply R.isCall; first | (apply R.pure; exact rfl; first | (apply Ok1.lenS; (iterate 3 exact rfl)) | (apply Ok1.lenStr; (iterate 3 exact rfl)) | (apply Ok1.lenMm; (iterate 3 exact rfl); (focus ((repeat' (first | exact At.head | apply At.tail | apply At.right)); done))) | (apply Ok1.lenM_nil; (iterate 3 exact rfl)))) | (apply R.pure; exact rfl; first | (apply Ok1.move; exact rfl) | (apply Ok1.load; exact rfl; first | (apply Ld.own1; exact rfl; exact rfl; (focus ((repeat' (first | exact At.head | apply At.tail | apply At.right)); done)); exact rfl) | (apply Ld.ownk; exact rfl; exact rfl; (focus ((repeat' (first | exact At.head | apply At.tail | apply At.right)); done)); exact rfl) | (apply Ld.old1; exact rfl; exact rfl; assumption; (first | exact List.not_mem_nil | assumption)) | (apply Ld.blk1; exact rfl; exact rfl; assumption; (first | exact List.not_mem_nil | assumption); exact rfl) | (apply Ld.blkk; exact rfl; exact rfl; assumption; (first | exact List.not_mem_nil | assumption); exact rfl)) | (apply Ok1.assign; exact rfl) | (apply Ok1.indexAddr; (iterate 5 exact rfl); omega; omega) | (apply Ok1.indexAddrA; (iterate 5 exact rfl); omega; omega) | (apply Ok1.build; (iterate 5 exact rfl)) | (apply Ok1.buildA; (iterate 6 exact rfl))) | (apply R.buildSlice; (iterate 12 exact rfl); intro)) | (apply R.is0; first | fail) | (apply R.isG; first | (apply R.guard_run; exact rfl; exact rfl) | (apply R.guard_not; (iterate 3 exact rfl)) | (apply R.guard_not0; exact rfl; exact rfl) | (apply R.guard_un; (iterate 3 exact rfl)) | (apply R.guard_un0; exact rfl; exact rfl) | (apply R.guard rfl rfl ?_ (fun h => ⟨rfl, ?_⟩) <;> try intro)) | apply R.nil | (apply T.is; first | apply T.seq | apply T.region | apply T.block | apply T.scope | apply T.label | apply T.skip | apply T.exit | apply T.ret | (apply T.cond_t; exact rfl) | (apply T.cond_f; exact rfl) | (apply T.cond_h; exact rfl; assumption) | (apply T.cond_n; exact rfl; assumption) | (apply T.cond rfl <;> intro)) | apply Rnd.step)
      (apply RetOk.t; exact rfl)
      exact ⟨_, by (focus ((repeat' (first | exact Keep.nil _ | exact Ext.one _ _ | exact Ext.here _ _ | exact Ext.all _ | apply Keep.cons | apply Keep.app | apply Keep.last | apply Ext.cons | apply Ext.app)); done)), ov1, rfl, hov1, rfl⟩
end Go.Proofs.YtplhnkmmhndkjaaGreat
set_option linter.unusedSimpArgs false
set_option linter.unusedVariables false
namespace Go.Proofs.YtplhnkmmhndkjaaGreat
open Go.RowKit Go.Shelf
set_option maxRecDepth 100000
end Go.Proofs.YtplhnkmmhndkjaaGreat
set_option linter.unusedSimpArgs false
set_option linter.unusedVariables false
namespace Go.Proofs.YtplhnkmmhndkjaaGreat
open Go.Lib
def srt (l : List Int) : List Int := l.mergeSort fun x y => decide (x ≤ y)
theorem srt_perm (l : List Int) : (srt l).Perm l := List.mergeSort_perm _ _
theorem srt_asc (l : List Int) : (srt l).Pairwise (· ≤ ·) := by
  have := List.pairwise_mergeSort (le := fun x y : Int => decide (x ≤ y)) (fun a b c h1 h2 => by simp only [decide_eq_true_eq] at *; omega) (fun a b => by simp only [Bool.or_eq_true, decide_eq_true_eq]; omega) l
  exact this.imp fun h => of_decide_eq_true h
theorem compactUpTo_congr {d d' : Array Int} {m : Nat} (h : ∀ j, j < m → d[j]! = d'[j]!) : compactUpTo d m = compactUpTo d' m := by
  induction m with
  | zero => rfl
  | succ m ih =>
    rw [compactUpTo_succ, compactUpTo_succ, ih fun j hj => h j (by omega), h m (by omega)]
    congr 1
    have hk : keeps d m = keeps d' m := by
      unfold keeps
      rcases Nat.eq_zero_or_pos m with h0 | h0
      · simp [h0]
      · rw [h m (by omega), h (m - 1) (by omega)]
    rw [hk]
theorem compact_nil : compact ([] : List Int) = [] := rfl
theorem compact_snoc (zs : List Int) (x : Int) : compact (zs ++ [x]) = compact zs ++ (if zs.getLast? = some x then [] else [x]) := by
  unfold compact
  rw [List.length_append, List.length_singleton, compactUpTo_succ]
  have h1 : compactUpTo (zs ++ [x]).toArray zs.length = compactUpTo zs.toArray zs.length := compactUpTo_congr fun j hj => by
    rw [getElem!_pos _ j (by simp; omega), getElem!_pos _ j (by simp; omega)]
    simp [List.getElem_append_left, hj]
  rw [h1]
  congr 1
  have h2 : (zs ++ [x]).toArray[zs.length]! = x := by rw [getElem!_pos _ _ (by simp)]; simp
  rw [h2]
  unfold keeps
  rcases Nat.eq_zero_or_pos zs.length with h0 | h0
  · have : zs = [] := List.eq_nil_of_length_eq_zero h0
    subst this
    simp
  · rw [h2]
    have h3 : (zs ++ [x]).toArray[zs.length - 1]! = zs.getLast (by intro e; rw [e] at h0; simp at h0) := by
      rw [getElem!_pos _ _ (by simp; omega)]
      simp only [List.getElem_toArray]
      rw [List.getElem_append_left (by omega), List.getLast_eq_getElem]
    rw [h3, List.getLast?_eq_some_getLast (by intro e; rw [e] at h0; simp at h0)]
    have h4 : ¬ zs.length = 0 := by omega
    simp only [h4, false_or, ne_eq, decide_not, Bool.not_eq_true', decide_eq_false_iff_not, Option.some.injEq]
    by_cases he : x = zs.getLast (by intro e; rw [e] at h0; simp at h0)
    · simp [← he]
    · have he2 : ¬ zs.getLast (by intro e; rw [e] at h0; simp at h0) = x := fun h => he h.symm
      simp [he, he2]
theorem compact_facts (n : Nat) : ∀ zs : List Int, zs.length = n → zs.Pairwise (· ≤ ·) → (∀ y, y ∈ compact zs ↔ y ∈ zs) ∧ (compact zs).Pairwise (· < ·) ∧ ((compact zs).length = zs.length ↔ zs.Nodup) := by
  induction n with
  | zero =>
    intro zs h _
    have : zs = [] := List.eq_nil_of_length_eq_zero h
    subst this
    rw [compact_nil]
    simp
  | succ n ih =>
    intro zs h hs
    have hne : zs ≠ [] := by intro e; rw [e] at h; simp at h
    obtain ⟨ws, x, rfl⟩ : ∃ ws x, zs = ws ++ [x] := ⟨_, _, (List.dropLast_concat_getLast hne).symm⟩
    have hl : ws.length = n := by simpa using h
    rw [List.pairwise_append] at hs
    obtain ⟨hs1, _, hs3⟩ := hs
    have hle : ∀ a ∈ ws, a ≤ x := fun a ha => hs3 a ha x (List.mem_singleton.2 rfl)
    obtain ⟨h1, h2, h3⟩ := ih ws hl hs1
    have hcl := compact_length_le ws
    rw [compact_snoc]
    by_cases hx : ws.getLast? = some x
    · have hmem : x ∈ ws := List.mem_of_getLast? hx
      rw [if_pos hx, List.append_nil]
      refine ⟨fun y => ?_, h2, ?_⟩
      · rw [h1, List.mem_append, List.mem_singleton]
        constructor
        · exact .inl
        · rintro (h | rfl)
          · exact h
          · exact hmem
      · rw [List.length_append, List.length_singleton]
        constructor
        · intro h; omega
        · intro h
          exact absurd rfl ((List.nodup_append.1 h).2.2 x hmem x (List.mem_singleton.2 rfl))
    · have hlt : ∀ a ∈ ws, a < x := by
        intro a ha
        have h5 := hle a ha
        have hwne : ws ≠ [] := List.ne_nil_of_mem ha
        have h6 : a ≤ ws.getLast hwne := by
          have h8 := List.dropLast_concat_getLast hwne
          rw [← h8] at ha hs1
          rcases List.mem_append.1 ha with h | h
          · exact (List.pairwise_append.1 hs1).2.2 a h _ (List.mem_singleton.2 rfl)
          · rw [List.mem_singleton.1 h]; exact Int.le_refl _
        have h7 : ws.getLast hwne ≠ x := by
          intro e
          rw [List.getLast?_eq_some_getLast hwne, e] at hx
          exact hx rfl
        have h9 := hle _ (List.getLast_mem hwne)
        omega
      rw [if_neg hx]
      refine ⟨fun y => ?_, ?_, ?_⟩
      · rw [List.mem_append, List.mem_append, h1]
      · rw [List.pairwise_append]
        refine ⟨h2, by simp, fun a ha b hb => ?_⟩
        rw [List.mem_singleton.1 hb]
        exact hlt a ((h1 a).1 ha)
      · rw [List.length_append, List.length_append, List.length_singleton]
        rw [List.nodup_append]
        constructor
        · intro h
          refine ⟨h3.1 (by omega), by simp, fun a ha b hb => ?_⟩
          rw [List.mem_singleton.1 hb]
          have := hlt a ha
          omega
        · rintro ⟨h, _⟩
          have := h3.2 h
          omega
/-- The sorted list of those that are in it. -/
def uniq (l : List Int) : List Int := compact (srt l)
theorem uniq_mem (l : List Int) (y : Int) : y ∈ uniq l ↔ y ∈ l := by
  rw [uniq, (compact_facts _ _ rfl (srt_asc l)).1 y]
  exact (srt_perm l).mem_iff
theorem uniq_len (l : List Int) : (uniq l).length = l.length ↔ l.Nodup := by
  have h := (compact_facts _ _ rfl (srt_asc l)).2.2
  rw [(srt_perm l).length_eq, (srt_perm l).nodup_iff] at h
  exact h
theorem uniq_le (l : List Int) : (uniq l).length ≤ l.length := by
  have := compact_length_le (srt l)
  rw [(srt_perm l).length_eq] at this
  exact this
end Go.Proofs.YtplhnkmmhndkjaaGreat
set_option linter.unusedSimpArgs false
set_option linter.unusedVariables false
namespace Go.Proofs.YtplhnkmmhndkjaaGreat
open Go.RowKit Go.Shelf
set_option maxRecDepth 100000
theorem putRow_own {w : World} {b m : Nat} {d : List Int} {os : Array Obj} {old junk : List Value} {e : TypeId} {fz : Nat × Nat} (hb : w.heap[b]? = some (.cells ⟨old ++ junk⟩ e fz)) (ho : old.length = d.length) :
    Chg [b] w (Go.Sort.grow (Go.Sort.putRow (Value.int .i64) (Go.Sort.ahead w m) b 0 d.toArray) os) ∧ (Go.Sort.grow (Go.Sort.putRow (Value.int .i64) (Go.Sort.ahead w m) b 0 d.toArray) os).heap[b]? = some (.cells ⟨iis d ++ junk⟩ e fz) := by
  have hlt := (Array.getElem?_eq_some_iff.1 hb).1
  refine ⟨⟨rfl, rfl, rfl, ?_, ?_, ?_⟩, ?_⟩
  · simp [Go.Sort.grow, Go.Sort.putRow, Go.Sort.mapBlock, Go.Sort.ahead]
  · simp [Go.Sort.grow, Go.Sort.putRow, Go.Sort.mapBlock, Go.Sort.ahead]
  · intro i hi hs
    have hne : b ≠ i := fun h => hs (by simp [h])
    simp [Go.Sort.grow, Go.Sort.putRow, Go.Sort.mapBlock, Go.Sort.ahead, Array.getElem?_append, hi, Array.getElem_modify, hne]
  · simp only [Go.Sort.grow, Go.Sort.putRow, Go.Sort.mapBlock, Go.Sort.ahead]
    rw [Array.getElem?_append_left (by simpa using hlt), Array.getElem?_modify, if_pos rfl, hb]
    simp only [Option.map_some, Go.Sort.onCells]
    congr 2
    apply Array.ext_getElem?
    intro t
    simp only [Go.Sort.putCells, Array.getElem?_mapIdx, Nat.zero_le, true_and, Nat.zero_add, Nat.sub_zero, List.size_toArray, List.getElem?_toArray]
    by_cases ht : t < d.length
    · rw [List.getElem?_append_left (by omega), List.getElem?_append_left (by rw [iis_len]; omega), List.getElem?_eq_getElem (by omega)]
      simp [ht, iis]
    · rw [List.getElem?_append_right (by omega), List.getElem?_append_right (by rw [iis_len]; omega), ho, iis_len]
      cases junk[t - d.length]? with
      | none => rfl
      | some v => simp [ht]
theorem sortHolds {w : World} {b : Nat} {xs : List Int} {junk : List Value} {e : TypeId} (hb : w.heap[b]? = some (.cells ⟨iis xs ++ junk⟩ e (0, 0))) : Go.Sort.Holds (Value.int .i64) w b 0 xs.toArray := by
  intro j hj
  have hj' : j < xs.length := by simpa using hj
  refine ⟨?_, ?_⟩
  · simp only [World.cell?, hb, Nat.zero_add]
    rw [getElem!_pos _ j hj]
    simp [List.getElem?_append_left, iis_len, hj', iis]
  · simp [World.frozen?, hb]
theorem isort_ok (xs : List Int) (hbig : xs.length ≤ 1000000000) (ov : Ov) (hov : OvOk 1 ov xs.length (iis xs)) (w : World) :
    CallM Tryz.prog 105 [slV ov xs.length] (blkL 3 ov (iis xs)) w fun v L => v = .tuple #[] ∧ L = blkL 3 ov (iis (srt xs)) := by
  cases ov with
  | none =>
    have h0 : xs.length = 0 := hov.2
    have : xs = [] := List.eq_nil_of_length_eq_zero h0
    subst this
    exact ⟨fun hw => Calls.mono (AnyM.slices_Sort_int_none Tryz.sortI none 0 w) fun e w' ⟨h1, h2⟩ => ⟨_, _, h1, ⟨rfl, rfl⟩, by rw [h2]; exact hw⟩⟩
  | some q =>
    obtain ⟨b, j, junk⟩ := q
    refine ⟨fun hw => ?_⟩
    have hb := hw.get b _ List.mem_cons_self
    have hlt := (Array.getElem?_eq_some_iff.1 hb).1
    refine Calls.mono (AnyM.slices_Sort_int Tryz.sortI b 0 (xs.length + j) xs w (sortHolds hb) hlt (by omega)) ?_
    rintro e w' ⟨h1, n, os, rfl⟩
    obtain ⟨g1, g2⟩ := putRow_own (m := n) (d := srt xs) (os := os) hb (by rw [iis_len, (srt_perm xs).length_eq])
    exact ⟨_, _, h1, ⟨rfl, rfl⟩, hw.upd .head g1 g2⟩
theorem icompact_ok (xs : List Int) (hbig : xs.length ≤ 1000000000) (ov : Ov) (hov : OvOk 1 ov xs.length (iis xs)) (w : World) :
    CallM Tryz.prog 99 [slV ov xs.length] (blkL 3 ov (iis xs)) w fun v L => ∃ ov', OvOk 1 ov' (Go.Lib.compact xs).length (iis (Go.Lib.compact xs)) ∧ v = slV ov' (Go.Lib.compact xs).length ∧ L = blkL 3 ov' (iis (Go.Lib.compact xs)) := by
  cases ov with
  | none =>
    have h0 : xs.length = 0 := hov.2
    have : xs = [] := List.eq_nil_of_length_eq_zero h0
    subst this
    exact ⟨fun hw => Calls.mono (AnyG.slices_Compact_int_empty Tryz.cmpI none 0 w) fun e w' ⟨h1, h2⟩ => ⟨_, _, h1, ⟨none, hov, rfl, rfl⟩, by rw [h2]; exact hw⟩⟩
  | some q =>
    obtain ⟨b, j, junk⟩ := q
    refine ⟨fun hw => ?_⟩
    have hb := hw.get b _ List.mem_cons_self
    have hle := Go.Lib.compact_length_le xs
    refine Calls.mono (AnyG.slices_Compact_int Tryz.cmpI b 0 (xs.length + j) xs w (sortHolds hb) (by omega) (by omega)) ?_
    rintro e w' ⟨h1, n, rfl⟩
    obtain ⟨g1, g2⟩ := putRow_own (m := n) (d := Go.Lib.compact xs ++ List.replicate (xs.length - (Go.Lib.compact xs).length) 0) (os := #[]) hb (by rw [iis_len, List.length_append, List.length_replicate]; omega)
    simp only [Go.Sort.grow_empty] at g1 g2
    rw [iis_app, List.append_assoc] at g2
    have hj : junk.length = j := by have := hov.2; simpa using this
    refine ⟨_, _, h1, ⟨some (b, (xs.length - (Go.Lib.compact xs).length) + j, iis (List.replicate (xs.length - (Go.Lib.compact xs).length) 0) ++ junk), ⟨by rw [iis_len, Nat.mul_one], by simp only [List.length_append, iis_len, List.length_replicate, hj, Nat.mul_one]⟩, ?_, rfl⟩, hw.upd .head g1 g2⟩
    simp only [slV]
    congr 1
    omega
end Go.Proofs.YtplhnkmmhndkjaaGreat
set_option linter.unusedSimpArgs false
set_option linter.unusedVariables false
namespace Go.Proofs.YtplhnkmmhndkjaaGreat
open Go.RowKit Go.Shelf
set_option maxRecDepth 100000
theorem CallM.to {P : Program} {f : FuncId} {vs : List Value} {L : Lst} {w : World} {R R' : Value → Lst → Prop} (h : CallM P f vs L w R) (hr : ∀ v L, R v L → R' v L) : CallM P f vs L w R' :=
  ⟨fun hw => (h.run hw).mono fun e w' ⟨v, L', h1, h2, h3⟩ => ⟨v, L', h1, hr _ _ h2, h3⟩⟩
theorem ivalues_ok (p : Option Addr) (n cap : Nat) (w : World) : CallM Tryz.prog 101 [.slice p n cap] [] w fun v L => ∃ cb, v = .func (.func 118) #[] #[.pointer (some ⟨cb, 0, none⟩)] ∧ L = [(cb, .cells ⟨[.slice p n cap]⟩ 66 (0, 0))] := by
  refine enterK (tb := tb) Tryz.func101 rfl Tryz.ntmps101 rfl ?_
  repeat' (first | (apply R.is1; first | (apply R.pure; exact rfl; first | (apply Ok1.assign; exact rfl) | (apply Ok1.makeFunc; exact rfl; exact rfl)) | (apply R.box; (iterate 3 exact rfl); intro)) | (apply R.is0; first | fail) | (apply R.isG; first | (apply R.guard_run; exact rfl; exact rfl) | (apply R.guard_not; (iterate 3 exact rfl)) | (apply R.guard_not0; exact rfl; exact rfl) | (apply R.guard_un; (iterate 3 exact rfl)) | (apply R.guard_un0; exact rfl; exact rfl) | (apply R.guard rfl rfl ?_ (fun h => ⟨rfl, ?_⟩) <;> try intro)) | apply R.nil | (apply T.is; first | apply T.seq | apply T.region | apply T.block | apply T.scope | apply T.label | apply T.skip | apply T.exit | apply T.ret | (apply T.cond_t; exact rfl) | (apply T.cond_f; exact rfl) | (apply T.cond_h; exact rfl; assumption) | (apply T.cond_n; exact rfl; assumption) | (apply T.cond rfl <;> intro)) | apply Rnd.step)
  (apply RetOk.t; exact rfl)
  exact ⟨_, by (focus ((repeat' (first | exact Keep.nil _ | exact Ext.one _ _ | exact Ext.here _ _ | exact Ext.all _ | apply Keep.cons | apply Keep.app | apply Keep.last | apply Ext.cons | apply Ext.app)); done)), _, rfl, rfl⟩
theorem ivalues1_ok {β : Type} (I : Nat → β → Prop) (Li : Nat → β → Lst) (l : Nat) (o : Obj) (cb : Nat) (p : Option Addr) (n cap : Nat) (xs : List Int) (hn : n = xs.length) (hbig : n ≤ 1000000000) (y0 : β) (h0 : I 0 y0)
    (hY : ∀ i y x w, I i y → xs[i]? = some x → YieldM Tryz.prog l [.int .i64 x] ((l, o) :: Li i y) w fun v L => v = .bool true ∧ ∃ L5, (∃ y', I (i + 1) y' ∧ L5 = Li (i + 1) y') ∧ L = (l, o) :: L5) (w : World) (hp : RdSl w p iV xs) (hoff : xs ≠ [] → Off p (blks ((l, o) :: (cb, .cells ⟨[.slice p n cap]⟩ 66 (0, 0)) :: Li 0 y0))) :
    CallM Tryz.prog 118 [.func (.yield l) #[] #[], .pointer (some ⟨cb, 0, none⟩)] ((l, o) :: (cb, .cells ⟨[.slice p n cap]⟩ 66 (0, 0)) :: Li 0 y0) w fun v L => ∃ y, I n y ∧ L = (l, o) :: (cb, .cells ⟨[.slice p n cap]⟩ 66 (0, 0)) :: Li n y := by
  subst hn
  refine enterK (tb := tb) Tryz.func118 rfl Tryz.ntmps118 rfl ?_
  repeat' (first | (apply R.is1; first | (apply R.isBin; first | (apply R.pure; exact rfl; first | (apply Ok1.add64; exact rfl; exact rfl; omega; omega) | (apply Ok1.lss_t; exact rfl; exact rfl; omega) | (apply Ok1.lss_f; exact rfl; exact rfl; omega)) | (apply R.lss rfl rfl rfl <;> intro)) | (apply R.isCall; first | (apply R.pure; exact rfl; first | (apply Ok1.lenS; (iterate 3 exact rfl)) | (apply Ok1.lenStr; (iterate 3 exact rfl)) | (apply Ok1.lenMm; (iterate 3 exact rfl); (focus ((repeat' (first | exact At.head | apply At.tail | apply At.right)); done))) | (apply Ok1.lenM_nil; (iterate 3 exact rfl)))) | (apply R.pure; exact rfl; first | (apply Ok1.move; exact rfl) | (apply Ok1.load; exact rfl; first | (apply Ld.own1; exact rfl; exact rfl; (focus ((repeat' (first | exact At.head | apply At.tail | apply At.right)); done)); exact rfl) | (apply Ld.ownk; exact rfl; exact rfl; (focus ((repeat' (first | exact At.head | apply At.tail | apply At.right)); done)); exact rfl) | (apply Ld.old1; exact rfl; exact rfl; assumption; (first | exact List.not_mem_nil | assumption)) | (apply Ld.blk1; exact rfl; exact rfl; assumption; (first | exact List.not_mem_nil | assumption); exact rfl) | (apply Ld.blkk; exact rfl; exact rfl; assumption; (first | exact List.not_mem_nil | assumption); exact rfl)) | (apply Ok1.assign; exact rfl) | (apply Ok1.indexAddr; (iterate 5 exact rfl); omega; omega) | (apply Ok1.indexAddrA; (iterate 5 exact rfl); omega; omega) | (apply Ok1.not_t; exact rfl) | (apply Ok1.not_f; exact rfl) | (apply Ok1.not; exact rfl) | (apply Ok1.neg; exact rfl))) | (apply R.is0; first | fail) | (apply R.isG; first | (apply R.guard_run; exact rfl; exact rfl) | (apply R.guard_not; (iterate 3 exact rfl)) | (apply R.guard_not0; exact rfl; exact rfl) | (apply R.guard_un; (iterate 3 exact rfl)) | (apply R.guard_un0; exact rfl; exact rfl) | (apply R.guard rfl rfl ?_ (fun h => ⟨rfl, ?_⟩) <;> try intro)) | apply R.nil | (apply T.is; first | apply T.seq | apply T.region | apply T.block | apply T.scope | apply T.label | apply T.skip | apply T.exit | apply T.ret | (apply T.cond_t; exact rfl) | (apply T.cond_f; exact rfl) | (apply T.cond_h; exact rfl; assumption) | (apply T.cond_n; exact rfl; assumption) | (apply T.cond rfl <;> intro)) | apply Rnd.step)
  apply T.loopK (α := Nat × β) (I := fun x => x.1 ≤ xs.length ∧ I x.1 x.2) (σi := fun x => [(0, .func (.yield l) #[] #[]), (5, .slice p xs.length cap), (6, .int .i64 xs.length), (7, .int .i64 x.1)])
    (Li := fun x => (l, o) :: (cb, .cells ⟨[.slice p xs.length cap]⟩ 66 (0, 0)) :: (Li x.1 x.2 ++ [])) (μ := fun x => xs.length - x.1) (i0 := (0, y0))
  · exact ⟨Nat.zero_le _, h0⟩
  · exact ⟨rfl, rfl, rfl, rfl, trivial⟩
  · simp only [List.append_nil]
    (focus ((repeat' (first | exact Keep.nil _ | exact Ext.one _ _ | exact Ext.here _ _ | exact Ext.all _ | apply Keep.cons | apply Keep.app | apply Keep.last | apply Ext.cons | apply Ext.app)); done))
  · rintro ⟨i, y⟩ ⟨hi, hI⟩
    simp only at hi hI ⊢
    rcases Nat.lt_or_ge i xs.length with hlt | hge
    · obtain ⟨x, hx⟩ : ∃ x, xs[i]? = some x := ⟨_, List.getElem?_eq_getElem (by omega)⟩
      have hne : xs ≠ [] := by intro e; rw [e] at hlt; simp at hlt
      obtain ⟨b, ob, hpe, H⟩ := hp.at hx
      replace H := H 1 iV_len
      have hnb : b ∉ blks ((l, o) :: (cb, .cells ⟨[.slice p xs.length cap]⟩ 66 (0, 0)) :: Li 0 y0) := by
        have := hoff hne
        rw [hpe] at this
        exact this _ rfl
      repeat' (first | (apply RI.yield; (iterate 3 exact rfl); (focus (exact Ext.two _ (Ext.one _ _) (Ext.cons _ (Ext.here _ _)))); intro w1 hw1; exact hY i y x w1 hI hx; rintro v Lo ⟨rfl, L5, ⟨y', hI', rfl⟩, rfl⟩) | (apply R.is1; first | (apply R.isBin; first | (apply R.pure; exact rfl; first | (apply Ok1.add64; exact rfl; exact rfl; omega; omega) | (apply Ok1.lss_t; exact rfl; exact rfl; omega) | (apply Ok1.lss_f; exact rfl; exact rfl; omega)) | (apply R.lss rfl rfl rfl <;> intro)) | (apply R.isCall; first | (apply R.pure; exact rfl; first | (apply Ok1.lenS; (iterate 3 exact rfl)) | (apply Ok1.lenStr; (iterate 3 exact rfl)) | (apply Ok1.lenMm; (iterate 3 exact rfl); (focus ((repeat' (first | exact At.head | apply At.tail | apply At.right)); done))) | (apply Ok1.lenM_nil; (iterate 3 exact rfl)))) | (apply R.pure; exact rfl; first | (apply Ok1.indexAddrP; (iterate 4 exact rfl); exact hpe; exact rfl; omega; omega) | (apply Ok1.load; exact rfl; apply Ld.row0 H; exact rfl; exact hnb; (iterate 3 exact rfl)) | (apply Ok1.move; exact rfl) | (apply Ok1.load; exact rfl; first | (apply Ld.own1; exact rfl; exact rfl; (focus ((repeat' (first | exact At.head | apply At.tail | apply At.right)); done)); exact rfl) | (apply Ld.ownk; exact rfl; exact rfl; (focus ((repeat' (first | exact At.head | apply At.tail | apply At.right)); done)); exact rfl) | (apply Ld.old1; exact rfl; exact rfl; assumption; (first | exact List.not_mem_nil | assumption)) | (apply Ld.blk1; exact rfl; exact rfl; assumption; (first | exact List.not_mem_nil | assumption); exact rfl) | (apply Ld.blkk; exact rfl; exact rfl; assumption; (first | exact List.not_mem_nil | assumption); exact rfl)) | (apply Ok1.assign; exact rfl) | (apply Ok1.indexAddr; (iterate 5 exact rfl); omega; omega) | (apply Ok1.indexAddrA; (iterate 5 exact rfl); omega; omega) | (apply Ok1.not_t; exact rfl) | (apply Ok1.not_f; exact rfl) | (apply Ok1.not; exact rfl) | (apply Ok1.neg; exact rfl))) | (apply R.is0; first | fail) | (apply R.isG; first | (apply R.guard_run; exact rfl; exact rfl) | (apply R.guard_not; (iterate 3 exact rfl)) | (apply R.guard_not0; exact rfl; exact rfl) | (apply R.guard_un; (iterate 3 exact rfl)) | (apply R.guard_un0; exact rfl; exact rfl) | (apply R.guard rfl rfl ?_ (fun h => ⟨rfl, ?_⟩) <;> try intro)) | apply R.nil | (apply T.is; first | apply T.regionIn (id := 3) | apply T.seq | apply T.region | apply T.block | apply T.scope | apply T.label | apply T.skip | apply T.exit | apply T.ret | (apply T.cond_t; exact rfl) | (apply T.cond_f; exact rfl) | (apply T.cond_h; exact rfl; assumption) | (apply T.cond_n; exact rfl; assumption) | (apply T.cond rfl <;> intro)) | apply Rnd.step | (apply RI.step; exact rfl) | apply RI.nil)
      refine ⟨(i + 1, y'), ⟨by simp only; omega, hI'⟩, by simp only; omega, ⟨rfl, rfl, rfl, rfl, trivial⟩, ?_⟩
      simp only [List.append_nil, List.cons_append]
      (focus ((repeat' (first | exact Keep.nil _ | exact Ext.one _ _ | exact Ext.here _ _ | exact Ext.all _ | apply Keep.cons | apply Keep.app | apply Keep.last | apply Ext.cons | apply Ext.app)); done))
    · have him : i = xs.length := by omega
      subst him
      repeat' (first | (apply R.is1; first | (apply R.isBin; first | (apply R.pure; exact rfl; first | (apply Ok1.add64; exact rfl; exact rfl; omega; omega) | (apply Ok1.lss_t; exact rfl; exact rfl; omega) | (apply Ok1.lss_f; exact rfl; exact rfl; omega)) | (apply R.lss rfl rfl rfl <;> intro)) | (apply R.isCall; first | (apply R.pure; exact rfl; first | (apply Ok1.lenS; (iterate 3 exact rfl)) | (apply Ok1.lenStr; (iterate 3 exact rfl)) | (apply Ok1.lenMm; (iterate 3 exact rfl); (focus ((repeat' (first | exact At.head | apply At.tail | apply At.right)); done))) | (apply Ok1.lenM_nil; (iterate 3 exact rfl)))) | (apply R.pure; exact rfl; first | (apply Ok1.move; exact rfl) | (apply Ok1.load; exact rfl; first | (apply Ld.own1; exact rfl; exact rfl; (focus ((repeat' (first | exact At.head | apply At.tail | apply At.right)); done)); exact rfl) | (apply Ld.ownk; exact rfl; exact rfl; (focus ((repeat' (first | exact At.head | apply At.tail | apply At.right)); done)); exact rfl) | (apply Ld.old1; exact rfl; exact rfl; assumption; (first | exact List.not_mem_nil | assumption)) | (apply Ld.blk1; exact rfl; exact rfl; assumption; (first | exact List.not_mem_nil | assumption); exact rfl) | (apply Ld.blkk; exact rfl; exact rfl; assumption; (first | exact List.not_mem_nil | assumption); exact rfl)) | (apply Ok1.assign; exact rfl) | (apply Ok1.indexAddr; (iterate 5 exact rfl); omega; omega) | (apply Ok1.indexAddrA; (iterate 5 exact rfl); omega; omega) | (apply Ok1.not_t; exact rfl) | (apply Ok1.not_f; exact rfl) | (apply Ok1.not; exact rfl) | (apply Ok1.neg; exact rfl))) | (apply R.is0; first | fail) | (apply R.isG; first | (apply R.guard_run; exact rfl; exact rfl) | (apply R.guard_not; (iterate 3 exact rfl)) | (apply R.guard_not0; exact rfl; exact rfl) | (apply R.guard_un; (iterate 3 exact rfl)) | (apply R.guard_un0; exact rfl; exact rfl) | (apply R.guard rfl rfl ?_ (fun h => ⟨rfl, ?_⟩) <;> try intro)) | apply R.nil | (apply T.is; first | apply T.seq | apply T.region | apply T.block | apply T.scope | apply T.label | apply T.skip | apply T.exit | apply T.ret | (apply T.cond_t; exact rfl) | (apply T.cond_f; exact rfl) | (apply T.cond_h; exact rfl; assumption) | (apply T.cond_n; exact rfl; assumption) | (apply T.cond rfl <;> intro)) | apply Rnd.step)
      (apply RetOk.n)
      exact ⟨_, by simp only [List.append_nil]; (focus ((repeat' (first | exact Keep.nil _ | exact Ext.one _ _ | exact Ext.here _ _ | exact Ext.all _ | apply Keep.cons | apply Keep.app | apply Keep.last | apply Ext.cons | apply Ext.app)); done)), y, hI, rfl⟩
theorem appendSeq_ok (cb : Nat) (p : Option Addr) (n cap : Nat) (xs : List Int) (hn : n = xs.length) (hbig : n ≤ 1000000) (w : World) (hp : RdSl w p iV xs) (hoff : xs ≠ [] → Off p [cb]) :
    CallM Tryz.prog 131 [.slice none 0 0, .func (.func 118) #[] #[.pointer (some ⟨cb, 0, none⟩)]] [(cb, .cells ⟨[.slice p n cap]⟩ 66 (0, 0))] w fun v L => ∃ ov, OvOk 1 ov n (iis xs) ∧ v = slV ov n ∧ L = (cb, .cells ⟨[.slice p n cap]⟩ 66 (0, 0)) :: blkL 3 ov (iis xs) := by
  subst hn
  refine enterF (tb := tb) Tryz.func131 rfl Tryz.ntmps131 rfl ?_
  repeat' (first | (apply TF.range (gf := 118); exact rfl; exact rfl) | apply TF.seq | (apply R.is1; first | (apply R.pure; exact rfl; first | (apply Ok1.move; exact rfl) | (apply Ok1.load; exact rfl; first | (apply Ld.own1; exact rfl; exact rfl; (focus ((repeat' (first | exact At.head | apply At.tail | apply At.right)); done)); exact rfl) | (apply Ld.ownk; exact rfl; exact rfl; (focus ((repeat' (first | exact At.head | apply At.tail | apply At.right)); done)); exact rfl) | (apply Ld.old1; exact rfl; exact rfl; assumption; (first | exact List.not_mem_nil | assumption)) | (apply Ld.blk1; exact rfl; exact rfl; assumption; (first | exact List.not_mem_nil | assumption); exact rfl) | (apply Ld.blkk; exact rfl; exact rfl; assumption; (first | exact List.not_mem_nil | assumption); exact rfl)) | (apply Ok1.assign; exact rfl)) | (apply R.box; (iterate 3 exact rfl); intro) | (apply R.buildSlice; (iterate 12 exact rfl); intro)) | (apply R.is0; first | (apply R.store; (iterate 6 exact rfl); (focus ((repeat' (first | exact Upd.head | apply Upd.tail | apply Upd.right)); done)); exact rfl) | fail) | (apply R.isG; first | (apply R.guard_run; exact rfl; exact rfl) | (apply R.guard_not; (iterate 3 exact rfl)) | (apply R.guard_not0; exact rfl; exact rfl) | (apply R.guard_un; (iterate 3 exact rfl)) | (apply R.guard_un0; exact rfl; exact rfl) | (apply R.guard rfl rfl ?_ (fun h => ⟨rfl, ?_⟩) <;> try intro)) | apply R.nil | (apply T.is; first | apply T.seq | apply T.region | apply T.block | apply T.scope | apply T.label | apply T.skip | apply T.exit | apply T.ret | (apply T.cond_t; exact rfl) | (apply T.cond_f; exact rfl) | (apply T.cond_h; exact rfl; assumption) | (apply T.cond_n; exact rfl; assumption) | (apply T.cond rfl <;> intro)) | apply Rnd.step | (apply RI.step; exact rfl) | apply RI.nil)
  rename_i out
  obtain ⟨Li, hLi⟩ : ∃ Li : Nat → Ov → Lst, Li = fun i ov => (out, .cells ⟨[slV ov i]⟩ 66 (0, 0)) :: blkL 3 ov (iis (xs.take i)) := ⟨_, rfl⟩
  refine ⟨⟨_, (cb, .cells ⟨[.slice p xs.length cap]⟩ 66 (0, 0)) :: Li 0 none, [], fun Lb => ∃ ov, OvOk 1 ov xs.length (iis xs) ∧ Lb = (cb, .cells ⟨[.slice p xs.length cap]⟩ 66 (0, 0)) :: Li xs.length ov, ?_, rfl, ?_, ?_⟩⟩
  · subst hLi
    rw [List.append_nil]
    change Keep _ [_, _]
    (focus ((repeat' (first | exact Keep.nil _ | exact Ext.one _ _ | exact Ext.here _ _ | exact Ext.all _ | apply Keep.cons | apply Keep.app | apply Keep.last | apply Ext.cons | apply Ext.app)); done))
  · rintro l rec w1 hok ⟨L2, hw1⟩
    have hrd := hp.chg' hw1.chg hoff
    have hof2 := RdSl.old iV_len (by decide) hp hoff hw1 (Ext.here _ _)
    refine (ivalues1_ok (fun i ov => i ≤ xs.length ∧ OvOk 1 ov i (iis (xs.take i))) Li l _ cb p xs.length cap xs rfl (by omega) none ⟨Nat.zero_le _, OvOk.start 1⟩ ?_ w1 hrd hof2).to ?_
    · intro i ov x w2 ⟨hi, hI⟩ hx
      have hlt : i < xs.length := (List.getElem?_eq_some_iff.1 hx).1
      subst hLi
      apply YieldM.of (tb := tb) hok.mod hok.params (blt_lt rfl) hok.assign hok.body hok.state hok.pending
      repeat' (first | fail | (apply R.is1; first | (apply R.pure; exact rfl; first | (apply Ok1.move; exact rfl) | (apply Ok1.load; exact rfl; first | (apply Ld.own1; exact rfl; exact rfl; (focus ((repeat' (first | exact At.head | apply At.tail | apply At.right)); done)); exact rfl) | (apply Ld.ownk; exact rfl; exact rfl; (focus ((repeat' (first | exact At.head | apply At.tail | apply At.right)); done)); exact rfl) | (apply Ld.old1; exact rfl; exact rfl; assumption; (first | exact List.not_mem_nil | assumption)) | (apply Ld.blk1; exact rfl; exact rfl; assumption; (first | exact List.not_mem_nil | assumption); exact rfl) | (apply Ld.blkk; exact rfl; exact rfl; assumption; (first | exact List.not_mem_nil | assumption); exact rfl)) | (apply Ok1.assign; exact rfl)) | (apply R.box; (iterate 3 exact rfl); intro) | (apply R.buildSlice; (iterate 12 exact rfl); intro)) | (apply R.is0; first | (apply R.store; (iterate 6 exact rfl); (focus ((repeat' (first | exact Upd.head | apply Upd.tail | apply Upd.right)); done)); exact rfl) | fail) | (apply R.isG; first | (apply R.guard_run; exact rfl; exact rfl) | (apply R.guard_not; (iterate 3 exact rfl)) | (apply R.guard_not0; exact rfl; exact rfl) | (apply R.guard_un; (iterate 3 exact rfl)) | (apply R.guard_un0; exact rfl; exact rfl) | (apply R.guard rfl rfl ?_ (fun h => ⟨rfl, ?_⟩) <;> try intro)) | apply R.nil | (apply T.is; first | apply T.seq | apply T.region | apply T.block | apply T.scope | apply T.label | apply T.skip | apply T.exit | apply T.ret | (apply T.cond_t; exact rfl) | (apply T.cond_f; exact rfl) | (apply T.cond_h; exact rfl; assumption) | (apply T.cond_n; exact rfl; assumption) | (apply T.cond rfl <;> intro)) | apply Rnd.step | (apply RI.step; exact rfl) | apply RI.nil)
      refine ⟨_, .cons (.one _ _) (.last (.all _)), ?_⟩
      repeat' (first | fail | (apply R.is1; first | (apply R.isCall; first | (apply R.append1; (iterate 12 exact rfl); (focus ((repeat' (first | exact OwnAt.mid hI | exact OwnAt.base hI | exact OwnAt.nil _ | apply OwnAt.tail | apply OwnAt.right)); done)); (focus ((repeat' (first | exact At.head | apply At.tail | apply At.right)); done)); exact rfl; exact rfl; omega; omega; intro b2 j2 k2 hj2)) | (apply R.pure; exact rfl; first | (apply Ok1.move; exact rfl) | (apply Ok1.load; exact rfl; first | (apply Ld.own1; exact rfl; exact rfl; (focus ((repeat' (first | exact At.head | apply At.tail | apply At.right)); done)); exact rfl) | (apply Ld.ownk; exact rfl; exact rfl; (focus ((repeat' (first | exact At.head | apply At.tail | apply At.right)); done)); exact rfl) | (apply Ld.old1; exact rfl; exact rfl; assumption; (first | exact List.not_mem_nil | assumption)) | (apply Ld.blk1; exact rfl; exact rfl; assumption; (first | exact List.not_mem_nil | assumption); exact rfl) | (apply Ld.blkk; exact rfl; exact rfl; assumption; (first | exact List.not_mem_nil | assumption); exact rfl)) | (apply Ok1.assign; exact rfl)) | (apply R.box; (iterate 3 exact rfl); intro) | (apply R.buildSlice; (iterate 12 exact rfl); intro)) | (apply R.is0; first | (apply R.store; (iterate 6 exact rfl); (focus ((repeat' (first | exact Upd.head | apply Upd.tail | apply Upd.right)); done)); exact rfl) | fail) | (apply R.isG; first | (apply R.guard_run; exact rfl; exact rfl) | (apply R.guard_not; (iterate 3 exact rfl)) | (apply R.guard_not0; exact rfl; exact rfl) | (apply R.guard_un; (iterate 3 exact rfl)) | (apply R.guard_un0; exact rfl; exact rfl) | (apply R.guard rfl rfl ?_ (fun h => ⟨rfl, ?_⟩) <;> try intro)) | apply R.nil | (apply T.is; first | apply T.seq | apply T.region | apply T.block | apply T.scope | apply T.label | apply T.skip | apply T.exit | apply T.ret | (apply T.cond_t; exact rfl) | (apply T.cond_f; exact rfl) | (apply T.cond_h; exact rfl; assumption) | (apply T.cond_n; exact rfl; assumption) | (apply T.cond rfl <;> intro)) | apply Rnd.step | (apply RI.step; exact rfl) | apply RI.nil)
      have hs : iis (xs.take (i + 1)) = iis (xs.take i) ++ [.int .i64 x] := by rw [List.take_add_one, hx, iis_app]; rfl
      refine ⟨(out, .cells ⟨[slV (some (b2, j2, k2)) (i + 1)]⟩ 66 (0, 0)) :: blkL 3 (some (b2, j2, k2)) (iis (xs.take (i + 1))), ?_, some (b2, j2, k2), ⟨by omega, ?_⟩, rfl⟩
      · rw [hs]
        (focus ((repeat' (first | exact Keep.nil _ | exact Ext.one _ _ | exact Ext.here _ _ | exact Ext.all _ | apply Keep.cons | apply Keep.app | apply Keep.last | apply Ext.cons | apply Ext.app)); done))
      · rw [hs]
        exact hI.some (b := b2) (ys := [.int .i64 x]) (m := 1) rfl hj2
    · rintro v L ⟨ov, ⟨_, h2⟩, rfl⟩
      rw [List.take_length] at h2
      exact ⟨_, ⟨ov, h2, rfl⟩, rfl⟩
  · rintro D Lb ⟨ov, h2, rfl⟩
    subst hLi
    simp only [List.cons_append, List.append_nil, List.take_length]
    repeat' (first | apply TD.seq | apply TD.region | apply TD.ret | (apply R.is1; first | (apply R.pure; exact rfl; first | (apply Ok1.move; exact rfl) | (apply Ok1.load; exact rfl; first | (apply Ld.own1; exact rfl; exact rfl; (focus ((repeat' (first | exact At.head | apply At.tail | apply At.right)); done)); exact rfl) | (apply Ld.ownk; exact rfl; exact rfl; (focus ((repeat' (first | exact At.head | apply At.tail | apply At.right)); done)); exact rfl) | (apply Ld.old1; exact rfl; exact rfl; assumption; (first | exact List.not_mem_nil | assumption)) | (apply Ld.blk1; exact rfl; exact rfl; assumption; (first | exact List.not_mem_nil | assumption); exact rfl) | (apply Ld.blkk; exact rfl; exact rfl; assumption; (first | exact List.not_mem_nil | assumption); exact rfl)) | (apply Ok1.assign; exact rfl)) | (apply R.box; (iterate 3 exact rfl); intro) | (apply R.buildSlice; (iterate 12 exact rfl); intro)) | (apply R.is0; first | (apply R.store; (iterate 6 exact rfl); (focus ((repeat' (first | exact Upd.head | apply Upd.tail | apply Upd.right)); done)); exact rfl) | fail) | (apply R.isG; first | (apply R.guard_run; exact rfl; exact rfl) | (apply R.guard_not; (iterate 3 exact rfl)) | (apply R.guard_not0; exact rfl; exact rfl) | (apply R.guard_un; (iterate 3 exact rfl)) | (apply R.guard_un0; exact rfl; exact rfl) | (apply R.guard rfl rfl ?_ (fun h => ⟨rfl, ?_⟩) <;> try intro)) | apply R.nil | (apply T.is; first | apply T.seq | apply T.region | apply T.block | apply T.scope | apply T.label | apply T.skip | apply T.exit | apply T.ret | (apply T.cond_t; exact rfl) | (apply T.cond_f; exact rfl) | (apply T.cond_h; exact rfl; assumption) | (apply T.cond_n; exact rfl; assumption) | (apply T.cond rfl <;> intro)) | apply Rnd.step | (apply RI.step; exact rfl) | apply RI.nil)
    refine ⟨rfl, _, _, rfl, ?_, ov, h2, rfl, rfl⟩
    (focus ((repeat' (first | exact Keep.nil _ | exact Ext.one _ _ | exact Ext.here _ _ | exact Ext.all _ | apply Keep.cons | apply Keep.app | apply Keep.last | apply Ext.cons | apply Ext.app)); done))
end Go.Proofs.YtplhnkmmhndkjaaGreat
set_option linter.unusedSimpArgs false
set_option linter.unusedVariables false
namespace Go.Proofs.YtplhnkmmhndkjaaGreat
open Go.RowKit Go.Shelf
set_option maxRecDepth 100000
theorem collect_ok (cb : Nat) (p : Option Addr) (n cap : Nat) (xs : List Int) (hn : n = xs.length) (hbig : n ≤ 1000000) (w : World) (hp : RdSl w p iV xs) (hoff : xs ≠ [] → Off p [cb]) :
    CallM Tryz.prog 117 [.func (.func 118) #[] #[.pointer (some ⟨cb, 0, none⟩)]] [(cb, .cells ⟨[.slice p n cap]⟩ 66 (0, 0))] w fun v L => ∃ ov, OvOk 1 ov n (iis xs) ∧ v = slV ov n ∧ L = (cb, .cells ⟨[.slice p n cap]⟩ 66 (0, 0)) :: blkL 3 ov (iis xs) := by
  have h := fun w1 (hc : Chg [cb] w w1) => appendSeq_ok cb p n cap xs hn hbig w1 (hp.chg' hc hoff) hoff
  refine enterK (tb := tb) Tryz.func117 rfl Tryz.ntmps117 rfl ?_
  repeat' (first | (apply R.is1; first | (apply R.isCall; first | (apply R.callE (vs := [.slice none 0 0, .func (.func 118) #[] #[.pointer (some ⟨cb, 0, none⟩)]]); (iterate 3 exact rfl); exact Ext.all _; intro w1 hw1; exact h w1 hw1.chg; rintro v Lo ⟨ov, hov, rfl, rfl⟩)) | (apply R.pure; exact rfl; first | (apply Ok1.move; exact rfl) | (apply Ok1.assign; exact rfl))) | (apply R.is0; first | fail) | (apply R.isG; first | (apply R.guard_run; exact rfl; exact rfl) | (apply R.guard_not; (iterate 3 exact rfl)) | (apply R.guard_not0; exact rfl; exact rfl) | (apply R.guard_un; (iterate 3 exact rfl)) | (apply R.guard_un0; exact rfl; exact rfl) | (apply R.guard rfl rfl ?_ (fun h => ⟨rfl, ?_⟩) <;> try intro)) | apply R.nil | (apply T.is; first | apply T.seq | apply T.region | apply T.block | apply T.scope | apply T.label | apply T.skip | apply T.exit | apply T.ret | (apply T.cond_t; exact rfl) | (apply T.cond_f; exact rfl) | (apply T.cond_h; exact rfl; assumption) | (apply T.cond_n; exact rfl; assumption) | (apply T.cond rfl <;> intro)) | apply Rnd.step)
  (apply RetOk.t; exact rfl)
  exact ⟨_, by (focus ((repeat' (first | exact Keep.nil _ | exact Ext.one _ _ | exact Ext.here _ _ | exact Ext.all _ | apply Keep.cons | apply Keep.app | apply Keep.last | apply Ext.cons | apply Ext.app)); done)), ov, hov, rfl, rfl⟩
theorem sorted_ok (cb : Nat) (p : Option Addr) (n cap : Nat) (xs : List Int) (hn : n = xs.length) (hbig : n ≤ 1000000) (w : World) (hp : RdSl w p iV xs) (hoff : xs ≠ [] → Off p [cb]) :
    CallM Tryz.prog 100 [.func (.func 118) #[] #[.pointer (some ⟨cb, 0, none⟩)]] [(cb, .cells ⟨[.slice p n cap]⟩ 66 (0, 0))] w fun v L => ∃ ov, OvOk 1 ov n (iis (srt xs)) ∧ v = slV ov n ∧ L = (cb, .cells ⟨[.slice p n cap]⟩ 66 (0, 0)) :: blkL 3 ov (iis (srt xs)) := by
  subst hn
  have h := fun w1 (hc : Chg [cb] w w1) => collect_ok cb p xs.length cap xs rfl hbig w1 (hp.chg' hc hoff) hoff
  have hs := fun ov hov w1 => isort_ok xs (by omega) ov hov w1
  have hl : (iis (srt xs)).length = xs.length := by rw [iis_len, (srt_perm xs).length_eq]
  refine enterK (tb := tb) Tryz.func100 rfl Tryz.ntmps100 rfl ?_
  repeat' (first | (apply R.is1; first | (apply R.isCall; first | (apply R.callE (vs := [.func (.func 118) #[] #[.pointer (some ⟨cb, 0, none⟩)]]); (iterate 3 exact rfl); exact Ext.all _; intro w1 hw1; exact h w1 hw1.chg; rintro v Lo ⟨ov, hov, rfl, rfl⟩) | (apply R.callE (vs := [slV ov xs.length]); (iterate 3 exact rfl); exact Ext.cons _ (Ext.here _ _); intro w1 hw1; exact hs ov hov w1; rintro v Lo ⟨rfl, rfl⟩)) | (apply R.pure; exact rfl; first | (apply Ok1.move; exact rfl) | (apply Ok1.assign; exact rfl))) | (apply R.is0; first | fail) | (apply R.isG; first | (apply R.guard_run; exact rfl; exact rfl) | (apply R.guard_not; (iterate 3 exact rfl)) | (apply R.guard_not0; exact rfl; exact rfl) | (apply R.guard_un; (iterate 3 exact rfl)) | (apply R.guard_un0; exact rfl; exact rfl) | (apply R.guard rfl rfl ?_ (fun h => ⟨rfl, ?_⟩) <;> try intro)) | apply R.nil | (apply T.is; first | apply T.seq | apply T.region | apply T.block | apply T.scope | apply T.label | apply T.skip | apply T.exit | apply T.ret | (apply T.cond_t; exact rfl) | (apply T.cond_f; exact rfl) | (apply T.cond_h; exact rfl; assumption) | (apply T.cond_n; exact rfl; assumption) | (apply T.cond rfl <;> intro)) | apply Rnd.step)
  (apply RetOk.t; exact rfl)
  refine ⟨_, ?_, ov, ⟨by rw [hl, Nat.mul_one], hov.2⟩, rfl, rfl⟩
  (focus ((repeat' (first | exact Keep.nil _ | exact Ext.one _ _ | exact Ext.here _ _ | exact Ext.all _ | apply Keep.cons | apply Keep.app | apply Keep.last | apply Ext.cons | apply Ext.app)); done))
theorem twice_ok (p : Option Addr) (n cap : Nat) (xs : List Int) (hn : n = xs.length) (hbig : n ≤ 1000000) (w : World) (hp : RdSl w p iV xs) :
    CallM Tryz.prog 63 [.slice p n cap] [] w fun v L => v = .bool (decide (¬ xs.Nodup)) ∧ L = [] := by
  subst hn
  have hc := fun ys ov (hl : ys.length = xs.length) hov w1 => icompact_ok ys (by omega) ov hov w1
  have hu : (Go.Lib.compact (srt xs)).length ≤ xs.length := uniq_le xs
  have hue : (Go.Lib.compact (srt xs)).length = xs.length ↔ xs.Nodup := uniq_len xs
  have hsl : (srt xs).length = xs.length := (srt_perm xs).length_eq
  have hss := fun cb w1 hr ho => sorted_ok cb p xs.length cap xs rfl hbig w1 hr ho
  generalize srt xs = ys at *
  replace hc := fun ov hov w1 => hc ys ov hsl hov w1
  rw [hsl] at hc
  refine enterK (tb := tb) Tryz.func63 rfl Tryz.ntmps63 rfl ?_
  by_cases hnd : xs.Nodup
  · have h2 := hue.2 hnd
    rw [decide_eq_false (by simp [hnd])]
    repeat' (first | (apply R.is1; first | (apply R.isBin; first | (apply R.pure; exact rfl; first | (apply Ok1.neq_t; exact rfl; exact rfl; omega) | (apply Ok1.neq_f; exact rfl; exact rfl; omega) | (apply Ok1.neqP; (iterate 5 exact rfl)) | (apply Ok1.neqM; (iterate 5 exact rfl)) | (apply Ok1.neqS; (iterate 5 exact rfl))) | (apply R.neq rfl rfl rfl <;> intro) | (apply R.neqF; (iterate 8 exact rfl); all_goals intro)) | (apply R.isCall; first | (apply R.callE (vs := [.slice p xs.length cap]); (iterate 3 exact rfl); exact Ext.none _; intro w1 hw1; exact ivalues_ok p xs.length cap w1; rintro v Lo ⟨cb, rfl, rfl⟩) | (apply R.callE (vs := [.func (.func 118) #[] #[.pointer (some ⟨cb, 0, none⟩)]]); (iterate 3 exact rfl); exact Ext.here _ _; intro w1 hw1; exact hss cb w1 (hp.chg' hw1.chg (fun _ => Off.nil _)) (RdSl.old iV_len (by decide) hp (fun _ => Off.nil _) hw1 (Li := [(cb, .cells ⟨[.slice p xs.length cap]⟩ 66 (0, 0))]) (by (focus ((repeat' (first | exact Ext.none _ | exact Ext.one _ _ | exact Ext.here _ _ | exact Ext.all _ | apply Ext.cons | apply Ext.app | apply Ext.two)); done)))); rintro v Lo ⟨ov, hov, rfl, rfl⟩) | (apply R.callE (vs := [slV ov xs.length]); (iterate 3 exact rfl); exact Ext.cons _ (Ext.here _ _); intro w1 hw1; exact hc ov hov w1; rintro v Lo ⟨ov2, hov2, rfl, rfl⟩) | (apply R.pure; exact rfl; apply Ok1.lenOv; (iterate 3 exact rfl); first | exact hov2) | (apply R.pure; exact rfl; first | (apply Ok1.lenS; (iterate 3 exact rfl)) | (apply Ok1.lenStr; (iterate 3 exact rfl)) | (apply Ok1.lenMm; (iterate 3 exact rfl); (focus ((repeat' (first | exact At.head | apply At.tail | apply At.right)); done))) | (apply Ok1.lenM_nil; (iterate 3 exact rfl)))) | (apply R.pure; exact rfl; first | (apply Ok1.lenOv; (iterate 3 exact rfl); exact hov2) | (apply Ok1.move; exact rfl) | (apply Ok1.assign; exact rfl))) | (apply R.is0; first | fail) | (apply R.isG; first | (apply R.guard_run; exact rfl; exact rfl) | (apply R.guard_not; (iterate 3 exact rfl)) | (apply R.guard_not0; exact rfl; exact rfl) | (apply R.guard_un; (iterate 3 exact rfl)) | (apply R.guard_un0; exact rfl; exact rfl) | (apply R.guard rfl rfl ?_ (fun h => ⟨rfl, ?_⟩) <;> try intro)) | apply R.nil | (apply T.is; first | apply T.seq | apply T.region | apply T.block | apply T.scope | apply T.label | apply T.skip | apply T.exit | apply T.ret | (apply T.cond_t; exact rfl) | (apply T.cond_f; exact rfl) | (apply T.cond_h; exact rfl; assumption) | (apply T.cond_n; exact rfl; assumption) | (apply T.cond rfl <;> intro)) | apply Rnd.step)
    all_goals (apply RetOk.t; exact rfl)
    all_goals exact ⟨_, by (focus ((repeat' (first | exact Keep.nil _ | exact Ext.one _ _ | exact Ext.here _ _ | exact Ext.all _ | apply Keep.cons | apply Keep.app | apply Keep.last | apply Ext.cons | apply Ext.app)); done)), rfl, rfl⟩
  · have h2 : (Go.Lib.compact ys).length ≠ xs.length := fun e => hnd (hue.1 e)
    rw [decide_eq_true hnd]
    repeat' (first | (apply R.is1; first | (apply R.isBin; first | (apply R.pure; exact rfl; first | (apply Ok1.neq_t; exact rfl; exact rfl; omega) | (apply Ok1.neq_f; exact rfl; exact rfl; omega) | (apply Ok1.neqP; (iterate 5 exact rfl)) | (apply Ok1.neqM; (iterate 5 exact rfl)) | (apply Ok1.neqS; (iterate 5 exact rfl))) | (apply R.neq rfl rfl rfl <;> intro) | (apply R.neqF; (iterate 8 exact rfl); all_goals intro)) | (apply R.isCall; first | (apply R.callE (vs := [.slice p xs.length cap]); (iterate 3 exact rfl); exact Ext.none _; intro w1 hw1; exact ivalues_ok p xs.length cap w1; rintro v Lo ⟨cb, rfl, rfl⟩) | (apply R.callE (vs := [.func (.func 118) #[] #[.pointer (some ⟨cb, 0, none⟩)]]); (iterate 3 exact rfl); exact Ext.here _ _; intro w1 hw1; exact hss cb w1 (hp.chg' hw1.chg (fun _ => Off.nil _)) (RdSl.old iV_len (by decide) hp (fun _ => Off.nil _) hw1 (Li := [(cb, .cells ⟨[.slice p xs.length cap]⟩ 66 (0, 0))]) (by (focus ((repeat' (first | exact Ext.none _ | exact Ext.one _ _ | exact Ext.here _ _ | exact Ext.all _ | apply Ext.cons | apply Ext.app | apply Ext.two)); done)))); rintro v Lo ⟨ov, hov, rfl, rfl⟩) | (apply R.callE (vs := [slV ov xs.length]); (iterate 3 exact rfl); exact Ext.cons _ (Ext.here _ _); intro w1 hw1; exact hc ov hov w1; rintro v Lo ⟨ov2, hov2, rfl, rfl⟩) | (apply R.pure; exact rfl; apply Ok1.lenOv; (iterate 3 exact rfl); first | exact hov2) | (apply R.pure; exact rfl; first | (apply Ok1.lenS; (iterate 3 exact rfl)) | (apply Ok1.lenStr; (iterate 3 exact rfl)) | (apply Ok1.lenMm; (iterate 3 exact rfl); (focus ((repeat' (first | exact At.head | apply At.tail | apply At.right)); done))) | (apply Ok1.lenM_nil; (iterate 3 exact rfl)))) | (apply R.pure; exact rfl; first | (apply Ok1.lenOv; (iterate 3 exact rfl); exact hov2) | (apply Ok1.move; exact rfl) | (apply Ok1.assign; exact rfl))) | (apply R.is0; first | fail) | (apply R.isG; first | (apply R.guard_run; exact rfl; exact rfl) | (apply R.guard_not; (iterate 3 exact rfl)) | (apply R.guard_not0; exact rfl; exact rfl) | (apply R.guard_un; (iterate 3 exact rfl)) | (apply R.guard_un0; exact rfl; exact rfl) | (apply R.guard rfl rfl ?_ (fun h => ⟨rfl, ?_⟩) <;> try intro)) | apply R.nil | (apply T.is; first | apply T.seq | apply T.region | apply T.block | apply T.scope | apply T.label | apply T.skip | apply T.exit | apply T.ret | (apply T.cond_t; exact rfl) | (apply T.cond_f; exact rfl) | (apply T.cond_h; exact rfl; assumption) | (apply T.cond_n; exact rfl; assumption) | (apply T.cond rfl <;> intro)) | apply Rnd.step)
    all_goals (apply RetOk.t; exact rfl)
    all_goals exact ⟨_, by (focus ((repeat' (first | exact Keep.nil _ | exact Ext.one _ _ | exact Ext.here _ _ | exact Ext.all _ | apply Keep.cons | apply Keep.app | apply Keep.last | apply Ext.cons | apply Ext.app)); done)), rfl, rfl⟩
end Go.Proofs.YtplhnkmmhndkjaaGreat
set_option linter.unusedSimpArgs false
set_option linter.unusedVariables false
namespace Go.Proofs.YtplhnkmmhndkjaaGreat
open Go.RowKit Go.Shelf
set_option maxRecDepth 100000
/-- A set: four logs. -/
def setV (gs : List Lg) : List Value := gs.map Lg.v
def LsL (gs : List Lg) : Lst := gs.flatMap Lg.L
def SetL (bs : Nat) (gs : List Lg) : Lst := (bs, .cells ⟨setV gs⟩ 132 (0, 0)) :: LsL gs
structure GOk (gs : List Lg) : Prop where
  len : gs.length = 4
  ok : ∀ g ∈ gs, g.ok
  le : ∀ g ∈ gs, g.xs.length ≤ 256
def lgs (gs : List Lg) : List (List Int) := gs.map Lg.xs
def lcat (gs : List Lg) : List Int := gs.flatMap Lg.xs
structure SetR (w : World) (bs : Nat) (gs : List Lg) : Prop where
  b : w.heap[bs]? = some (.cells ⟨setV gs⟩ 132 (0, 0))
  rd : ∀ g ∈ gs, RdSl w (ovp g.ov) iV g.xs
theorem mem_LsL {gs : List Lg} {g : Lg} (h : g ∈ gs) {x : Nat × Obj} (hx : x ∈ g.L) : x ∈ LsL gs := List.mem_flatMap.2 ⟨g, h, hx⟩
theorem SetR.of {bs : Nat} {gs : List Lg} (hg : GOk gs) {w0 w : World} {S : List Nat} {L : Lst} (hw : Hp w0 S L w) (hin : ∀ x ∈ SetL bs gs, x ∈ L) : SetR w bs gs :=
  ⟨hw.get _ _ (hin _ List.mem_cons_self), fun g h => Lg.rd (hg.ok g h) hw fun x hx => hin _ (List.mem_cons_of_mem _ (mem_LsL h hx))⟩
theorem SetR.chg {bs : Nat} {gs : List Lg} {w w' : World} (h : SetR w bs gs) (hc : Chg [] w w') : SetR w' bs gs :=
  ⟨hc.heap h.b List.not_mem_nil, fun g hm => (h.rd g hm).chg' hc (fun _ => Off.nil _)⟩
theorem setV_get {gs : List Lg} {i : Nat} {g : Lg} (h : gs[i]? = some g) (hk : g.ok) : (setV gs)[0 + i * 1]? = some (.slice (ovp g.ov) g.xs.length (ovc g.ov g.xs.length)) := by
  rw [Nat.zero_add, Nat.mul_one, setV, List.getElem?_map, h, Option.map_some, Lg.v_eq hk]
theorem log_ok (bs : Nat) (gs : List Lg) (hg : GOk gs) (i : Nat) (g : Lg) (hi : gs[i]? = some g) (w : World) (hs : SetR w bs gs) :
    CallM Tryz.prog 104 [.pointer (some ⟨bs, 0, none⟩), .int .i64 i] [] w fun v L => ∃ ov, OvOk 1 ov g.xs.length (iis g.xs) ∧ v = slV ov g.xs.length ∧ L = blkL 3 ov (iis g.xs) := by
  have hlt : i < 4 := by rw [← hg.len]; exact (List.getElem?_eq_some_iff.1 hi).1
  have hm := List.mem_of_getElem? hi
  have hcell := setV_get hi (hg.ok g hm)
  have hle := hg.le g hm
  have hrd := hs.rd g hm
  have hb := hs.b
  have hcl := fun w1 (hc : Chg [] w w1) => iclone_ok (ovp g.ov) g.xs.length (ovc g.ov g.xs.length) g.xs rfl (by omega) w1 (hrd.chg' hc (fun _ => Off.nil _))
  refine enterK (tb := tb) Tryz.func104 rfl Tryz.ntmps104 rfl ?_
  repeat' (first | (apply R.is1; first | (apply R.isBin; first | (apply R.pure; exact rfl; first | (apply Ok1.lss_t; exact rfl; exact rfl; omega) | (apply Ok1.lss_f; exact rfl; exact rfl; omega) | (apply Ok1.geq_t; exact rfl; exact rfl; omega) | (apply Ok1.geq_f; exact rfl; exact rfl; omega) | (apply Ok1.eql_t; exact rfl; exact rfl; omega) | (apply Ok1.eql_f; exact rfl; exact rfl; omega) | (apply Ok1.eqlP; (iterate 5 exact rfl)) | (apply Ok1.eqlM; (iterate 5 exact rfl)) | (apply Ok1.eqlS; (iterate 5 exact rfl))) | (apply R.lss rfl rfl rfl <;> intro) | (apply R.geq rfl rfl rfl <;> intro) | (apply R.eql rfl rfl rfl <;> intro) | (apply R.eqlF; (iterate 8 exact rfl); all_goals intro)) | (apply R.isCall; first | (apply R.callE (vs := [.slice (ovp g.ov) g.xs.length (ovc g.ov g.xs.length)]); (iterate 3 exact rfl); exact Ext.none _; intro w1 hw1; exact hcl w1 hw1.chg; rintro v Lo ⟨ov, hov, _, rfl, rfl⟩)) | (apply R.pure; exact rfl; first | (apply Ok1.load; exact rfl; apply Ld.blk1; exact rfl; exact rfl; exact hb; exact List.not_mem_nil; exact hcell) | (apply Ok1.move; exact rfl) | (apply Ok1.fieldAddr; (iterate 5 exact rfl)) | (apply Ok1.load; exact rfl; first | (apply Ld.own1; exact rfl; exact rfl; (focus ((repeat' (first | exact At.head | apply At.tail | apply At.right)); done)); exact rfl) | (apply Ld.ownk; exact rfl; exact rfl; (focus ((repeat' (first | exact At.head | apply At.tail | apply At.right)); done)); exact rfl) | (apply Ld.old1; exact rfl; exact rfl; assumption; (first | exact List.not_mem_nil | assumption)) | (apply Ld.blk1; exact rfl; exact rfl; assumption; (first | exact List.not_mem_nil | assumption); exact rfl) | (apply Ld.blkk; exact rfl; exact rfl; assumption; (first | exact List.not_mem_nil | assumption); exact rfl)) | (apply Ok1.assign; exact rfl) | (apply Ok1.indexAddr; (iterate 5 exact rfl); omega; omega) | (apply Ok1.indexAddrA; (iterate 5 exact rfl); omega; omega) | (apply Ok1.pick_t; exact rfl; exact rfl) | (apply Ok1.pick_f; exact rfl; exact rfl) | (apply Ok1.pick_h; exact rfl; assumption; exact rfl) | (apply Ok1.pick_n; exact rfl; assumption; exact rfl) | (apply Ok1.nilCheck; exact rfl) | (apply Ok1.nilCheckF; exact rfl))) | (apply R.is0; first | fail) | (apply R.isG; first | (apply R.guard_run; exact rfl; exact rfl) | (apply R.guard_not; (iterate 3 exact rfl)) | (apply R.guard_not0; exact rfl; exact rfl) | (apply R.guard_un; (iterate 3 exact rfl)) | (apply R.guard_un0; exact rfl; exact rfl) | (apply R.guard rfl rfl ?_ (fun h => ⟨rfl, ?_⟩) <;> try intro)) | apply R.nil | (apply T.is; first | apply T.seq | apply T.region | apply T.block | apply T.scope | apply T.label | apply T.skip | apply T.exit | apply T.ret | (apply T.cond_t; exact rfl) | (apply T.cond_f; exact rfl) | (apply T.cond_h; exact rfl; assumption) | (apply T.cond_n; exact rfl; assumption) | (apply T.cond rfl <;> intro)) | apply Rnd.step)
  all_goals (apply RetOk.t; exact rfl)
  all_goals exact ⟨_, by (focus ((repeat' (first | exact Keep.nil _ | exact Ext.one _ _ | exact Ext.here _ _ | exact Ext.all _ | apply Keep.cons | apply Keep.app | apply Keep.last | apply Ext.cons | apply Ext.app)); done)), ov, hov, rfl, rfl⟩
end Go.Proofs.YtplhnkmmhndkjaaGreat
set_option linter.unusedSimpArgs false
set_option linter.unusedVariables false
namespace Go.Proofs.YtplhnkmmhndkjaaGreat
open Go.RowKit Go.Shelf
set_option maxRecDepth 100000
theorem lcat_snoc {gs : List Lg} {i : Nat} {g : Lg} (h : gs[i]? = some g) : lcat (gs.take (i + 1)) = lcat (gs.take i) ++ g.xs := by
  unfold lcat
  rw [List.take_add_one, h, List.flatMap_append]
  simp
theorem lcat_le {gs : List Lg} (h : ∀ g ∈ gs, g.xs.length ≤ 256) : (lcat gs).length ≤ 256 * gs.length := by
  induction gs with
  | nil => simp [lcat]
  | cons g gs ih =>
    have h1 := h g List.mem_cons_self
    have h2 := ih fun x hx => h x (List.mem_cons_of_mem _ hx)
    simp only [lcat, List.flatMap_cons, List.length_append, List.length_cons] at *
    omega
theorem GOk.cat {gs : List Lg} (hg : GOk gs) (i : Nat) : (lcat (gs.take i)).length ≤ 1024 := by
  have := lcat_le (gs := gs.take i) fun g h => hg.le g (List.mem_of_mem_take h)
  have h2 : (gs.take i).length ≤ 4 := by rw [List.length_take, hg.len]; omega
  omega
theorem rall_ok (bs : Nat) (gs : List Lg) (hg : GOk gs) (w : World) (hs : SetR w bs gs) :
    CallM Tryz.prog 71 [.pointer (some ⟨bs, 0, none⟩)] [] w fun v L => ∃ ov, OvOk 1 ov (uniq (lcat gs)).length (iis (uniq (lcat gs))) ∧ v = slV ov (uniq (lcat gs)).length ∧ L = blkL 3 ov (iis (uniq (lcat gs))) := by
  have hlog := fun i g hi w1 (hc : Chg [] w w1) => log_ok bs gs hg i g hi w1 (hs.chg hc)
  refine enterK (tb := tb) Tryz.func71 rfl Tryz.ntmps71 rfl ?_
  repeat' (first | (apply R.is1; first | (apply R.isBin; first | (apply R.pure; exact rfl; first | (apply Ok1.add64; exact rfl; exact rfl; omega; omega) | (apply Ok1.lss_t; exact rfl; exact rfl; omega) | (apply Ok1.lss_f; exact rfl; exact rfl; omega)) | (apply R.lss rfl rfl rfl <;> intro)) | (apply R.pure; exact rfl; first | (apply Ok1.move; exact rfl) | (apply Ok1.assign; exact rfl))) | (apply R.is0; first | fail) | (apply R.isG; first | (apply R.guard_run; exact rfl; exact rfl) | (apply R.guard_not; (iterate 3 exact rfl)) | (apply R.guard_not0; exact rfl; exact rfl) | (apply R.guard_un; (iterate 3 exact rfl)) | (apply R.guard_un0; exact rfl; exact rfl) | (apply R.guard rfl rfl ?_ (fun h => ⟨rfl, ?_⟩) <;> try intro)) | apply R.nil | (apply T.is; first | apply T.seq | apply T.region | apply T.block | apply T.scope | apply T.label | apply T.skip | apply T.exit | apply T.ret | (apply T.cond_t; exact rfl) | (apply T.cond_f; exact rfl) | (apply T.cond_h; exact rfl; assumption) | (apply T.cond_n; exact rfl; assumption) | (apply T.cond rfl <;> intro)) | apply Rnd.step)
  apply T.loopK (α := Nat × Ov) (I := fun y => y.1 ≤ 4 ∧ OvOk 1 y.2 (lcat (gs.take y.1)).length (iis (lcat (gs.take y.1)))) (σi := fun y => [(0, .pointer (some ⟨bs, 0, none⟩)), (3, slV y.2 (lcat (gs.take y.1)).length), (5, .int .i64 y.1)]) (Li := fun y => blkL 3 y.2 (iis (lcat (gs.take y.1)))) (μ := fun y => 4 - y.1) (i0 := (0, none))
  · exact ⟨Nat.zero_le _, rfl, rfl⟩
  · exact ⟨rfl, rfl, rfl, trivial⟩
  · exact Keep.nil _
  · rintro ⟨i, ov⟩ ⟨hi, hov⟩
    simp only at hi hov ⊢
    have hle := hg.cat i
    rcases Nat.lt_or_ge i 4 with hlt | hge
    · obtain ⟨g, hx⟩ : ∃ g, gs[i]? = some g := ⟨_, List.getElem?_eq_getElem (by rw [hg.len]; omega)⟩
      have hgl := hg.le g (List.mem_of_getElem? hx)
      have h1 := hlog i g hx
      have hsn := lcat_snoc hx
      have hl := congrArg List.length hsn
      rw [List.length_append] at hl
      repeat' (first | (apply R.is1; first | (apply R.isBin; first | (apply R.pure; exact rfl; first | (apply Ok1.add64; exact rfl; exact rfl; omega; omega) | (apply Ok1.lss_t; exact rfl; exact rfl; omega) | (apply Ok1.lss_f; exact rfl; exact rfl; omega)) | (apply R.lss rfl rfl rfl <;> intro)) | (apply R.isCall; first | (apply R.callE (vs := [.pointer (some ⟨bs, 0, none⟩), .int .i64 i]); (iterate 3 exact rfl); exact Ext.none _; intro w1 hw1; exact h1 w1 hw1.chg; rintro v Lo ⟨ov2, hov2, rfl, rfl⟩) | (apply R.appendSl (ov := ov) (ov2 := ov2) (n := (lcat (gs.take i)).length) (m := g.xs.length) (old := iis (lcat (gs.take i))) (news := iis g.xs) (e3 := 3); (iterate 12 exact rfl); exact hov; exact hov2; (focus ((repeat' (first | exact Ext.none _ | exact Ext.one _ _ | exact Ext.here _ _ | exact Ext.all _ | apply Ext.cons | apply Ext.app | apply Ext.two)); done)); exact Ext.mem (by (focus ((repeat' (first | exact Ext.none _ | exact Ext.one _ _ | exact Ext.here _ _ | exact Ext.all _ | apply Ext.cons | apply Ext.app | apply Ext.two)); done))); exact iis_one _; omega; intro ov1 hov1; rw [← iis_app, ← hsn, ← hl] at hov1; rw [← iis_app, ← hsn, ← hl])) | (apply R.pure; exact rfl; first | (apply Ok1.move; exact rfl) | (apply Ok1.assign; exact rfl))) | (apply R.is0; first | fail) | (apply R.isG; first | (apply R.guard_run; exact rfl; exact rfl) | (apply R.guard_not; (iterate 3 exact rfl)) | (apply R.guard_not0; exact rfl; exact rfl) | (apply R.guard_un; (iterate 3 exact rfl)) | (apply R.guard_un0; exact rfl; exact rfl) | (apply R.guard rfl rfl ?_ (fun h => ⟨rfl, ?_⟩) <;> try intro)) | apply R.nil | (apply T.is; first | apply T.seq | apply T.region | apply T.block | apply T.scope | apply T.label | apply T.skip | apply T.exit | apply T.ret | (apply T.cond_t; exact rfl) | (apply T.cond_f; exact rfl) | (apply T.cond_h; exact rfl; assumption) | (apply T.cond_n; exact rfl; assumption) | (apply T.cond rfl <;> intro)) | apply Rnd.step)
      exact ⟨(i + 1, ov1), ⟨by simp only; omega, hov1⟩, by simp only; omega, ⟨rfl, rfl, rfl, trivial⟩, by (focus ((repeat' (first | exact Keep.nil _ | exact Ext.one _ _ | exact Ext.here _ _ | exact Ext.all _ | apply Keep.cons | apply Keep.app | apply Keep.last | apply Ext.cons | apply Ext.app)); done))⟩
    · have him : i = 4 := by omega
      subst him
      have htk : gs.take 4 = gs := List.take_of_length_le (by rw [hg.len]; omega)
      rw [htk] at hov hle ⊢
      have hsl : (srt (lcat gs)).length = (lcat gs).length := (srt_perm _).length_eq
      have hso := fun w1 => isort_ok (lcat gs) (by omega) ov hov w1
      have hco := fun w1 => icompact_ok (srt (lcat gs)) (by omega) ov ⟨by rw [iis_len, Nat.mul_one], by have := hov.2; cases ov with | none => simp only at this ⊢; omega | some q => exact this⟩ w1
      rw [hsl] at hco
      repeat' (first | (apply R.is1; first | (apply R.isBin; first | (apply R.pure; exact rfl; first | (apply Ok1.add64; exact rfl; exact rfl; omega; omega) | (apply Ok1.lss_t; exact rfl; exact rfl; omega) | (apply Ok1.lss_f; exact rfl; exact rfl; omega)) | (apply R.lss rfl rfl rfl <;> intro)) | (apply R.isCall; first | (apply R.callE (vs := [slV ov (lcat gs).length]); (iterate 3 exact rfl); exact Ext.all _; intro w1 hw1; exact hso w1; rintro v Lo ⟨rfl, rfl⟩) | (apply R.callE (vs := [slV ov (lcat gs).length]); (iterate 3 exact rfl); exact Ext.here _ _; intro w1 hw1; exact hco w1; rintro v Lo ⟨ov2, hov2, rfl, rfl⟩)) | (apply R.pure; exact rfl; first | (apply Ok1.move; exact rfl) | (apply Ok1.assign; exact rfl))) | (apply R.is0; first | fail) | (apply R.isG; first | (apply R.guard_run; exact rfl; exact rfl) | (apply R.guard_not; (iterate 3 exact rfl)) | (apply R.guard_not0; exact rfl; exact rfl) | (apply R.guard_un; (iterate 3 exact rfl)) | (apply R.guard_un0; exact rfl; exact rfl) | (apply R.guard rfl rfl ?_ (fun h => ⟨rfl, ?_⟩) <;> try intro)) | apply R.nil | (apply T.is; first | apply T.seq | apply T.region | apply T.block | apply T.scope | apply T.label | apply T.skip | apply T.exit | apply T.ret | (apply T.cond_t; exact rfl) | (apply T.cond_f; exact rfl) | (apply T.cond_h; exact rfl; assumption) | (apply T.cond_n; exact rfl; assumption) | (apply T.cond rfl <;> intro)) | apply Rnd.step)
      (apply RetOk.t; exact rfl)
      exact ⟨_, by (focus ((repeat' (first | exact Keep.nil _ | exact Ext.one _ _ | exact Ext.here _ _ | exact Ext.all _ | apply Keep.cons | apply Keep.app | apply Keep.last | apply Ext.cons | apply Ext.app)); done)), ov2, hov2, rfl, rfl⟩
end Go.Proofs.YtplhnkmmhndkjaaGreat
set_option linter.unusedSimpArgs false
set_option linter.unusedVariables false
namespace Go.Proofs.YtplhnkmmhndkjaaGreat
open Go.RowKit Go.Shelf
set_option maxRecDepth 100000
theorem has_ok (bs : Nat) (gs : List Lg) (hg : GOk gs) (s : Int) (w : World) (hs : SetR w bs gs) :
    CallM Tryz.prog 32 [.pointer (some ⟨bs, 0, none⟩), .int .i64 s] [] w fun v L => v = .bool (decide (s ∈ lcat gs)) ∧ L = [] := by
  have hall := fun w1 (hc : Chg [] w w1) => rall_ok bs gs hg w1 (hs.chg hc)
  have hle := hg.cat 4
  rw [List.take_of_length_le (by rw [hg.len]; omega)] at hle
  have hul := uniq_le (lcat gs)
  have hum : decide (s ∈ lcat gs) = decide (s ∈ uniq (lcat gs)) := by simp only [uniq_mem]
  rw [hum]
  generalize uniq (lcat gs) = us at *
  refine enterK (tb := tb) Tryz.func32 rfl Tryz.ntmps32 rfl ?_
  repeat' (first | (apply R.is1; first | (apply R.isCall; first | (apply R.callE (vs := [.pointer (some ⟨bs, 0, none⟩)]); (iterate 3 exact rfl); exact Ext.none _; intro w1 hw1; exact hall w1 hw1.chg; rintro v Lo ⟨ov, hov, rfl, rfl⟩; rw [slV_eq hov]) | (apply R.callV (vs := [.slice (ovp ov) us.length (ovc ov us.length), .int .i64 s]); (iterate 3 exact rfl); intro w1 hw1; exact contains_ok (ovp ov) us.length (ovc ov us.length) us rfl (by omega) s w1 (irdown hov hw1 (Ext.mem (by (focus ((repeat' (first | exact Ext.none _ | exact Ext.one _ _ | exact Ext.here _ _ | exact Ext.all _ | apply Ext.cons | apply Ext.app | apply Ext.two)); done))))))) | (apply R.pure; exact rfl; first | (apply Ok1.move; exact rfl) | (apply Ok1.assign; exact rfl))) | (apply R.is0; first | fail) | (apply R.isG; first | (apply R.guard_run; exact rfl; exact rfl) | (apply R.guard_not; (iterate 3 exact rfl)) | (apply R.guard_not0; exact rfl; exact rfl) | (apply R.guard_un; (iterate 3 exact rfl)) | (apply R.guard_un0; exact rfl; exact rfl) | (apply R.guard rfl rfl ?_ (fun h => ⟨rfl, ?_⟩) <;> try intro)) | apply R.nil | (apply T.is; first | apply T.seq | apply T.region | apply T.block | apply T.scope | apply T.label | apply T.skip | apply T.exit | apply T.ret | (apply T.cond_t; exact rfl) | (apply T.cond_f; exact rfl) | (apply T.cond_h; exact rfl; assumption) | (apply T.cond_n; exact rfl; assumption) | (apply T.cond rfl <;> intro)) | apply Rnd.step)
  (apply RetOk.t; exact rfl)
  exact ⟨_, by (focus ((repeat' (first | exact Keep.nil _ | exact Ext.one _ _ | exact Ext.here _ _ | exact Ext.all _ | apply Keep.cons | apply Keep.app | apply Keep.last | apply Ext.cons | apply Ext.app)); done)), rfl, rfl⟩
theorem rnew_ok (w : World) : CallM Tryz.prog 24 [] [] w fun v L => ∃ bs, v = .pointer (some ⟨bs, 0, none⟩) ∧ L = SetL bs [lg0, lg0, lg0, lg0] := by
  refine enterK (tb := tb) Tryz.func24 rfl Tryz.ntmps24 rfl ?_
  repeat' (first | (apply R.is1; first | (apply R.pure; exact rfl; first | (apply Ok1.assign; exact rfl) | (apply Ok1.build; (iterate 5 exact rfl)) | (apply Ok1.buildA; (iterate 6 exact rfl))) | (apply R.box; (iterate 3 exact rfl); intro)) | (apply R.is0; first | fail) | (apply R.isG; first | (apply R.guard_run; exact rfl; exact rfl) | (apply R.guard_not; (iterate 3 exact rfl)) | (apply R.guard_not0; exact rfl; exact rfl) | (apply R.guard_un; (iterate 3 exact rfl)) | (apply R.guard_un0; exact rfl; exact rfl) | (apply R.guard rfl rfl ?_ (fun h => ⟨rfl, ?_⟩) <;> try intro)) | apply R.nil | (apply T.is; first | apply T.seq | apply T.region | apply T.block | apply T.scope | apply T.label | apply T.skip | apply T.exit | apply T.ret | (apply T.cond_t; exact rfl) | (apply T.cond_f; exact rfl) | (apply T.cond_h; exact rfl; assumption) | (apply T.cond_n; exact rfl; assumption) | (apply T.cond rfl <;> intro)) | apply Rnd.step)
  (apply RetOk.t; exact rfl)
  exact ⟨_, Keep.last (.all _), _, rfl, rfl⟩
theorem GOk.new : GOk [lg0, lg0, lg0, lg0] := ⟨rfl, by intro g h; simp only [List.mem_cons, List.not_mem_nil, or_false, or_self] at h; rw [h]; exact lg0_ok, by intro g h; simp only [List.mem_cons, List.not_mem_nil, or_false, or_self] at h; rw [h]; decide⟩
end Go.Proofs.YtplhnkmmhndkjaaGreat
