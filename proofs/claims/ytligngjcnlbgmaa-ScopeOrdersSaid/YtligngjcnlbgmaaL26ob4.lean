/- Texts of the proof: Wi2, Mc3, Mc4, Sm1, Rf1, Rf7, Rf8, C1, Tk1, L07x, C3a, D0, Eng17, C4, C5, C6, C9, Eng16, M1, Se1, Se2, Se3, Se4. -/
import Derived.Test.YtligngjcnlbgmaaL26ob3
import Derived.Sort.Statements
import Derived.Shelf.SlSortCmp.Insertion
import Derived.Shelf.SlSortCmp.WholeK
set_option linter.unusedSimpArgs false
set_option linter.unusedVariables false
namespace Go.Proofs.Ytligngjcnlbgmaa
open Go.RowKit Go.Shelf
def len4 (n : Int) : List Int := [n / 16777216 % 256, n / 65536 % 256, n / 256 % 256, n % 256]
theorem len4_byt (n : Int) : Byt (len4 n) := by
  intro y hy
  simp only [len4, List.mem_cons, List.not_mem_nil, or_false] at hy
  rcases hy with rfl | rfl | rfl | rfl <;> omega
theorem cellsE_slV (ov : Ov) (n : Nat) : cellsE (slV ov n) = some [slV ov n] := by cases ov <;> rfl
theorem one_slV (ov : Ov) (n : Nat) : [slV ov n].all Value.oneCell' = true := by cases ov <;> rfl
end Go.Proofs.Ytligngjcnlbgmaa
set_option linter.unusedSimpArgs false
set_option linter.unusedVariables false
namespace Go.Proofs.Ytligngjcnlbgmaa
open Go.RowKit Go.Shelf
set_option maxRecDepth 100000
def numI (s : Nat) (n : Int) : List Int := match s with
  | 0 => [n % 256]
  | 1 => [n / 256 % 256, n % 256]
  | _ => len4 n
theorem width_ok (s v : Int) (h0 : 0 ≤ s) (h1 : s ≤ 10) (h : IntKind.i64.wrap (1 * pw s.toNat) = v) : CallP Try.prog 73 [.int .i64 s] (.int .i64 v) := by
  refine enterP (tb := tb) Try.func73 rfl Try.ntmps73 rfl fun w => ?_
  have hb : s.toNat ≤ IntKind.i64.bits := by show s.toNat ≤ 64; omega
  repeat' (first | (apply R.is1; first | (apply R.isBin; first | (apply R.pure; exact rfl; first | (apply Ok1.shl; exact rfl; exact rfl; omega; exact hb; exact rfl))) | (apply R.pure; exact rfl; first | (apply Ok1.move; exact rfl) | (apply Ok1.assign; exact rfl))) | (apply R.is0; first | fail) | (apply R.isG; first | (apply R.guard_run; exact rfl; exact rfl) | (apply R.guard_not; (iterate 3 exact rfl)) | (apply R.guard_not0; exact rfl; exact rfl) | (apply R.guard_un; (iterate 3 exact rfl)) | (apply R.guard_un0; exact rfl; exact rfl) | (apply R.guard rfl rfl ?_ (fun h => ⟨rfl, ?_⟩) <;> try intro)) | apply R.nil | (apply T.is; first | apply T.seq | apply T.region | apply T.block | apply T.scope | apply T.label | apply T.skip | apply T.exit | apply T.ret | (apply T.cond_t; exact rfl) | (apply T.cond_f; exact rfl) | (apply T.cond_h; exact rfl; assumption) | (apply T.cond_n; exact rfl; assumption) | (apply T.cond rfl <;> intro)) | apply Rnd.step)
  (apply RetOk.t; exact rfl)
  rw [h]
theorem Keep.eq1 {b : Nat} {e : TypeId} {fz : Nat × Nat} {A B : List Value} (h : A = B) : Keep [(b, .cells ⟨A⟩ e fz)] [(b, .cells ⟨B⟩ e fz)] := by subst h; (focus ((repeat' (first | exact Keep.nil _ | exact Ext.one _ _ | exact Ext.here _ _ | exact Ext.all _ | apply Keep.cons | apply Keep.app | apply Keep.last | apply Ext.cons | apply Ext.app)); done))
theorem number_ok (s : Nat) (n : Int) (hs : s = 0 ∨ s = 1 ∨ s = 2) (h0 : 0 ≤ n) (h1 : n ≤ 9223372036854775807) (w : World) : CallM Try.prog 74 [.int .i64 s, .int .i64 n] [] w fun v L => ∃ b, v = .slice (some ⟨b, 0, none⟩) (numI s n).length (numI s n).length ∧ L = [(b, .cells ⟨u8s (numI s n)⟩ 5 (0, 0))] := by
  have hc : IntKind.u64.wrap n = n := wrap_u64 h0 (by omega)
  rcases hs with rfl | rfl | rfl
  · refine enterK (tb := tb) Try.func74 rfl Try.ntmps74 rfl ?_
    repeat' (first | (apply R.is1; first | (apply R.make1 (n := 1); (iterate 9 exact rfl); omega; intro bt) | (apply R.isBin; first | (apply R.pure; exact rfl; first | (apply Ok1.shr; exact rfl; exact rfl; omega; exact Nat.le_of_ble_eq_true rfl; exact rfl) | (apply Ok1.add64; exact rfl; exact rfl; omega; omega) | (apply Ok1.sub64; exact rfl; exact rfl; omega; omega) | (apply Ok1.lss_t; exact rfl; exact rfl; omega) | (apply Ok1.lss_f; exact rfl; exact rfl; omega) | (apply Ok1.mul64; exact rfl; exact rfl; omega; omega) | (apply Ok1.shr; exact rfl; exact rfl; omega; exact Nat.le_of_ble_eq_true rfl; (first | exact pwE1 | exact pwE2 | exact pwE3 | exact pwE4 | exact pwE5 | exact pwE6 | exact pwE7 | exact pwE8 | exact pwE16 | exact pwE24 | exact pwE32 | exact rfl))) | (apply R.lss rfl rfl rfl <;> intro)) | (apply R.isCall; first | apply R.callP rfl rfl rfl (width_ok 0 1 (by decide) (by decide) (by decide)) | (apply R.pure; exact rfl; first | (apply Ok1.lenS; (iterate 3 exact rfl)) | (apply Ok1.lenStr; (iterate 3 exact rfl)) | (apply Ok1.lenMm; (iterate 3 exact rfl); (focus ((repeat' (first | exact At.head | apply At.tail | apply At.right)); done))) | (apply Ok1.lenM_nil; (iterate 3 exact rfl)))) | (apply R.pure; exact rfl; first | (apply Ok1.move; exact rfl) | (apply Ok1.assign; exact rfl) | (apply Ok1.indexAddr; (iterate 5 exact rfl); omega; omega) | (apply Ok1.indexAddrA; (iterate 5 exact rfl); omega; omega) | (apply Ok1.convI64; (iterate 5 exact rfl); omega; omega) | (apply Ok1.convU64; (iterate 5 exact rfl); omega; omega) | (apply Ok1.convU32; (iterate 5 exact rfl); omega; omega) | (apply Ok1.convU8; (iterate 5 exact rfl); omega; omega) | (apply Ok1.conv; (iterate 5 exact rfl)))) | (apply R.is0; first | (apply R.store; (iterate 6 exact rfl); (focus ((repeat' (first | exact Upd.head | apply Upd.tail | apply Upd.right)); done)); exact rfl) | fail) | (apply R.isG; first | (apply R.guard_run; exact rfl; exact rfl) | (apply R.guard_not; (iterate 3 exact rfl)) | (apply R.guard_not0; exact rfl; exact rfl) | (apply R.guard_un; (iterate 3 exact rfl)) | (apply R.guard_un0; exact rfl; exact rfl) | (apply R.guard rfl rfl ?_ (fun h => ⟨rfl, ?_⟩) <;> try intro)) | apply R.nil | (apply T.is; first | apply T.rounds 2 | apply T.seq | apply T.region | apply T.block | apply T.scope | apply T.label | apply T.skip | apply T.exit | apply T.ret | (apply T.cond_t; exact rfl) | (apply T.cond_f; exact rfl) | (apply T.cond_h; exact rfl; assumption) | (apply T.cond_n; exact rfl; assumption) | (apply T.cond rfl <;> intro)) | apply Rnd.step)
    (apply RetOk.t; exact rfl)
    refine ⟨_, ?_, bt, rfl, rfl⟩
    simp only [u8_mod]
    apply Keep.eq1
    simp [numI, u8s, len4, pw]
  · refine enterK (tb := tb) Try.func74 rfl Try.ntmps74 rfl ?_
    repeat' (first | (apply R.is1; first | (apply R.make1 (n := 2); (iterate 9 exact rfl); omega; intro bt) | (apply R.isBin; first | (apply R.pure; exact rfl; first | (apply Ok1.shr; exact rfl; exact rfl; omega; exact Nat.le_of_ble_eq_true rfl; exact rfl) | (apply Ok1.add64; exact rfl; exact rfl; omega; omega) | (apply Ok1.sub64; exact rfl; exact rfl; omega; omega) | (apply Ok1.lss_t; exact rfl; exact rfl; omega) | (apply Ok1.lss_f; exact rfl; exact rfl; omega) | (apply Ok1.mul64; exact rfl; exact rfl; omega; omega) | (apply Ok1.shr; exact rfl; exact rfl; omega; exact Nat.le_of_ble_eq_true rfl; (first | exact pwE1 | exact pwE2 | exact pwE3 | exact pwE4 | exact pwE5 | exact pwE6 | exact pwE7 | exact pwE8 | exact pwE16 | exact pwE24 | exact pwE32 | exact rfl))) | (apply R.lss rfl rfl rfl <;> intro)) | (apply R.isCall; first | apply R.callP rfl rfl rfl (width_ok 1 2 (by decide) (by decide) (by decide)) | (apply R.pure; exact rfl; first | (apply Ok1.lenS; (iterate 3 exact rfl)) | (apply Ok1.lenStr; (iterate 3 exact rfl)) | (apply Ok1.lenMm; (iterate 3 exact rfl); (focus ((repeat' (first | exact At.head | apply At.tail | apply At.right)); done))) | (apply Ok1.lenM_nil; (iterate 3 exact rfl)))) | (apply R.pure; exact rfl; first | (apply Ok1.move; exact rfl) | (apply Ok1.assign; exact rfl) | (apply Ok1.indexAddr; (iterate 5 exact rfl); omega; omega) | (apply Ok1.indexAddrA; (iterate 5 exact rfl); omega; omega) | (apply Ok1.convI64; (iterate 5 exact rfl); omega; omega) | (apply Ok1.convU64; (iterate 5 exact rfl); omega; omega) | (apply Ok1.convU32; (iterate 5 exact rfl); omega; omega) | (apply Ok1.convU8; (iterate 5 exact rfl); omega; omega) | (apply Ok1.conv; (iterate 5 exact rfl)))) | (apply R.is0; first | (apply R.store; (iterate 6 exact rfl); (focus ((repeat' (first | exact Upd.head | apply Upd.tail | apply Upd.right)); done)); exact rfl) | fail) | (apply R.isG; first | (apply R.guard_run; exact rfl; exact rfl) | (apply R.guard_not; (iterate 3 exact rfl)) | (apply R.guard_not0; exact rfl; exact rfl) | (apply R.guard_un; (iterate 3 exact rfl)) | (apply R.guard_un0; exact rfl; exact rfl) | (apply R.guard rfl rfl ?_ (fun h => ⟨rfl, ?_⟩) <;> try intro)) | apply R.nil | (apply T.is; first | apply T.rounds 3 | apply T.seq | apply T.region | apply T.block | apply T.scope | apply T.label | apply T.skip | apply T.exit | apply T.ret | (apply T.cond_t; exact rfl) | (apply T.cond_f; exact rfl) | (apply T.cond_h; exact rfl; assumption) | (apply T.cond_n; exact rfl; assumption) | (apply T.cond rfl <;> intro)) | apply Rnd.step)
    (apply RetOk.t; exact rfl)
    refine ⟨_, ?_, bt, rfl, rfl⟩
    simp only [u8_mod]
    apply Keep.eq1
    simp [numI, u8s, len4, pw]
  · refine enterK (tb := tb) Try.func74 rfl Try.ntmps74 rfl ?_
    repeat' (first | (apply R.is1; first | (apply R.make1 (n := 4); (iterate 9 exact rfl); omega; intro bt) | (apply R.isBin; first | (apply R.pure; exact rfl; first | (apply Ok1.shr; exact rfl; exact rfl; omega; exact Nat.le_of_ble_eq_true rfl; exact rfl) | (apply Ok1.add64; exact rfl; exact rfl; omega; omega) | (apply Ok1.sub64; exact rfl; exact rfl; omega; omega) | (apply Ok1.lss_t; exact rfl; exact rfl; omega) | (apply Ok1.lss_f; exact rfl; exact rfl; omega) | (apply Ok1.mul64; exact rfl; exact rfl; omega; omega) | (apply Ok1.shr; exact rfl; exact rfl; omega; exact Nat.le_of_ble_eq_true rfl; (first | exact pwE1 | exact pwE2 | exact pwE3 | exact pwE4 | exact pwE5 | exact pwE6 | exact pwE7 | exact pwE8 | exact pwE16 | exact pwE24 | exact pwE32 | exact rfl))) | (apply R.lss rfl rfl rfl <;> intro)) | (apply R.isCall; first | apply R.callP rfl rfl rfl (width_ok 2 4 (by decide) (by decide) (by decide)) | (apply R.pure; exact rfl; first | (apply Ok1.lenS; (iterate 3 exact rfl)) | (apply Ok1.lenStr; (iterate 3 exact rfl)) | (apply Ok1.lenMm; (iterate 3 exact rfl); (focus ((repeat' (first | exact At.head | apply At.tail | apply At.right)); done))) | (apply Ok1.lenM_nil; (iterate 3 exact rfl)))) | (apply R.pure; exact rfl; first | (apply Ok1.move; exact rfl) | (apply Ok1.assign; exact rfl) | (apply Ok1.indexAddr; (iterate 5 exact rfl); omega; omega) | (apply Ok1.indexAddrA; (iterate 5 exact rfl); omega; omega) | (apply Ok1.convI64; (iterate 5 exact rfl); omega; omega) | (apply Ok1.convU64; (iterate 5 exact rfl); omega; omega) | (apply Ok1.convU32; (iterate 5 exact rfl); omega; omega) | (apply Ok1.convU8; (iterate 5 exact rfl); omega; omega) | (apply Ok1.conv; (iterate 5 exact rfl)))) | (apply R.is0; first | (apply R.store; (iterate 6 exact rfl); (focus ((repeat' (first | exact Upd.head | apply Upd.tail | apply Upd.right)); done)); exact rfl) | fail) | (apply R.isG; first | (apply R.guard_run; exact rfl; exact rfl) | (apply R.guard_not; (iterate 3 exact rfl)) | (apply R.guard_not0; exact rfl; exact rfl) | (apply R.guard_un; (iterate 3 exact rfl)) | (apply R.guard_un0; exact rfl; exact rfl) | (apply R.guard rfl rfl ?_ (fun h => ⟨rfl, ?_⟩) <;> try intro)) | apply R.nil | (apply T.is; first | apply T.rounds 5 | apply T.seq | apply T.region | apply T.block | apply T.scope | apply T.label | apply T.skip | apply T.exit | apply T.ret | (apply T.cond_t; exact rfl) | (apply T.cond_f; exact rfl) | (apply T.cond_h; exact rfl; assumption) | (apply T.cond_n; exact rfl; assumption) | (apply T.cond rfl <;> intro)) | apply Rnd.step)
    (apply RetOk.t; exact rfl)
    refine ⟨_, ?_, bt, rfl, rfl⟩
    simp only [u8_mod]
    apply Keep.eq1
    simp [numI, u8s, len4, pw]
end Go.Proofs.Ytligngjcnlbgmaa
set_option linter.unusedSimpArgs false
set_option linter.unusedVariables false
namespace Go.Proofs.Ytligngjcnlbgmaa
open Go.RowKit Go.Shelf
set_option maxRecDepth 100000
/-- A number that fits its size. -/
def Fits (s : Nat) (n : Int) : Prop := 0 ≤ n ∧ (s = 0 ∧ n ≤ 255 ∨ s = 1 ∧ n ≤ 65535 ∨ s = 2 ∧ n ≤ 4294967295)
def fldV (s : Nat) (n : Int) : List Value := [.int .i64 s, .int .i64 n, .slice none 0 0]
theorem wcheck_ok (s : Nat) (n : Int) (h : Fits s n) : CallP Try.prog 63 [.agg ⟨fldV s n⟩] (.int .i64 0) := by
  obtain ⟨h0, h⟩ := h
  unfold fldV
  rcases h with ⟨rfl, h1⟩ | ⟨rfl, h1⟩ | ⟨rfl, h1⟩
  · refine enterP (tb := tb) Try.func63 rfl Try.ntmps63 rfl fun w => ?_
    repeat' (first | (apply R.is1; first | (apply R.isBin; first | (apply R.pure; exact rfl; first | (apply Ok1.shr (m := 256); exact rfl; exact rfl; omega; exact Nat.le_of_ble_eq_true rfl; exact rfl) | (apply Ok1.lss_t; exact rfl; exact rfl; omega) | (apply Ok1.lss_f; exact rfl; exact rfl; omega) | (apply Ok1.gtr_t; exact rfl; exact rfl; omega) | (apply Ok1.gtr_f; exact rfl; exact rfl; omega) | (apply Ok1.eql_t; exact rfl; exact rfl; omega) | (apply Ok1.eql_f; exact rfl; exact rfl; omega) | (apply Ok1.neq_t; exact rfl; exact rfl; omega) | (apply Ok1.neq_f; exact rfl; exact rfl; omega) | (apply Ok1.mul64; exact rfl; exact rfl; omega; omega) | (apply Ok1.shr; exact rfl; exact rfl; omega; exact Nat.le_of_ble_eq_true rfl; (first | exact pwE1 | exact pwE2 | exact pwE3 | exact pwE4 | exact pwE5 | exact pwE6 | exact pwE7 | exact pwE8 | exact pwE16 | exact pwE24 | exact pwE32 | exact rfl)) | (apply Ok1.eqlP; (iterate 5 exact rfl)) | (apply Ok1.neqP; (iterate 5 exact rfl)) | (apply Ok1.eqlM; (iterate 5 exact rfl)) | (apply Ok1.neqM; (iterate 5 exact rfl)) | (apply Ok1.eqlS; (iterate 5 exact rfl)) | (apply Ok1.neqS; (iterate 5 exact rfl))) | (apply R.lss rfl rfl rfl <;> intro) | (apply R.gtr rfl rfl rfl <;> intro) | (apply R.eql rfl rfl rfl <;> intro) | (apply R.neq rfl rfl rfl <;> intro) | (apply R.eqlF; (iterate 8 exact rfl); all_goals intro) | (apply R.neqF; (iterate 8 exact rfl); all_goals intro)) | (apply R.isCall; first | apply R.callP rfl rfl rfl (width_ok 0 1 (by decide) (by decide) (by decide)) | (apply R.pure; exact rfl; first | (apply Ok1.lenS; (iterate 3 exact rfl)) | (apply Ok1.lenStr; (iterate 3 exact rfl)) | (apply Ok1.lenMm; (iterate 3 exact rfl); (focus ((repeat' (first | exact At.head | apply At.tail | apply At.right)); done))) | (apply Ok1.lenM_nil; (iterate 3 exact rfl)))) | (apply R.pure; exact rfl; first | (apply Ok1.move; exact rfl) | (apply Ok1.fieldAddr; (iterate 5 exact rfl)) | (apply Ok1.load; exact rfl; first | (apply Ld.own1; exact rfl; exact rfl; (focus ((repeat' (first | exact At.head | apply At.tail | apply At.right)); done)); exact rfl) | (apply Ld.ownk; exact rfl; exact rfl; (focus ((repeat' (first | exact At.head | apply At.tail | apply At.right)); done)); exact rfl) | (apply Ld.old1; exact rfl; exact rfl; assumption; (first | exact List.not_mem_nil | assumption)) | (apply Ld.blk1; exact rfl; exact rfl; assumption; (first | exact List.not_mem_nil | assumption); exact rfl) | (apply Ld.blkk; exact rfl; exact rfl; assumption; (first | exact List.not_mem_nil | assumption); exact rfl)) | (apply Ok1.assign; exact rfl) | (apply Ok1.pick_t; exact rfl; exact rfl) | (apply Ok1.pick_f; exact rfl; exact rfl) | (apply Ok1.pick_h; exact rfl; assumption; exact rfl) | (apply Ok1.pick_n; exact rfl; assumption; exact rfl)) | (apply R.box; (iterate 3 exact rfl); intro)) | (apply R.is0; first | fail) | (apply R.isG; first | (apply R.guard_run; exact rfl; exact rfl) | (apply R.guard_not; (iterate 3 exact rfl)) | (apply R.guard_not0; exact rfl; exact rfl) | (apply R.guard_un; (iterate 3 exact rfl)) | (apply R.guard_un0; exact rfl; exact rfl) | (apply R.guard rfl rfl ?_ (fun h => ⟨rfl, ?_⟩) <;> try intro)) | apply R.nil | (apply T.is; first | (apply T.drawC (id := 5) [0] (by decide); ((apply A.take 0; exact rfl; exact rfl; kernel_rfl; kernel_rfl; kernel_rfl; first | (apply Ok1.fieldAddr; (iterate 5 exact rfl))) <;> (apply A.take 1; exact rfl; exact rfl; kernel_rfl; kernel_rfl; kernel_rfl; first | (apply Ok1.load; exact rfl; first | (apply Ld.own1; exact rfl; exact rfl; (focus ((repeat' (first | exact At.head | apply At.tail | apply At.right)); done)); exact rfl) | (apply Ld.ownk; exact rfl; exact rfl; (focus ((repeat' (first | exact At.head | apply At.tail | apply At.right)); done)); exact rfl) | (apply Ld.old1; exact rfl; exact rfl; assumption; (first | exact List.not_mem_nil | assumption)) | (apply Ld.blk1; exact rfl; exact rfl; assumption; (first | exact List.not_mem_nil | assumption); exact rfl) | (apply Ld.blkk; exact rfl; exact rfl; assumption; (first | exact List.not_mem_nil | assumption); exact rfl))) <;> (first | (apply A.take 2; exact rfl; exact rfl; kernel_rfl; kernel_rfl; kernel_rfl; first | (apply Ok1.lss_t; exact rfl; exact rfl; omega) | (apply Ok1.lss_f; exact rfl; exact rfl; omega)) | (apply A.take 2; exact rfl; exact rfl; kernel_rfl; kernel_rfl; kernel_rfl; (first | (apply Ok1.lss; exact rfl; exact rfl)); apply A.dec (t := 35); exact rfl; all_goals intro)) <;> (apply A.take 3; exact rfl; exact rfl; kernel_rfl; kernel_rfl; kernel_rfl; first | (apply Ok1.move; exact rfl)) <;> (first | (apply A.skipG 4; exact rfl; exact rfl; rotate_left 3; exact rfl; exact rfl; rotate_right 3; kernel_rfl; kernel_rfl; kernel_rfl) | (apply A.skipU 4; exact rfl; exact rfl; rotate_left 3; exact rfl; exact rfl; rotate_right 3; kernel_rfl; kernel_rfl; kernel_rfl) | (apply A.takeG 4; exact rfl; exact rfl; rotate_left 3; exact rfl; exact rfl; rotate_right 3; kernel_rfl; kernel_rfl; kernel_rfl; first | (apply Ok1.fieldAddr; (iterate 5 exact rfl)))) <;> (first | (apply A.skipG 5; exact rfl; exact rfl; rotate_left 3; exact rfl; exact rfl; rotate_right 3; kernel_rfl; kernel_rfl; kernel_rfl) | (apply A.skipU 5; exact rfl; exact rfl; rotate_left 3; exact rfl; exact rfl; rotate_right 3; kernel_rfl; kernel_rfl; kernel_rfl) | (apply A.takeG 5; exact rfl; exact rfl; rotate_left 3; exact rfl; exact rfl; rotate_right 3; kernel_rfl; kernel_rfl; kernel_rfl; first | (apply Ok1.load; exact rfl; first | (apply Ld.own1; exact rfl; exact rfl; (focus ((repeat' (first | exact At.head | apply At.tail | apply At.right)); done)); exact rfl) | (apply Ld.ownk; exact rfl; exact rfl; (focus ((repeat' (first | exact At.head | apply At.tail | apply At.right)); done)); exact rfl) | (apply Ld.old1; exact rfl; exact rfl; assumption; (first | exact List.not_mem_nil | assumption)) | (apply Ld.blk1; exact rfl; exact rfl; assumption; (first | exact List.not_mem_nil | assumption); exact rfl) | (apply Ld.blkk; exact rfl; exact rfl; assumption; (first | exact List.not_mem_nil | assumption); exact rfl)))) <;> (first | (apply A.skipG 6; exact rfl; exact rfl; rotate_left 3; exact rfl; exact rfl; rotate_right 3; kernel_rfl; kernel_rfl; kernel_rfl) | (apply A.skipU 6; exact rfl; exact rfl; rotate_left 3; exact rfl; exact rfl; rotate_right 3; kernel_rfl; kernel_rfl; kernel_rfl) | (apply A.takeG 6; exact rfl; exact rfl; rotate_left 3; exact rfl; exact rfl; rotate_right 3; kernel_rfl; kernel_rfl; kernel_rfl; first | (apply Ok1.lss_t; exact rfl; exact rfl; omega) | (apply Ok1.lss_f; exact rfl; exact rfl; omega)) | (apply A.takeG 6; exact rfl; exact rfl; rotate_left 3; exact rfl; exact rfl; rotate_right 3; kernel_rfl; kernel_rfl; kernel_rfl; (first | (apply Ok1.lss; exact rfl; exact rfl)); apply A.dec (t := 39); exact rfl; all_goals intro)) <;> (first | (apply A.skipG 7; exact rfl; exact rfl; rotate_left 3; exact rfl; exact rfl; rotate_right 3; kernel_rfl; kernel_rfl; kernel_rfl) | (apply A.skipU 7; exact rfl; exact rfl; rotate_left 3; exact rfl; exact rfl; rotate_right 3; kernel_rfl; kernel_rfl; kernel_rfl) | (apply A.takeG 7; exact rfl; exact rfl; rotate_left 3; exact rfl; exact rfl; rotate_right 3; kernel_rfl; kernel_rfl; kernel_rfl; first | (apply Ok1.move; exact rfl))) <;> (first | (apply A.skipG 8; exact rfl; exact rfl; rotate_left 3; exact rfl; exact rfl; rotate_right 3; kernel_rfl; kernel_rfl; kernel_rfl) | (apply A.skipU 8; exact rfl; exact rfl; rotate_left 3; exact rfl; exact rfl; rotate_right 3; kernel_rfl; kernel_rfl; kernel_rfl) | (apply A.takeG 8; exact rfl; exact rfl; rotate_left 3; exact rfl; exact rfl; rotate_right 3; kernel_rfl; kernel_rfl; kernel_rfl; first | (apply Ok1.fieldAddr; (iterate 5 exact rfl)))) <;> (first | (apply A.skipG 9; exact rfl; exact rfl; rotate_left 3; exact rfl; exact rfl; rotate_right 3; kernel_rfl; kernel_rfl; kernel_rfl) | (apply A.skipU 9; exact rfl; exact rfl; rotate_left 3; exact rfl; exact rfl; rotate_right 3; kernel_rfl; kernel_rfl; kernel_rfl) | (apply A.takeG 9; exact rfl; exact rfl; rotate_left 3; exact rfl; exact rfl; rotate_right 3; kernel_rfl; kernel_rfl; kernel_rfl; first | (apply Ok1.load; exact rfl; first | (apply Ld.own1; exact rfl; exact rfl; (focus ((repeat' (first | exact At.head | apply At.tail | apply At.right)); done)); exact rfl) | (apply Ld.ownk; exact rfl; exact rfl; (focus ((repeat' (first | exact At.head | apply At.tail | apply At.right)); done)); exact rfl) | (apply Ld.old1; exact rfl; exact rfl; assumption; (first | exact List.not_mem_nil | assumption)) | (apply Ld.blk1; exact rfl; exact rfl; assumption; (first | exact List.not_mem_nil | assumption); exact rfl) | (apply Ld.blkk; exact rfl; exact rfl; assumption; (first | exact List.not_mem_nil | assumption); exact rfl)))) <;> (first | (apply A.skipG 10; exact rfl; exact rfl; rotate_left 3; exact rfl; exact rfl; rotate_right 3; kernel_rfl; kernel_rfl; kernel_rfl) | (apply A.skipU 10; exact rfl; exact rfl; rotate_left 3; exact rfl; exact rfl; rotate_right 3; kernel_rfl; kernel_rfl; kernel_rfl) | (apply A.takeG 10; exact rfl; exact rfl; rotate_left 3; exact rfl; exact rfl; rotate_right 3; kernel_rfl; kernel_rfl; kernel_rfl; first | (apply Ok1.fieldAddr; (iterate 5 exact rfl)))) <;> (first | (apply A.skipG 11; exact rfl; exact rfl; rotate_left 3; exact rfl; exact rfl; rotate_right 3; kernel_rfl; kernel_rfl; kernel_rfl) | (apply A.skipU 11; exact rfl; exact rfl; rotate_left 3; exact rfl; exact rfl; rotate_right 3; kernel_rfl; kernel_rfl; kernel_rfl) | (apply A.takeG 11; exact rfl; exact rfl; rotate_left 3; exact rfl; exact rfl; rotate_right 3; kernel_rfl; kernel_rfl; kernel_rfl; first | (apply Ok1.load; exact rfl; first | (apply Ld.own1; exact rfl; exact rfl; (focus ((repeat' (first | exact At.head | apply At.tail | apply At.right)); done)); exact rfl) | (apply Ld.ownk; exact rfl; exact rfl; (focus ((repeat' (first | exact At.head | apply At.tail | apply At.right)); done)); exact rfl) | (apply Ld.old1; exact rfl; exact rfl; assumption; (first | exact List.not_mem_nil | assumption)) | (apply Ld.blk1; exact rfl; exact rfl; assumption; (first | exact List.not_mem_nil | assumption); exact rfl) | (apply Ld.blkk; exact rfl; exact rfl; assumption; (first | exact List.not_mem_nil | assumption); exact rfl)))) <;> (apply A.one 12; kernel_rfl; exact rfl; ((first | (apply R.isG; apply R.guard_run; exact rfl; exact rfl; (first | apply R.callP rfl rfl rfl (width_ok 0 1 (by decide) (by decide) (by decide)) | (apply R.pure; exact rfl; first | (apply Ok1.lenS; (iterate 3 exact rfl)) | (apply Ok1.lenStr; (iterate 3 exact rfl)) | (apply Ok1.lenMm; (iterate 3 exact rfl); (focus ((repeat' (first | exact At.head | apply At.tail | apply At.right)); done))) | (apply Ok1.lenM_nil; (iterate 3 exact rfl)) | (apply Ok1.max2; exact rfl; exact rfl) | (apply Ok1.min2; exact rfl; exact rfl)))) | (apply R.isG; first | (apply R.guard_not; (iterate 3 exact rfl)) | (apply R.guard_not0; exact rfl; exact rfl) | (apply R.guard_un; (iterate 3 exact rfl)) | (apply R.guard_un0; exact rfl; exact rfl)))); apply R.nil; refine ⟨?_, ?_⟩; (focus ((repeat' (first | exact trivial | (refine ⟨?_, ?_⟩; (focus ((repeat' (first | exact At.head | apply At.tail | apply At.right)); done)))))))) <;> (first | (apply A.skipG 13; exact rfl; exact rfl; rotate_left 3; exact rfl; exact rfl; rotate_right 3; kernel_rfl; kernel_rfl; kernel_rfl) | (apply A.skipU 13; exact rfl; exact rfl; rotate_left 3; exact rfl; exact rfl; rotate_right 3; kernel_rfl; kernel_rfl; kernel_rfl) | (apply A.takeG 13; exact rfl; exact rfl; rotate_left 3; exact rfl; exact rfl; rotate_right 3; kernel_rfl; kernel_rfl; kernel_rfl; first | (apply Ok1.mul64; exact rfl; exact rfl; omega; omega))) <;> (first | (apply A.skipG 14; exact rfl; exact rfl; rotate_left 3; exact rfl; exact rfl; rotate_right 3; kernel_rfl; kernel_rfl; kernel_rfl) | (apply A.skipU 14; exact rfl; exact rfl; rotate_left 3; exact rfl; exact rfl; rotate_right 3; kernel_rfl; kernel_rfl; kernel_rfl) | (apply A.takeG 14; exact rfl; exact rfl; rotate_left 3; exact rfl; exact rfl; rotate_right 3; kernel_rfl; kernel_rfl; kernel_rfl; first | (apply Ok1.shr (m := 256); exact rfl; exact rfl; omega; exact Nat.le_of_ble_eq_true rfl; exact rfl) | (apply Ok1.shr; exact rfl; exact rfl; omega; exact Nat.le_of_ble_eq_true rfl; (first | exact pwE1 | exact pwE2 | exact pwE3 | exact pwE4 | exact pwE5 | exact pwE6 | exact pwE7 | exact pwE8 | exact pwE16 | exact pwE24 | exact pwE32 | exact rfl)))) <;> (first | (apply A.skipG 15; exact rfl; exact rfl; rotate_left 3; exact rfl; exact rfl; rotate_right 3; kernel_rfl; kernel_rfl; kernel_rfl) | (apply A.skipU 15; exact rfl; exact rfl; rotate_left 3; exact rfl; exact rfl; rotate_right 3; kernel_rfl; kernel_rfl; kernel_rfl) | (apply A.takeG 15; exact rfl; exact rfl; rotate_left 3; exact rfl; exact rfl; rotate_right 3; kernel_rfl; kernel_rfl; kernel_rfl; first | (apply Ok1.neq_t; exact rfl; exact rfl; omega) | (apply Ok1.neq_f; exact rfl; exact rfl; omega) | (apply Ok1.neqP; (iterate 5 exact rfl)) | (apply Ok1.neqM; (iterate 5 exact rfl)) | (apply Ok1.neqS; (iterate 5 exact rfl))) | (apply A.takeG 15; exact rfl; exact rfl; rotate_left 3; exact rfl; exact rfl; rotate_right 3; kernel_rfl; kernel_rfl; kernel_rfl; (first | (apply Ok1.neq; exact rfl; exact rfl) | (apply Ok1.neqF; (iterate 7 exact rfl))); apply A.dec (t := 48); exact rfl; all_goals intro)) <;> (first | (apply A.skipG 16; exact rfl; exact rfl; rotate_left 3; exact rfl; exact rfl; rotate_right 3; kernel_rfl; kernel_rfl; kernel_rfl) | (apply A.skipU 16; exact rfl; exact rfl; rotate_left 3; exact rfl; exact rfl; rotate_right 3; kernel_rfl; kernel_rfl; kernel_rfl) | (apply A.takeG 16; exact rfl; exact rfl; rotate_left 3; exact rfl; exact rfl; rotate_right 3; kernel_rfl; kernel_rfl; kernel_rfl; first | (apply Ok1.pick_t; exact rfl; exact rfl) | (apply Ok1.pick_f; exact rfl; exact rfl) | (apply Ok1.pick_h; exact rfl; assumption; exact rfl) | (apply Ok1.pick_n; exact rfl; assumption; exact rfl))) <;> (apply A.take 17; exact rfl; exact rfl; kernel_rfl; kernel_rfl; kernel_rfl; first | (apply Ok1.pick_t; exact rfl; exact rfl) | (apply Ok1.pick_f; exact rfl; exact rfl) | (apply Ok1.pick_h; exact rfl; assumption; exact rfl) | (apply Ok1.pick_n; exact rfl; assumption; exact rfl)) <;> (apply A.take 18; exact rfl; exact rfl; kernel_rfl; kernel_rfl; kernel_rfl; first | (apply Ok1.assign; exact rfl)) <;> (apply A.done; kernel_rfl))) | apply T.seq | apply T.region | apply T.block | apply T.scope | apply T.label | apply T.skip | apply T.exit | apply T.ret | (apply T.cond_t; exact rfl) | (apply T.cond_f; exact rfl) | (apply T.cond_h; exact rfl; assumption) | (apply T.cond_n; exact rfl; assumption) | (apply T.cond rfl <;> intro)) | apply Rnd.step)
    (apply RetOk.t; exact rfl)
    rfl
  · refine enterP (tb := tb) Try.func63 rfl Try.ntmps63 rfl fun w => ?_
    repeat' (first | (apply R.is1; first | (apply R.isBin; first | (apply R.pure; exact rfl; first | (apply Ok1.shr (m := 65536); exact rfl; exact rfl; omega; exact Nat.le_of_ble_eq_true rfl; exact rfl) | (apply Ok1.lss_t; exact rfl; exact rfl; omega) | (apply Ok1.lss_f; exact rfl; exact rfl; omega) | (apply Ok1.gtr_t; exact rfl; exact rfl; omega) | (apply Ok1.gtr_f; exact rfl; exact rfl; omega) | (apply Ok1.eql_t; exact rfl; exact rfl; omega) | (apply Ok1.eql_f; exact rfl; exact rfl; omega) | (apply Ok1.neq_t; exact rfl; exact rfl; omega) | (apply Ok1.neq_f; exact rfl; exact rfl; omega) | (apply Ok1.mul64; exact rfl; exact rfl; omega; omega) | (apply Ok1.shr; exact rfl; exact rfl; omega; exact Nat.le_of_ble_eq_true rfl; (first | exact pwE1 | exact pwE2 | exact pwE3 | exact pwE4 | exact pwE5 | exact pwE6 | exact pwE7 | exact pwE8 | exact pwE16 | exact pwE24 | exact pwE32 | exact rfl)) | (apply Ok1.eqlP; (iterate 5 exact rfl)) | (apply Ok1.neqP; (iterate 5 exact rfl)) | (apply Ok1.eqlM; (iterate 5 exact rfl)) | (apply Ok1.neqM; (iterate 5 exact rfl)) | (apply Ok1.eqlS; (iterate 5 exact rfl)) | (apply Ok1.neqS; (iterate 5 exact rfl))) | (apply R.lss rfl rfl rfl <;> intro) | (apply R.gtr rfl rfl rfl <;> intro) | (apply R.eql rfl rfl rfl <;> intro) | (apply R.neq rfl rfl rfl <;> intro) | (apply R.eqlF; (iterate 8 exact rfl); all_goals intro) | (apply R.neqF; (iterate 8 exact rfl); all_goals intro)) | (apply R.isCall; first | apply R.callP rfl rfl rfl (width_ok 1 2 (by decide) (by decide) (by decide)) | (apply R.pure; exact rfl; first | (apply Ok1.lenS; (iterate 3 exact rfl)) | (apply Ok1.lenStr; (iterate 3 exact rfl)) | (apply Ok1.lenMm; (iterate 3 exact rfl); (focus ((repeat' (first | exact At.head | apply At.tail | apply At.right)); done))) | (apply Ok1.lenM_nil; (iterate 3 exact rfl)))) | (apply R.pure; exact rfl; first | (apply Ok1.move; exact rfl) | (apply Ok1.fieldAddr; (iterate 5 exact rfl)) | (apply Ok1.load; exact rfl; first | (apply Ld.own1; exact rfl; exact rfl; (focus ((repeat' (first | exact At.head | apply At.tail | apply At.right)); done)); exact rfl) | (apply Ld.ownk; exact rfl; exact rfl; (focus ((repeat' (first | exact At.head | apply At.tail | apply At.right)); done)); exact rfl) | (apply Ld.old1; exact rfl; exact rfl; assumption; (first | exact List.not_mem_nil | assumption)) | (apply Ld.blk1; exact rfl; exact rfl; assumption; (first | exact List.not_mem_nil | assumption); exact rfl) | (apply Ld.blkk; exact rfl; exact rfl; assumption; (first | exact List.not_mem_nil | assumption); exact rfl)) | (apply Ok1.assign; exact rfl) | (apply Ok1.pick_t; exact rfl; exact rfl) | (apply Ok1.pick_f; exact rfl; exact rfl) | (apply Ok1.pick_h; exact rfl; assumption; exact rfl) | (apply Ok1.pick_n; exact rfl; assumption; exact rfl)) | (apply R.box; (iterate 3 exact rfl); intro)) | (apply R.is0; first | fail) | (apply R.isG; first | (apply R.guard_run; exact rfl; exact rfl) | (apply R.guard_not; (iterate 3 exact rfl)) | (apply R.guard_not0; exact rfl; exact rfl) | (apply R.guard_un; (iterate 3 exact rfl)) | (apply R.guard_un0; exact rfl; exact rfl) | (apply R.guard rfl rfl ?_ (fun h => ⟨rfl, ?_⟩) <;> try intro)) | apply R.nil | (apply T.is; first | (apply T.drawC (id := 5) [0] (by decide); ((apply A.take 0; exact rfl; exact rfl; kernel_rfl; kernel_rfl; kernel_rfl; first | (apply Ok1.fieldAddr; (iterate 5 exact rfl))) <;> (apply A.take 1; exact rfl; exact rfl; kernel_rfl; kernel_rfl; kernel_rfl; first | (apply Ok1.load; exact rfl; first | (apply Ld.own1; exact rfl; exact rfl; (focus ((repeat' (first | exact At.head | apply At.tail | apply At.right)); done)); exact rfl) | (apply Ld.ownk; exact rfl; exact rfl; (focus ((repeat' (first | exact At.head | apply At.tail | apply At.right)); done)); exact rfl) | (apply Ld.old1; exact rfl; exact rfl; assumption; (first | exact List.not_mem_nil | assumption)) | (apply Ld.blk1; exact rfl; exact rfl; assumption; (first | exact List.not_mem_nil | assumption); exact rfl) | (apply Ld.blkk; exact rfl; exact rfl; assumption; (first | exact List.not_mem_nil | assumption); exact rfl))) <;> (first | (apply A.take 2; exact rfl; exact rfl; kernel_rfl; kernel_rfl; kernel_rfl; first | (apply Ok1.lss_t; exact rfl; exact rfl; omega) | (apply Ok1.lss_f; exact rfl; exact rfl; omega)) | (apply A.take 2; exact rfl; exact rfl; kernel_rfl; kernel_rfl; kernel_rfl; (first | (apply Ok1.lss; exact rfl; exact rfl)); apply A.dec (t := 35); exact rfl; all_goals intro)) <;> (apply A.take 3; exact rfl; exact rfl; kernel_rfl; kernel_rfl; kernel_rfl; first | (apply Ok1.move; exact rfl)) <;> (first | (apply A.skipG 4; exact rfl; exact rfl; rotate_left 3; exact rfl; exact rfl; rotate_right 3; kernel_rfl; kernel_rfl; kernel_rfl) | (apply A.skipU 4; exact rfl; exact rfl; rotate_left 3; exact rfl; exact rfl; rotate_right 3; kernel_rfl; kernel_rfl; kernel_rfl) | (apply A.takeG 4; exact rfl; exact rfl; rotate_left 3; exact rfl; exact rfl; rotate_right 3; kernel_rfl; kernel_rfl; kernel_rfl; first | (apply Ok1.fieldAddr; (iterate 5 exact rfl)))) <;> (first | (apply A.skipG 5; exact rfl; exact rfl; rotate_left 3; exact rfl; exact rfl; rotate_right 3; kernel_rfl; kernel_rfl; kernel_rfl) | (apply A.skipU 5; exact rfl; exact rfl; rotate_left 3; exact rfl; exact rfl; rotate_right 3; kernel_rfl; kernel_rfl; kernel_rfl) | (apply A.takeG 5; exact rfl; exact rfl; rotate_left 3; exact rfl; exact rfl; rotate_right 3; kernel_rfl; kernel_rfl; kernel_rfl; first | (apply Ok1.load; exact rfl; first | (apply Ld.own1; exact rfl; exact rfl; (focus ((repeat' (first | exact At.head | apply At.tail | apply At.right)); done)); exact rfl) | (apply Ld.ownk; exact rfl; exact rfl; (focus ((repeat' (first | exact At.head | apply At.tail | apply At.right)); done)); exact rfl) | (apply Ld.old1; exact rfl; exact rfl; assumption; (first | exact List.not_mem_nil | assumption)) | (apply Ld.blk1; exact rfl; exact rfl; assumption; (first | exact List.not_mem_nil | assumption); exact rfl) | (apply Ld.blkk; exact rfl; exact rfl; assumption; (first | exact List.not_mem_nil | assumption); exact rfl)))) <;> (first | (apply A.skipG 6; exact rfl; exact rfl; rotate_left 3; exact rfl; exact rfl; rotate_right 3; kernel_rfl; kernel_rfl; kernel_rfl) | (apply A.skipU 6; exact rfl; exact rfl; rotate_left 3; exact rfl; exact rfl; rotate_right 3; kernel_rfl; kernel_rfl; kernel_rfl) | (apply A.takeG 6; exact rfl; exact rfl; rotate_left 3; exact rfl; exact rfl; rotate_right 3; kernel_rfl; kernel_rfl; kernel_rfl; first | (apply Ok1.lss_t; exact rfl; exact rfl; omega) | (apply Ok1.lss_f; exact rfl; exact rfl; omega)) | (apply A.takeG 6; exact rfl; exact rfl; rotate_left 3; exact rfl; exact rfl; rotate_right 3; kernel_rfl; kernel_rfl; kernel_rfl; (first | (apply Ok1.lss; exact rfl; exact rfl)); apply A.dec (t := 39); exact rfl; all_goals intro)) <;> (first | (apply A.skipG 7; exact rfl; exact rfl; rotate_left 3; exact rfl; exact rfl; rotate_right 3; kernel_rfl; kernel_rfl; kernel_rfl) | (apply A.skipU 7; exact rfl; exact rfl; rotate_left 3; exact rfl; exact rfl; rotate_right 3; kernel_rfl; kernel_rfl; kernel_rfl) | (apply A.takeG 7; exact rfl; exact rfl; rotate_left 3; exact rfl; exact rfl; rotate_right 3; kernel_rfl; kernel_rfl; kernel_rfl; first | (apply Ok1.move; exact rfl))) <;> (first | (apply A.skipG 8; exact rfl; exact rfl; rotate_left 3; exact rfl; exact rfl; rotate_right 3; kernel_rfl; kernel_rfl; kernel_rfl) | (apply A.skipU 8; exact rfl; exact rfl; rotate_left 3; exact rfl; exact rfl; rotate_right 3; kernel_rfl; kernel_rfl; kernel_rfl) | (apply A.takeG 8; exact rfl; exact rfl; rotate_left 3; exact rfl; exact rfl; rotate_right 3; kernel_rfl; kernel_rfl; kernel_rfl; first | (apply Ok1.fieldAddr; (iterate 5 exact rfl)))) <;> (first | (apply A.skipG 9; exact rfl; exact rfl; rotate_left 3; exact rfl; exact rfl; rotate_right 3; kernel_rfl; kernel_rfl; kernel_rfl) | (apply A.skipU 9; exact rfl; exact rfl; rotate_left 3; exact rfl; exact rfl; rotate_right 3; kernel_rfl; kernel_rfl; kernel_rfl) | (apply A.takeG 9; exact rfl; exact rfl; rotate_left 3; exact rfl; exact rfl; rotate_right 3; kernel_rfl; kernel_rfl; kernel_rfl; first | (apply Ok1.load; exact rfl; first | (apply Ld.own1; exact rfl; exact rfl; (focus ((repeat' (first | exact At.head | apply At.tail | apply At.right)); done)); exact rfl) | (apply Ld.ownk; exact rfl; exact rfl; (focus ((repeat' (first | exact At.head | apply At.tail | apply At.right)); done)); exact rfl) | (apply Ld.old1; exact rfl; exact rfl; assumption; (first | exact List.not_mem_nil | assumption)) | (apply Ld.blk1; exact rfl; exact rfl; assumption; (first | exact List.not_mem_nil | assumption); exact rfl) | (apply Ld.blkk; exact rfl; exact rfl; assumption; (first | exact List.not_mem_nil | assumption); exact rfl)))) <;> (first | (apply A.skipG 10; exact rfl; exact rfl; rotate_left 3; exact rfl; exact rfl; rotate_right 3; kernel_rfl; kernel_rfl; kernel_rfl) | (apply A.skipU 10; exact rfl; exact rfl; rotate_left 3; exact rfl; exact rfl; rotate_right 3; kernel_rfl; kernel_rfl; kernel_rfl) | (apply A.takeG 10; exact rfl; exact rfl; rotate_left 3; exact rfl; exact rfl; rotate_right 3; kernel_rfl; kernel_rfl; kernel_rfl; first | (apply Ok1.fieldAddr; (iterate 5 exact rfl)))) <;> (first | (apply A.skipG 11; exact rfl; exact rfl; rotate_left 3; exact rfl; exact rfl; rotate_right 3; kernel_rfl; kernel_rfl; kernel_rfl) | (apply A.skipU 11; exact rfl; exact rfl; rotate_left 3; exact rfl; exact rfl; rotate_right 3; kernel_rfl; kernel_rfl; kernel_rfl) | (apply A.takeG 11; exact rfl; exact rfl; rotate_left 3; exact rfl; exact rfl; rotate_right 3; kernel_rfl; kernel_rfl; kernel_rfl; first | (apply Ok1.load; exact rfl; first | (apply Ld.own1; exact rfl; exact rfl; (focus ((repeat' (first | exact At.head | apply At.tail | apply At.right)); done)); exact rfl) | (apply Ld.ownk; exact rfl; exact rfl; (focus ((repeat' (first | exact At.head | apply At.tail | apply At.right)); done)); exact rfl) | (apply Ld.old1; exact rfl; exact rfl; assumption; (first | exact List.not_mem_nil | assumption)) | (apply Ld.blk1; exact rfl; exact rfl; assumption; (first | exact List.not_mem_nil | assumption); exact rfl) | (apply Ld.blkk; exact rfl; exact rfl; assumption; (first | exact List.not_mem_nil | assumption); exact rfl)))) <;> (apply A.one 12; kernel_rfl; exact rfl; ((first | (apply R.isG; apply R.guard_run; exact rfl; exact rfl; (first | apply R.callP rfl rfl rfl (width_ok 1 2 (by decide) (by decide) (by decide)) | (apply R.pure; exact rfl; first | (apply Ok1.lenS; (iterate 3 exact rfl)) | (apply Ok1.lenStr; (iterate 3 exact rfl)) | (apply Ok1.lenMm; (iterate 3 exact rfl); (focus ((repeat' (first | exact At.head | apply At.tail | apply At.right)); done))) | (apply Ok1.lenM_nil; (iterate 3 exact rfl)) | (apply Ok1.max2; exact rfl; exact rfl) | (apply Ok1.min2; exact rfl; exact rfl)))) | (apply R.isG; first | (apply R.guard_not; (iterate 3 exact rfl)) | (apply R.guard_not0; exact rfl; exact rfl) | (apply R.guard_un; (iterate 3 exact rfl)) | (apply R.guard_un0; exact rfl; exact rfl)))); apply R.nil; refine ⟨?_, ?_⟩; (focus ((repeat' (first | exact trivial | (refine ⟨?_, ?_⟩; (focus ((repeat' (first | exact At.head | apply At.tail | apply At.right)); done)))))))) <;> (first | (apply A.skipG 13; exact rfl; exact rfl; rotate_left 3; exact rfl; exact rfl; rotate_right 3; kernel_rfl; kernel_rfl; kernel_rfl) | (apply A.skipU 13; exact rfl; exact rfl; rotate_left 3; exact rfl; exact rfl; rotate_right 3; kernel_rfl; kernel_rfl; kernel_rfl) | (apply A.takeG 13; exact rfl; exact rfl; rotate_left 3; exact rfl; exact rfl; rotate_right 3; kernel_rfl; kernel_rfl; kernel_rfl; first | (apply Ok1.mul64; exact rfl; exact rfl; omega; omega))) <;> (first | (apply A.skipG 14; exact rfl; exact rfl; rotate_left 3; exact rfl; exact rfl; rotate_right 3; kernel_rfl; kernel_rfl; kernel_rfl) | (apply A.skipU 14; exact rfl; exact rfl; rotate_left 3; exact rfl; exact rfl; rotate_right 3; kernel_rfl; kernel_rfl; kernel_rfl) | (apply A.takeG 14; exact rfl; exact rfl; rotate_left 3; exact rfl; exact rfl; rotate_right 3; kernel_rfl; kernel_rfl; kernel_rfl; first | (apply Ok1.shr (m := 65536); exact rfl; exact rfl; omega; exact Nat.le_of_ble_eq_true rfl; exact rfl) | (apply Ok1.shr; exact rfl; exact rfl; omega; exact Nat.le_of_ble_eq_true rfl; (first | exact pwE1 | exact pwE2 | exact pwE3 | exact pwE4 | exact pwE5 | exact pwE6 | exact pwE7 | exact pwE8 | exact pwE16 | exact pwE24 | exact pwE32 | exact rfl)))) <;> (first | (apply A.skipG 15; exact rfl; exact rfl; rotate_left 3; exact rfl; exact rfl; rotate_right 3; kernel_rfl; kernel_rfl; kernel_rfl) | (apply A.skipU 15; exact rfl; exact rfl; rotate_left 3; exact rfl; exact rfl; rotate_right 3; kernel_rfl; kernel_rfl; kernel_rfl) | (apply A.takeG 15; exact rfl; exact rfl; rotate_left 3; exact rfl; exact rfl; rotate_right 3; kernel_rfl; kernel_rfl; kernel_rfl; first | (apply Ok1.neq_t; exact rfl; exact rfl; omega) | (apply Ok1.neq_f; exact rfl; exact rfl; omega) | (apply Ok1.neqP; (iterate 5 exact rfl)) | (apply Ok1.neqM; (iterate 5 exact rfl)) | (apply Ok1.neqS; (iterate 5 exact rfl))) | (apply A.takeG 15; exact rfl; exact rfl; rotate_left 3; exact rfl; exact rfl; rotate_right 3; kernel_rfl; kernel_rfl; kernel_rfl; (first | (apply Ok1.neq; exact rfl; exact rfl) | (apply Ok1.neqF; (iterate 7 exact rfl))); apply A.dec (t := 48); exact rfl; all_goals intro)) <;> (first | (apply A.skipG 16; exact rfl; exact rfl; rotate_left 3; exact rfl; exact rfl; rotate_right 3; kernel_rfl; kernel_rfl; kernel_rfl) | (apply A.skipU 16; exact rfl; exact rfl; rotate_left 3; exact rfl; exact rfl; rotate_right 3; kernel_rfl; kernel_rfl; kernel_rfl) | (apply A.takeG 16; exact rfl; exact rfl; rotate_left 3; exact rfl; exact rfl; rotate_right 3; kernel_rfl; kernel_rfl; kernel_rfl; first | (apply Ok1.pick_t; exact rfl; exact rfl) | (apply Ok1.pick_f; exact rfl; exact rfl) | (apply Ok1.pick_h; exact rfl; assumption; exact rfl) | (apply Ok1.pick_n; exact rfl; assumption; exact rfl))) <;> (apply A.take 17; exact rfl; exact rfl; kernel_rfl; kernel_rfl; kernel_rfl; first | (apply Ok1.pick_t; exact rfl; exact rfl) | (apply Ok1.pick_f; exact rfl; exact rfl) | (apply Ok1.pick_h; exact rfl; assumption; exact rfl) | (apply Ok1.pick_n; exact rfl; assumption; exact rfl)) <;> (apply A.take 18; exact rfl; exact rfl; kernel_rfl; kernel_rfl; kernel_rfl; first | (apply Ok1.assign; exact rfl)) <;> (apply A.done; kernel_rfl))) | apply T.seq | apply T.region | apply T.block | apply T.scope | apply T.label | apply T.skip | apply T.exit | apply T.ret | (apply T.cond_t; exact rfl) | (apply T.cond_f; exact rfl) | (apply T.cond_h; exact rfl; assumption) | (apply T.cond_n; exact rfl; assumption) | (apply T.cond rfl <;> intro)) | apply Rnd.step)
    (apply RetOk.t; exact rfl)
    rfl
  · refine enterP (tb := tb) Try.func63 rfl Try.ntmps63 rfl fun w => ?_
    repeat' (first | (apply R.is1; first | (apply R.isBin; first | (apply R.pure; exact rfl; first | (apply Ok1.shr (m := 4294967296); exact rfl; exact rfl; omega; exact Nat.le_of_ble_eq_true rfl; exact rfl) | (apply Ok1.lss_t; exact rfl; exact rfl; omega) | (apply Ok1.lss_f; exact rfl; exact rfl; omega) | (apply Ok1.gtr_t; exact rfl; exact rfl; omega) | (apply Ok1.gtr_f; exact rfl; exact rfl; omega) | (apply Ok1.eql_t; exact rfl; exact rfl; omega) | (apply Ok1.eql_f; exact rfl; exact rfl; omega) | (apply Ok1.neq_t; exact rfl; exact rfl; omega) | (apply Ok1.neq_f; exact rfl; exact rfl; omega) | (apply Ok1.mul64; exact rfl; exact rfl; omega; omega) | (apply Ok1.shr; exact rfl; exact rfl; omega; exact Nat.le_of_ble_eq_true rfl; (first | exact pwE1 | exact pwE2 | exact pwE3 | exact pwE4 | exact pwE5 | exact pwE6 | exact pwE7 | exact pwE8 | exact pwE16 | exact pwE24 | exact pwE32 | exact rfl)) | (apply Ok1.eqlP; (iterate 5 exact rfl)) | (apply Ok1.neqP; (iterate 5 exact rfl)) | (apply Ok1.eqlM; (iterate 5 exact rfl)) | (apply Ok1.neqM; (iterate 5 exact rfl)) | (apply Ok1.eqlS; (iterate 5 exact rfl)) | (apply Ok1.neqS; (iterate 5 exact rfl))) | (apply R.lss rfl rfl rfl <;> intro) | (apply R.gtr rfl rfl rfl <;> intro) | (apply R.eql rfl rfl rfl <;> intro) | (apply R.neq rfl rfl rfl <;> intro) | (apply R.eqlF; (iterate 8 exact rfl); all_goals intro) | (apply R.neqF; (iterate 8 exact rfl); all_goals intro)) | (apply R.isCall; first | apply R.callP rfl rfl rfl (width_ok 2 4 (by decide) (by decide) (by decide)) | (apply R.pure; exact rfl; first | (apply Ok1.lenS; (iterate 3 exact rfl)) | (apply Ok1.lenStr; (iterate 3 exact rfl)) | (apply Ok1.lenMm; (iterate 3 exact rfl); (focus ((repeat' (first | exact At.head | apply At.tail | apply At.right)); done))) | (apply Ok1.lenM_nil; (iterate 3 exact rfl)))) | (apply R.pure; exact rfl; first | (apply Ok1.move; exact rfl) | (apply Ok1.fieldAddr; (iterate 5 exact rfl)) | (apply Ok1.load; exact rfl; first | (apply Ld.own1; exact rfl; exact rfl; (focus ((repeat' (first | exact At.head | apply At.tail | apply At.right)); done)); exact rfl) | (apply Ld.ownk; exact rfl; exact rfl; (focus ((repeat' (first | exact At.head | apply At.tail | apply At.right)); done)); exact rfl) | (apply Ld.old1; exact rfl; exact rfl; assumption; (first | exact List.not_mem_nil | assumption)) | (apply Ld.blk1; exact rfl; exact rfl; assumption; (first | exact List.not_mem_nil | assumption); exact rfl) | (apply Ld.blkk; exact rfl; exact rfl; assumption; (first | exact List.not_mem_nil | assumption); exact rfl)) | (apply Ok1.assign; exact rfl) | (apply Ok1.pick_t; exact rfl; exact rfl) | (apply Ok1.pick_f; exact rfl; exact rfl) | (apply Ok1.pick_h; exact rfl; assumption; exact rfl) | (apply Ok1.pick_n; exact rfl; assumption; exact rfl)) | (apply R.box; (iterate 3 exact rfl); intro)) | (apply R.is0; first | fail) | (apply R.isG; first | (apply R.guard_run; exact rfl; exact rfl) | (apply R.guard_not; (iterate 3 exact rfl)) | (apply R.guard_not0; exact rfl; exact rfl) | (apply R.guard_un; (iterate 3 exact rfl)) | (apply R.guard_un0; exact rfl; exact rfl) | (apply R.guard rfl rfl ?_ (fun h => ⟨rfl, ?_⟩) <;> try intro)) | apply R.nil | (apply T.is; first | (apply T.drawC (id := 5) [0] (by decide); ((apply A.take 0; exact rfl; exact rfl; kernel_rfl; kernel_rfl; kernel_rfl; first | (apply Ok1.fieldAddr; (iterate 5 exact rfl))) <;> (apply A.take 1; exact rfl; exact rfl; kernel_rfl; kernel_rfl; kernel_rfl; first | (apply Ok1.load; exact rfl; first | (apply Ld.own1; exact rfl; exact rfl; (focus ((repeat' (first | exact At.head | apply At.tail | apply At.right)); done)); exact rfl) | (apply Ld.ownk; exact rfl; exact rfl; (focus ((repeat' (first | exact At.head | apply At.tail | apply At.right)); done)); exact rfl) | (apply Ld.old1; exact rfl; exact rfl; assumption; (first | exact List.not_mem_nil | assumption)) | (apply Ld.blk1; exact rfl; exact rfl; assumption; (first | exact List.not_mem_nil | assumption); exact rfl) | (apply Ld.blkk; exact rfl; exact rfl; assumption; (first | exact List.not_mem_nil | assumption); exact rfl))) <;> (first | (apply A.take 2; exact rfl; exact rfl; kernel_rfl; kernel_rfl; kernel_rfl; first | (apply Ok1.lss_t; exact rfl; exact rfl; omega) | (apply Ok1.lss_f; exact rfl; exact rfl; omega)) | (apply A.take 2; exact rfl; exact rfl; kernel_rfl; kernel_rfl; kernel_rfl; (first | (apply Ok1.lss; exact rfl; exact rfl)); apply A.dec (t := 35); exact rfl; all_goals intro)) <;> (apply A.take 3; exact rfl; exact rfl; kernel_rfl; kernel_rfl; kernel_rfl; first | (apply Ok1.move; exact rfl)) <;> (first | (apply A.skipG 4; exact rfl; exact rfl; rotate_left 3; exact rfl; exact rfl; rotate_right 3; kernel_rfl; kernel_rfl; kernel_rfl) | (apply A.skipU 4; exact rfl; exact rfl; rotate_left 3; exact rfl; exact rfl; rotate_right 3; kernel_rfl; kernel_rfl; kernel_rfl) | (apply A.takeG 4; exact rfl; exact rfl; rotate_left 3; exact rfl; exact rfl; rotate_right 3; kernel_rfl; kernel_rfl; kernel_rfl; first | (apply Ok1.fieldAddr; (iterate 5 exact rfl)))) <;> (first | (apply A.skipG 5; exact rfl; exact rfl; rotate_left 3; exact rfl; exact rfl; rotate_right 3; kernel_rfl; kernel_rfl; kernel_rfl) | (apply A.skipU 5; exact rfl; exact rfl; rotate_left 3; exact rfl; exact rfl; rotate_right 3; kernel_rfl; kernel_rfl; kernel_rfl) | (apply A.takeG 5; exact rfl; exact rfl; rotate_left 3; exact rfl; exact rfl; rotate_right 3; kernel_rfl; kernel_rfl; kernel_rfl; first | (apply Ok1.load; exact rfl; first | (apply Ld.own1; exact rfl; exact rfl; (focus ((repeat' (first | exact At.head | apply At.tail | apply At.right)); done)); exact rfl) | (apply Ld.ownk; exact rfl; exact rfl; (focus ((repeat' (first | exact At.head | apply At.tail | apply At.right)); done)); exact rfl) | (apply Ld.old1; exact rfl; exact rfl; assumption; (first | exact List.not_mem_nil | assumption)) | (apply Ld.blk1; exact rfl; exact rfl; assumption; (first | exact List.not_mem_nil | assumption); exact rfl) | (apply Ld.blkk; exact rfl; exact rfl; assumption; (first | exact List.not_mem_nil | assumption); exact rfl)))) <;> (first | (apply A.skipG 6; exact rfl; exact rfl; rotate_left 3; exact rfl; exact rfl; rotate_right 3; kernel_rfl; kernel_rfl; kernel_rfl) | (apply A.skipU 6; exact rfl; exact rfl; rotate_left 3; exact rfl; exact rfl; rotate_right 3; kernel_rfl; kernel_rfl; kernel_rfl) | (apply A.takeG 6; exact rfl; exact rfl; rotate_left 3; exact rfl; exact rfl; rotate_right 3; kernel_rfl; kernel_rfl; kernel_rfl; first | (apply Ok1.lss_t; exact rfl; exact rfl; omega) | (apply Ok1.lss_f; exact rfl; exact rfl; omega)) | (apply A.takeG 6; exact rfl; exact rfl; rotate_left 3; exact rfl; exact rfl; rotate_right 3; kernel_rfl; kernel_rfl; kernel_rfl; (first | (apply Ok1.lss; exact rfl; exact rfl)); apply A.dec (t := 39); exact rfl; all_goals intro)) <;> (first | (apply A.skipG 7; exact rfl; exact rfl; rotate_left 3; exact rfl; exact rfl; rotate_right 3; kernel_rfl; kernel_rfl; kernel_rfl) | (apply A.skipU 7; exact rfl; exact rfl; rotate_left 3; exact rfl; exact rfl; rotate_right 3; kernel_rfl; kernel_rfl; kernel_rfl) | (apply A.takeG 7; exact rfl; exact rfl; rotate_left 3; exact rfl; exact rfl; rotate_right 3; kernel_rfl; kernel_rfl; kernel_rfl; first | (apply Ok1.move; exact rfl))) <;> (first | (apply A.skipG 8; exact rfl; exact rfl; rotate_left 3; exact rfl; exact rfl; rotate_right 3; kernel_rfl; kernel_rfl; kernel_rfl) | (apply A.skipU 8; exact rfl; exact rfl; rotate_left 3; exact rfl; exact rfl; rotate_right 3; kernel_rfl; kernel_rfl; kernel_rfl) | (apply A.takeG 8; exact rfl; exact rfl; rotate_left 3; exact rfl; exact rfl; rotate_right 3; kernel_rfl; kernel_rfl; kernel_rfl; first | (apply Ok1.fieldAddr; (iterate 5 exact rfl)))) <;> (first | (apply A.skipG 9; exact rfl; exact rfl; rotate_left 3; exact rfl; exact rfl; rotate_right 3; kernel_rfl; kernel_rfl; kernel_rfl) | (apply A.skipU 9; exact rfl; exact rfl; rotate_left 3; exact rfl; exact rfl; rotate_right 3; kernel_rfl; kernel_rfl; kernel_rfl) | (apply A.takeG 9; exact rfl; exact rfl; rotate_left 3; exact rfl; exact rfl; rotate_right 3; kernel_rfl; kernel_rfl; kernel_rfl; first | (apply Ok1.load; exact rfl; first | (apply Ld.own1; exact rfl; exact rfl; (focus ((repeat' (first | exact At.head | apply At.tail | apply At.right)); done)); exact rfl) | (apply Ld.ownk; exact rfl; exact rfl; (focus ((repeat' (first | exact At.head | apply At.tail | apply At.right)); done)); exact rfl) | (apply Ld.old1; exact rfl; exact rfl; assumption; (first | exact List.not_mem_nil | assumption)) | (apply Ld.blk1; exact rfl; exact rfl; assumption; (first | exact List.not_mem_nil | assumption); exact rfl) | (apply Ld.blkk; exact rfl; exact rfl; assumption; (first | exact List.not_mem_nil | assumption); exact rfl)))) <;> (first | (apply A.skipG 10; exact rfl; exact rfl; rotate_left 3; exact rfl; exact rfl; rotate_right 3; kernel_rfl; kernel_rfl; kernel_rfl) | (apply A.skipU 10; exact rfl; exact rfl; rotate_left 3; exact rfl; exact rfl; rotate_right 3; kernel_rfl; kernel_rfl; kernel_rfl) | (apply A.takeG 10; exact rfl; exact rfl; rotate_left 3; exact rfl; exact rfl; rotate_right 3; kernel_rfl; kernel_rfl; kernel_rfl; first | (apply Ok1.fieldAddr; (iterate 5 exact rfl)))) <;> (first | (apply A.skipG 11; exact rfl; exact rfl; rotate_left 3; exact rfl; exact rfl; rotate_right 3; kernel_rfl; kernel_rfl; kernel_rfl) | (apply A.skipU 11; exact rfl; exact rfl; rotate_left 3; exact rfl; exact rfl; rotate_right 3; kernel_rfl; kernel_rfl; kernel_rfl) | (apply A.takeG 11; exact rfl; exact rfl; rotate_left 3; exact rfl; exact rfl; rotate_right 3; kernel_rfl; kernel_rfl; kernel_rfl; first | (apply Ok1.load; exact rfl; first | (apply Ld.own1; exact rfl; exact rfl; (focus ((repeat' (first | exact At.head | apply At.tail | apply At.right)); done)); exact rfl) | (apply Ld.ownk; exact rfl; exact rfl; (focus ((repeat' (first | exact At.head | apply At.tail | apply At.right)); done)); exact rfl) | (apply Ld.old1; exact rfl; exact rfl; assumption; (first | exact List.not_mem_nil | assumption)) | (apply Ld.blk1; exact rfl; exact rfl; assumption; (first | exact List.not_mem_nil | assumption); exact rfl) | (apply Ld.blkk; exact rfl; exact rfl; assumption; (first | exact List.not_mem_nil | assumption); exact rfl)))) <;> (apply A.one 12; kernel_rfl; exact rfl; ((first | (apply R.isG; apply R.guard_run; exact rfl; exact rfl; (first | apply R.callP rfl rfl rfl (width_ok 2 4 (by decide) (by decide) (by decide)) | (apply R.pure; exact rfl; first | (apply Ok1.lenS; (iterate 3 exact rfl)) | (apply Ok1.lenStr; (iterate 3 exact rfl)) | (apply Ok1.lenMm; (iterate 3 exact rfl); (focus ((repeat' (first | exact At.head | apply At.tail | apply At.right)); done))) | (apply Ok1.lenM_nil; (iterate 3 exact rfl)) | (apply Ok1.max2; exact rfl; exact rfl) | (apply Ok1.min2; exact rfl; exact rfl)))) | (apply R.isG; first | (apply R.guard_not; (iterate 3 exact rfl)) | (apply R.guard_not0; exact rfl; exact rfl) | (apply R.guard_un; (iterate 3 exact rfl)) | (apply R.guard_un0; exact rfl; exact rfl)))); apply R.nil; refine ⟨?_, ?_⟩; (focus ((repeat' (first | exact trivial | (refine ⟨?_, ?_⟩; (focus ((repeat' (first | exact At.head | apply At.tail | apply At.right)); done)))))))) <;> (first | (apply A.skipG 13; exact rfl; exact rfl; rotate_left 3; exact rfl; exact rfl; rotate_right 3; kernel_rfl; kernel_rfl; kernel_rfl) | (apply A.skipU 13; exact rfl; exact rfl; rotate_left 3; exact rfl; exact rfl; rotate_right 3; kernel_rfl; kernel_rfl; kernel_rfl) | (apply A.takeG 13; exact rfl; exact rfl; rotate_left 3; exact rfl; exact rfl; rotate_right 3; kernel_rfl; kernel_rfl; kernel_rfl; first | (apply Ok1.mul64; exact rfl; exact rfl; omega; omega))) <;> (first | (apply A.skipG 14; exact rfl; exact rfl; rotate_left 3; exact rfl; exact rfl; rotate_right 3; kernel_rfl; kernel_rfl; kernel_rfl) | (apply A.skipU 14; exact rfl; exact rfl; rotate_left 3; exact rfl; exact rfl; rotate_right 3; kernel_rfl; kernel_rfl; kernel_rfl) | (apply A.takeG 14; exact rfl; exact rfl; rotate_left 3; exact rfl; exact rfl; rotate_right 3; kernel_rfl; kernel_rfl; kernel_rfl; first | (apply Ok1.shr (m := 4294967296); exact rfl; exact rfl; omega; exact Nat.le_of_ble_eq_true rfl; exact rfl) | (apply Ok1.shr; exact rfl; exact rfl; omega; exact Nat.le_of_ble_eq_true rfl; (first | exact pwE1 | exact pwE2 | exact pwE3 | exact pwE4 | exact pwE5 | exact pwE6 | exact pwE7 | exact pwE8 | exact pwE16 | exact pwE24 | exact pwE32 | exact rfl)))) <;> (first | (apply A.skipG 15; exact rfl; exact rfl; rotate_left 3; exact rfl; exact rfl; rotate_right 3; kernel_rfl; kernel_rfl; kernel_rfl) | (apply A.skipU 15; exact rfl; exact rfl; rotate_left 3; exact rfl; exact rfl; rotate_right 3; kernel_rfl; kernel_rfl; kernel_rfl) | (apply A.takeG 15; exact rfl; exact rfl; rotate_left 3; exact rfl; exact rfl; rotate_right 3; kernel_rfl; kernel_rfl; kernel_rfl; first | (apply Ok1.neq_t; exact rfl; exact rfl; omega) | (apply Ok1.neq_f; exact rfl; exact rfl; omega) | (apply Ok1.neqP; (iterate 5 exact rfl)) | (apply Ok1.neqM; (iterate 5 exact rfl)) | (apply Ok1.neqS; (iterate 5 exact rfl))) | (apply A.takeG 15; exact rfl; exact rfl; rotate_left 3; exact rfl; exact rfl; rotate_right 3; kernel_rfl; kernel_rfl; kernel_rfl; (first | (apply Ok1.neq; exact rfl; exact rfl) | (apply Ok1.neqF; (iterate 7 exact rfl))); apply A.dec (t := 48); exact rfl; all_goals intro)) <;> (first | (apply A.skipG 16; exact rfl; exact rfl; rotate_left 3; exact rfl; exact rfl; rotate_right 3; kernel_rfl; kernel_rfl; kernel_rfl) | (apply A.skipU 16; exact rfl; exact rfl; rotate_left 3; exact rfl; exact rfl; rotate_right 3; kernel_rfl; kernel_rfl; kernel_rfl) | (apply A.takeG 16; exact rfl; exact rfl; rotate_left 3; exact rfl; exact rfl; rotate_right 3; kernel_rfl; kernel_rfl; kernel_rfl; first | (apply Ok1.pick_t; exact rfl; exact rfl) | (apply Ok1.pick_f; exact rfl; exact rfl) | (apply Ok1.pick_h; exact rfl; assumption; exact rfl) | (apply Ok1.pick_n; exact rfl; assumption; exact rfl))) <;> (apply A.take 17; exact rfl; exact rfl; kernel_rfl; kernel_rfl; kernel_rfl; first | (apply Ok1.pick_t; exact rfl; exact rfl) | (apply Ok1.pick_f; exact rfl; exact rfl) | (apply Ok1.pick_h; exact rfl; assumption; exact rfl) | (apply Ok1.pick_n; exact rfl; assumption; exact rfl)) <;> (apply A.take 18; exact rfl; exact rfl; kernel_rfl; kernel_rfl; kernel_rfl; first | (apply Ok1.assign; exact rfl)) <;> (apply A.done; kernel_rfl))) | apply T.seq | apply T.region | apply T.block | apply T.scope | apply T.label | apply T.skip | apply T.exit | apply T.ret | (apply T.cond_t; exact rfl) | (apply T.cond_f; exact rfl) | (apply T.cond_h; exact rfl; assumption) | (apply T.cond_n; exact rfl; assumption) | (apply T.cond rfl <;> intro)) | apply Rnd.step)
    (apply RetOk.t; exact rfl)
    rfl
theorem fout_ok (s : Nat) (n : Int) (h : Fits s n) (w : World) : CallM Try.prog 64 [.agg ⟨fldV s n⟩] [] w fun v L => ∃ b, v = .slice (some ⟨b, 0, none⟩) (numI s n).length (numI s n).length ∧ L = [(b, .cells ⟨u8s (numI s n)⟩ 5 (0, 0))] := by
  have hs : s = 0 ∨ s = 1 ∨ s = 2 := by unfold Fits at h; omega
  have hn : n ≤ 9223372036854775807 := by unfold Fits at h; omega
  have hnum := fun w1 => number_ok s n hs h.1 hn w1
  unfold fldV
  refine enterK (tb := tb) Try.func64 rfl Try.ntmps64 rfl ?_
  repeat' (first | (apply R.is1; first | (apply R.isBin; first | (apply R.pure; exact rfl; first | (apply Ok1.eql_t; exact rfl; exact rfl; omega) | (apply Ok1.eql_f; exact rfl; exact rfl; omega) | (apply Ok1.eqlP; (iterate 5 exact rfl)) | (apply Ok1.eqlM; (iterate 5 exact rfl)) | (apply Ok1.eqlS; (iterate 5 exact rfl))) | (apply R.eql rfl rfl rfl <;> intro) | (apply R.eqlF; (iterate 8 exact rfl); all_goals intro)) | (apply R.isCall; first | (apply R.callE; (iterate 3 exact rfl); exact Ext.none _; intro w1 hw1; exact hnum w1; rintro v Lo ⟨b, rfl, rfl⟩) | (apply R.pure; exact rfl; first | (apply Ok1.lenS; (iterate 3 exact rfl)) | (apply Ok1.lenStr; (iterate 3 exact rfl)) | (apply Ok1.lenMm; (iterate 3 exact rfl); (focus ((repeat' (first | exact At.head | apply At.tail | apply At.right)); done))) | (apply Ok1.lenM_nil; (iterate 3 exact rfl)))) | (apply R.pure; exact rfl; first | (apply Ok1.fieldAddr; (iterate 5 exact rfl)) | (apply Ok1.load; exact rfl; first | (apply Ld.own1; exact rfl; exact rfl; (focus ((repeat' (first | exact At.head | apply At.tail | apply At.right)); done)); exact rfl) | (apply Ld.ownk; exact rfl; exact rfl; (focus ((repeat' (first | exact At.head | apply At.tail | apply At.right)); done)); exact rfl) | (apply Ld.old1; exact rfl; exact rfl; assumption; (first | exact List.not_mem_nil | assumption)) | (apply Ld.blk1; exact rfl; exact rfl; assumption; (first | exact List.not_mem_nil | assumption); exact rfl) | (apply Ld.blkk; exact rfl; exact rfl; assumption; (first | exact List.not_mem_nil | assumption); exact rfl)) | (apply Ok1.assign; exact rfl)) | (apply R.box; (iterate 3 exact rfl); intro)) | (apply R.is0; first | fail) | (apply R.isG; first | (apply R.guard_run; exact rfl; exact rfl) | (apply R.guard_not; (iterate 3 exact rfl)) | (apply R.guard_not0; exact rfl; exact rfl) | (apply R.guard_un; (iterate 3 exact rfl)) | (apply R.guard_un0; exact rfl; exact rfl) | (apply R.guard rfl rfl ?_ (fun h => ⟨rfl, ?_⟩) <;> try intro)) | apply R.nil | (apply T.is; first | apply T.seq | apply T.region | apply T.block | apply T.scope | apply T.label | apply T.skip | apply T.exit | apply T.ret | (apply T.cond_t; exact rfl) | (apply T.cond_f; exact rfl) | (apply T.cond_h; exact rfl; assumption) | (apply T.cond_n; exact rfl; assumption) | (apply T.cond rfl <;> intro)) | apply Rnd.step)
  (apply RetOk.t; exact rfl)
  exact ⟨_, by (focus ((repeat' (first | exact Keep.nil _ | exact Ext.one _ _ | exact Ext.here _ _ | exact Ext.all _ | apply Keep.cons | apply Keep.app | apply Keep.last | apply Ext.cons | apply Ext.app)); done)), b, rfl, rfl⟩
/-- A writer that has written, without an error. -/
def WL (bw : Nat) (ov : Ov) (bs : List Int) : Lst := (bw, .cells ⟨[slV ov bs.length, .int .i64 0]⟩ 84 (0, 0)) :: blkL 5 ov (u8s bs)
def WRes (bw : Nat) (bs : List Int) (v : Value) (L : Lst) : Prop := ∃ ov, v = .pointer (some ⟨bw, 0, none⟩) ∧ OvOk 1 ov bs.length (u8s bs) ∧ L = WL bw ov bs
theorem num_len (s : Nat) (n : Int) : 1 ≤ (numI s n).length ∧ (numI s n).length ≤ 4 := by unfold numI len4; split <;> simp
theorem put_ok (bw : Nat) (ov : Ov) (bs : List Int) (hov : OvOk 1 ov bs.length (u8s bs)) (s : Nat) (n : Int) (h : Fits s n) (hbig : bs.length ≤ 1000) (bf : Nat) (fz : Nat × Nat) (e : TypeId) (w : World) (hb : w.heap[bf]? = some (.cells ⟨fldV s n⟩ e fz)) (hoff : bf ∉ blks (WL bw ov bs)) :
    CallM Try.prog 45 [.pointer (some ⟨bw, 0, none⟩), .slice (some ⟨bf, 0, none⟩) 1 1] (WL bw ov bs) w (WRes bw (bs ++ numI s n)) := by
  have hck := wcheck_ok s n h
  have hfo := fun w1 => fout_ok s n h w1
  have hnl := num_len s n
  unfold WRes
  generalize numI s n = nb at *
  refine enterK (tb := tb) Try.func45 rfl Try.ntmps45 rfl ?_
  obtain ⟨S, hS⟩ : ∃ S, S = blks (WL bw ov bs) := ⟨_, rfl⟩
  rw [← hS] at hoff ⊢
  simp only [WL, fldV] at hb hck hfo ⊢
  repeat' (first | (apply R.is1; first | (apply R.isBin; first | (apply R.pure; exact rfl; first | (apply Ok1.add64; exact rfl; exact rfl; omega; omega) | (apply Ok1.lss_t; exact rfl; exact rfl; omega) | (apply Ok1.lss_f; exact rfl; exact rfl; omega) | (apply Ok1.gtr_t; exact rfl; exact rfl; omega) | (apply Ok1.gtr_f; exact rfl; exact rfl; omega) | (apply Ok1.eql_t; exact rfl; exact rfl; omega) | (apply Ok1.eql_f; exact rfl; exact rfl; omega) | (apply Ok1.neq_t; exact rfl; exact rfl; omega) | (apply Ok1.neq_f; exact rfl; exact rfl; omega) | (apply Ok1.eqlP; (iterate 5 exact rfl)) | (apply Ok1.neqP; (iterate 5 exact rfl)) | (apply Ok1.eqlM; (iterate 5 exact rfl)) | (apply Ok1.neqM; (iterate 5 exact rfl)) | (apply Ok1.eqlS; (iterate 5 exact rfl)) | (apply Ok1.neqS; (iterate 5 exact rfl))) | (apply R.lss rfl rfl rfl <;> intro) | (apply R.gtr rfl rfl rfl <;> intro) | (apply R.eql rfl rfl rfl <;> intro) | (apply R.neq rfl rfl rfl <;> intro) | (apply R.eqlF; (iterate 8 exact rfl); all_goals intro) | (apply R.neqF; (iterate 8 exact rfl); all_goals intro)) | (apply R.isCall; first | apply R.callP rfl rfl rfl hck | (apply R.callE; (iterate 3 exact rfl); exact Ext.none _; intro w1 hw1; exact hfo w1; rintro v Lo ⟨b7, rfl, rfl⟩) | (apply R.pure; exact rfl; apply Ok1.lenOv; (iterate 3 exact rfl); first | exact hov) | (apply R.appendRd (xs := nb) (v := u8V) (sz := 1) (ov := ov) (n := bs.length) (old := u8s bs); (iterate 12 exact rfl); exact hov; (focus ((repeat' (first | exact Ext.none _ | exact Ext.one _ _ | exact Ext.here _ _ | exact Ext.all _ | apply Ext.cons | apply Ext.app | apply Ext.two)); done)); exact rfl; exact u8V_len; exact rfl; (intro w1 hw1; exact RdSl.of (junk := []) hw1 (by (focus ((repeat' (first | exact At.head | apply At.tail | apply At.right)); done))) (by rw [fl_u8, List.append_nil])); (focus (rw [fl_u8]; exact u8s_one nb)); omega; intro ov1 hov1 hsome; rw [fl_u8, ← u8s_app, ← List.length_append]; rw [fl_u8, ← u8s_app, ← List.length_append] at hov1) | (apply R.pure; exact rfl; first | (apply Ok1.lenS; (iterate 3 exact rfl)) | (apply Ok1.lenStr; (iterate 3 exact rfl)) | (apply Ok1.lenMm; (iterate 3 exact rfl); (focus ((repeat' (first | exact At.head | apply At.tail | apply At.right)); done))) | (apply Ok1.lenM_nil; (iterate 3 exact rfl)))) | (apply R.pure; exact rfl; first | (apply Ok1.move; exact rfl) | (apply Ok1.fieldAddr; (iterate 5 exact rfl)) | (apply Ok1.load; exact rfl; first | (apply Ld.own1; exact rfl; exact rfl; (focus ((repeat' (first | exact At.head | apply At.tail | apply At.right)); done)); exact rfl) | (apply Ld.ownk; exact rfl; exact rfl; (focus ((repeat' (first | exact At.head | apply At.tail | apply At.right)); done)); exact rfl) | (apply Ld.old1; exact rfl; exact rfl; assumption; (first | exact List.not_mem_nil | assumption)) | (apply Ld.blk1; exact rfl; exact rfl; assumption; (first | exact List.not_mem_nil | assumption); exact rfl) | (apply Ld.blkk; exact rfl; exact rfl; assumption; (first | exact List.not_mem_nil | assumption); exact rfl)) | (apply Ok1.assign; exact rfl) | (apply Ok1.indexAddr; (iterate 5 exact rfl); omega; omega) | (apply Ok1.indexAddrA; (iterate 5 exact rfl); omega; omega) | (apply Ok1.nilCheck; exact rfl) | (apply Ok1.nilCheckF; exact rfl)) | (apply R.alloc; (iterate 3 exact rfl); intro)) | (apply R.is0; first | (apply R.store; (iterate 3 exact rfl); exact cellsE_slV _ _; exact rfl; exact one_slV _ _; (focus ((repeat' (first | exact Upd.head | apply Upd.tail | apply Upd.right)); done)); exact rfl) | (apply R.store; (iterate 6 exact rfl); (focus ((repeat' (first | exact Upd.head | apply Upd.tail | apply Upd.right)); done)); exact rfl) | fail) | (apply R.isG; first | (apply R.guard_run; exact rfl; exact rfl) | (apply R.guard_not; (iterate 3 exact rfl)) | (apply R.guard_not0; exact rfl; exact rfl) | (apply R.guard_un; (iterate 3 exact rfl)) | (apply R.guard_un0; exact rfl; exact rfl) | (apply R.guard rfl rfl ?_ (fun h => ⟨rfl, ?_⟩) <;> try intro)) | apply R.nil | (apply T.is; first | apply T.rounds 3 | apply T.seq | apply T.region | apply T.block | apply T.scope | apply T.label | apply T.skip | apply T.exit | apply T.ret | (apply T.cond_t; exact rfl) | (apply T.cond_f; exact rfl) | (apply T.cond_h; exact rfl; assumption) | (apply T.cond_n; exact rfl; assumption) | (apply T.cond rfl <;> intro)) | apply Rnd.step)
  (apply RetOk.t; exact rfl)
  refine ⟨_, ?_, ov1, rfl, hov1, rfl⟩
  (focus ((repeat' (first | exact Keep.nil _ | exact Ext.one _ _ | exact Ext.here _ _ | exact Ext.all _ | apply Keep.cons | apply Keep.app | apply Keep.last | apply Ext.cons | apply Ext.app)); done))
theorem number1_ok (bw : Nat) (ov : Ov) (bs : List Int) (hov : OvOk 1 ov bs.length (u8s bs)) (s : Nat) (n : Int) (h : Fits s n) (hbig : bs.length ≤ 1000) (bl : Nat) (fz : Nat × Nat) (e : TypeId) (w : World) (hb : w.heap[bl]? = some (.cells ⟨[.int .i64 n]⟩ e fz)) (hoff : bl ∉ blks (WL bw ov bs)) :
    CallM Try.prog 35 [.pointer (some ⟨bw, 0, none⟩), .int .i64 s, .slice (some ⟨bl, 0, none⟩) 1 1] (WL bw ov bs) w (WRes bw (bs ++ numI s n)) := by
  have hput := fun bf fz e w1 => put_ok bw ov bs hov s n h hbig bf fz e w1
  unfold WRes at hput ⊢
  generalize bs ++ numI s n = nb at *
  refine enterK (tb := tb) Try.func35 rfl Try.ntmps35 rfl ?_
  obtain ⟨S, hS⟩ : ∃ S, S = blks (WL bw ov bs) := ⟨_, rfl⟩
  rw [← hS] at hoff ⊢
  repeat' (first | (apply R.is1; first | (apply R.isBin; first | (apply R.pure; exact rfl; first | (apply Ok1.add64; exact rfl; exact rfl; omega; omega) | (apply Ok1.lss_t; exact rfl; exact rfl; omega) | (apply Ok1.lss_f; exact rfl; exact rfl; omega)) | (apply R.lss rfl rfl rfl <;> intro)) | (apply R.isCall; first | (apply R.callE (Li := WL bw ov bs); (iterate 3 exact rfl); (focus ((repeat' (first | exact Ext.none _ | exact Ext.one _ _ | exact Ext.here _ _ | exact Ext.all _ | apply Ext.cons | apply Ext.app | apply Ext.two)); done)); intro w1 hw1; exact hput _ _ _ w1 (hw1.get _ _ (At.mem (by (focus ((repeat' (first | exact At.head | apply At.tail | apply At.right)); done))))) (RdSl.off hw1 (by (focus ((repeat' (first | exact Ext.none _ | exact Ext.one _ _ | exact Ext.here _ _ | exact Ext.all _ | apply Ext.cons | apply Ext.app | apply Ext.two)); done))) (At.mem (by (focus ((repeat' (first | exact At.head | apply At.tail | apply At.right)); done))))); rintro v Lo ⟨ov1, rfl, hov1, rfl⟩) | (apply R.pure; exact rfl; first | (apply Ok1.lenS; (iterate 3 exact rfl)) | (apply Ok1.lenStr; (iterate 3 exact rfl)) | (apply Ok1.lenMm; (iterate 3 exact rfl); (focus ((repeat' (first | exact At.head | apply At.tail | apply At.right)); done))) | (apply Ok1.lenM_nil; (iterate 3 exact rfl)))) | (apply R.pure; exact rfl; first | (apply Ok1.move; exact rfl) | (apply Ok1.load; exact rfl; first | (apply Ld.own1; exact rfl; exact rfl; (focus ((repeat' (first | exact At.head | apply At.tail | apply At.right)); done)); exact rfl) | (apply Ld.ownk; exact rfl; exact rfl; (focus ((repeat' (first | exact At.head | apply At.tail | apply At.right)); done)); exact rfl) | (apply Ld.old1; exact rfl; exact rfl; assumption; (first | exact List.not_mem_nil | assumption)) | (apply Ld.blk1; exact rfl; exact rfl; assumption; (first | exact List.not_mem_nil | assumption); exact rfl) | (apply Ld.blkk; exact rfl; exact rfl; assumption; (first | exact List.not_mem_nil | assumption); exact rfl)) | (apply Ok1.assign; exact rfl) | (apply Ok1.indexAddr; (iterate 5 exact rfl); omega; omega) | (apply Ok1.indexAddrA; (iterate 5 exact rfl); omega; omega) | (apply Ok1.build; (iterate 5 exact rfl)) | (apply Ok1.buildA; (iterate 6 exact rfl))) | (apply R.buildSlice; (iterate 12 exact rfl); intro)) | (apply R.is0; first | fail) | (apply R.isG; first | (apply R.guard_run; exact rfl; exact rfl) | (apply R.guard_not; (iterate 3 exact rfl)) | (apply R.guard_not0; exact rfl; exact rfl) | (apply R.guard_un; (iterate 3 exact rfl)) | (apply R.guard_un0; exact rfl; exact rfl) | (apply R.guard rfl rfl ?_ (fun h => ⟨rfl, ?_⟩) <;> try intro)) | apply R.nil | (apply T.is; first | apply T.rounds 3 | apply T.seq | apply T.region | apply T.block | apply T.scope | apply T.label | apply T.skip | apply T.exit | apply T.ret | (apply T.cond_t; exact rfl) | (apply T.cond_f; exact rfl) | (apply T.cond_h; exact rfl; assumption) | (apply T.cond_n; exact rfl; assumption) | (apply T.cond rfl <;> intro)) | apply Rnd.step)
  (apply RetOk.t; exact rfl)
  refine ⟨_, ?_, ov1, rfl, hov1, rfl⟩
  (focus ((repeat' (first | exact Keep.nil _ | exact Ext.one _ _ | exact Ext.here _ _ | exact Ext.all _ | apply Keep.cons | apply Keep.app | apply Keep.last | apply Ext.cons | apply Ext.app)); done))
theorem wout_ok (bw : Nat) (ov : Ov) (bs : List Int) (hov : OvOk 1 ov bs.length (u8s bs)) (hbig : bs.length ≤ 1000000) (w : World) (hb : w.heap[bw]? = some (.cells ⟨[slV ov bs.length, .int .i64 0]⟩ 84 (0, 0))) (hr : RdSl w (ovp ov) u8V bs) :
    CallM Try.prog 36 [.pointer (some ⟨bw, 0, none⟩)] [] w fun v L => ∃ ov', OvOk 1 ov' bs.length (u8s bs) ∧ v = .tuple #[slV ov' bs.length, .int .i64 0] ∧ L = blkL 5 ov' (u8s bs) := by
  rw [slV_eq hov] at hb
  refine enterK (tb := tb) Try.func36 rfl Try.ntmps36 rfl ?_
  have hcl := fun w1 (hc : Chg [] w w1) => clone_ok (ovp ov) bs.length (ovc ov bs.length) bs rfl (by omega) w1 (hr.chg' hc (fun _ => Off.nil _))
  repeat' (first | (apply R.is1; first | (apply R.isBin; first | (apply R.pure; exact rfl; first | (apply Ok1.eql_t; exact rfl; exact rfl; omega) | (apply Ok1.eql_f; exact rfl; exact rfl; omega) | (apply Ok1.neq_t; exact rfl; exact rfl; omega) | (apply Ok1.neq_f; exact rfl; exact rfl; omega) | (apply Ok1.eqlP; (iterate 5 exact rfl)) | (apply Ok1.neqP; (iterate 5 exact rfl)) | (apply Ok1.eqlM; (iterate 5 exact rfl)) | (apply Ok1.neqM; (iterate 5 exact rfl)) | (apply Ok1.eqlS; (iterate 5 exact rfl)) | (apply Ok1.neqS; (iterate 5 exact rfl))) | (apply R.eql rfl rfl rfl <;> intro) | (apply R.neq rfl rfl rfl <;> intro) | (apply R.eqlF; (iterate 8 exact rfl); all_goals intro) | (apply R.neqF; (iterate 8 exact rfl); all_goals intro)) | (apply R.isCall; first | (apply R.callE; (iterate 3 exact rfl); exact Ext.none _; intro w1 hw1; exact hcl w1 hw1.chg; rintro v Lo ⟨ov2, hov2, hsome, rfl, rfl⟩)) | (apply R.pure; exact rfl; first | (apply Ok1.move; exact rfl) | (apply Ok1.fieldAddr; (iterate 5 exact rfl)) | (apply Ok1.load; exact rfl; first | (apply Ld.own1; exact rfl; exact rfl; (focus ((repeat' (first | exact At.head | apply At.tail | apply At.right)); done)); exact rfl) | (apply Ld.ownk; exact rfl; exact rfl; (focus ((repeat' (first | exact At.head | apply At.tail | apply At.right)); done)); exact rfl) | (apply Ld.old1; exact rfl; exact rfl; assumption; (first | exact List.not_mem_nil | assumption)) | (apply Ld.blk1; exact rfl; exact rfl; assumption; (first | exact List.not_mem_nil | assumption); exact rfl) | (apply Ld.blkk; exact rfl; exact rfl; assumption; (first | exact List.not_mem_nil | assumption); exact rfl)) | (apply Ok1.assign; exact rfl) | (apply Ok1.nilCheck; exact rfl) | (apply Ok1.nilCheckF; exact rfl))) | (apply R.is0; first | fail) | (apply R.isG; first | (apply R.guard_run; exact rfl; exact rfl) | (apply R.guard_not; (iterate 3 exact rfl)) | (apply R.guard_not0; exact rfl; exact rfl) | (apply R.guard_un; (iterate 3 exact rfl)) | (apply R.guard_un0; exact rfl; exact rfl) | (apply R.guard rfl rfl ?_ (fun h => ⟨rfl, ?_⟩) <;> try intro)) | apply R.nil | (apply T.is; first | apply T.seq | apply T.region | apply T.block | apply T.scope | apply T.label | apply T.skip | apply T.exit | apply T.ret | (apply T.cond_t; exact rfl) | (apply T.cond_f; exact rfl) | (apply T.cond_h; exact rfl; assumption) | (apply T.cond_n; exact rfl; assumption) | (apply T.cond rfl <;> intro)) | apply Rnd.step)
  (apply RetOk.tt; exact rfl; exact rfl)
  exact ⟨_, by (focus ((repeat' (first | exact Keep.nil _ | exact Ext.one _ _ | exact Ext.here _ _ | exact Ext.all _ | apply Keep.cons | apply Keep.app | apply Keep.last | apply Ext.cons | apply Ext.app)); done)), ov2, hov2, rfl, rfl⟩
end Go.Proofs.Ytligngjcnlbgmaa
set_option linter.unusedSimpArgs false
set_option linter.unusedVariables false
namespace Go.Proofs.Ytligngjcnlbgmaa
open Go.RowKit Go.Shelf
set_option maxRecDepth 100000
def frameI (ls : List (List Int)) : List Int := ls.flatMap fun b => len4 b.length ++ b
theorem frame_app (a b : List (List Int)) : frameI (a ++ b) = frameI a ++ frameI b := List.flatMap_append
theorem frame_one (b : List Int) : frameI [b] = len4 b.length ++ b := by simp [frameI]
theorem cat_app (a b : List Pt) : cat (a ++ b) = cat a ++ cat b := List.flatMap_append
theorem Pt.v_one (x : Pt) : x.v.all Value.oneCell' = true := rfl
theorem add_ok (p : Option Addr) (n cap : Nat) (xs : List Int) (hn : n = xs.length) (hbig : n ≤ 1000000000) (bo : Nat) (ov : Ov) (pts : List Pt) (hov : OvOk 1 ov pts.length (fl Pt.v pts)) (hpl : pts.length ≤ 1000000) (w : World) :
    CallM Try.prog 79 [.slice p n cap, .pointer (some ⟨bo, 0, none⟩)] ((bo, .cells ⟨[slV ov pts.length]⟩ 24 (0, 0)) :: blkL 22 ov (fl Pt.v pts)) w fun v L => ∃ ov' b4, v = .tuple #[] ∧ OvOk 1 ov' (pts.length + 2) (fl Pt.v (pts ++ [⟨some ⟨b4, 0, none⟩, 4, len4 n⟩, ⟨p, cap, xs⟩])) ∧
      L = (bo, .cells ⟨[slV ov' (pts.length + 2)]⟩ 24 (0, 0)) :: (blkL 22 ov' (fl Pt.v (pts ++ [⟨some ⟨b4, 0, none⟩, 4, len4 n⟩, ⟨p, cap, xs⟩])) ++ [(b4, .cells ⟨u8s (len4 n)⟩ 5 (0, 0))]) := by
  subst hn
  refine enterK (tb := tb) Try.func79 rfl Try.ntmps79 rfl ?_
  repeat' (first | (apply R.is1; first | (apply R.isBin; first | (apply R.pure; exact rfl; first | (apply Ok1.shr; exact rfl; exact rfl; omega; exact Nat.le_of_ble_eq_true rfl; (first | exact pwE1 | exact pwE2 | exact pwE3 | exact pwE4 | exact pwE5 | exact pwE6 | exact pwE7 | exact pwE8 | exact pwE16 | exact pwE24 | exact pwE32 | exact rfl)))) | (apply R.isCall; first | (apply R.pure; exact rfl; first | (apply Ok1.lenS; (iterate 3 exact rfl)) | (apply Ok1.lenStr; (iterate 3 exact rfl)) | (apply Ok1.lenMm; (iterate 3 exact rfl); (focus ((repeat' (first | exact At.head | apply At.tail | apply At.right)); done))) | (apply Ok1.lenM_nil; (iterate 3 exact rfl)))) | (apply R.pure; exact rfl; first | (apply Ok1.convU32; (iterate 5 exact rfl); omega; omega) | (apply Ok1.move; exact rfl) | (apply Ok1.load; exact rfl; first | (apply Ld.own1; exact rfl; exact rfl; (focus ((repeat' (first | exact At.head | apply At.tail | apply At.right)); done)); exact rfl) | (apply Ld.ownk; exact rfl; exact rfl; (focus ((repeat' (first | exact At.head | apply At.tail | apply At.right)); done)); exact rfl) | (apply Ld.old1; exact rfl; exact rfl; assumption; (first | exact List.not_mem_nil | assumption)) | (apply Ld.blk1; exact rfl; exact rfl; assumption; (first | exact List.not_mem_nil | assumption); exact rfl) | (apply Ld.blkk; exact rfl; exact rfl; assumption; (first | exact List.not_mem_nil | assumption); exact rfl)) | (apply Ok1.assign; exact rfl) | (apply Ok1.convI64; (iterate 5 exact rfl); omega; omega) | (apply Ok1.convU64; (iterate 5 exact rfl); omega; omega) | (apply Ok1.convU32; (iterate 5 exact rfl); omega; omega) | (apply Ok1.convU8; (iterate 5 exact rfl); omega; omega) | (apply Ok1.conv; (iterate 5 exact rfl))) | (apply R.buildSlice; (iterate 12 exact rfl); intro)) | (apply R.is0; first | (apply R.store; (iterate 6 exact rfl); (focus ((repeat' (first | exact Upd.head | apply Upd.tail | apply Upd.right)); done)); exact rfl) | fail) | (apply R.isG; first | (apply R.guard_run; exact rfl; exact rfl) | (apply R.guard_not; (iterate 3 exact rfl)) | (apply R.guard_not0; exact rfl; exact rfl) | (apply R.guard_un; (iterate 3 exact rfl)) | (apply R.guard_un0; exact rfl; exact rfl) | (apply R.guard rfl rfl ?_ (fun h => ⟨rfl, ?_⟩) <;> try intro)) | apply R.nil | (apply T.is; first | apply T.seq | apply T.region | apply T.block | apply T.scope | apply T.label | apply T.skip | apply T.exit | apply T.ret | (apply T.cond_t; exact rfl) | (apply T.cond_f; exact rfl) | (apply T.cond_h; exact rfl; assumption) | (apply T.cond_n; exact rfl; assumption) | (apply T.cond rfl <;> intro)) | apply Rnd.step)
  rename_i b4 be
  simp only [u8_mod]
  have h4 : (xs.length : Int) / 16777216 = (xs.length : Int) / 16777216 % 256 := by omega
  rw [h4]
  repeat' (first | (apply R.is1; first | (apply R.isBin; first | (apply R.pure; exact rfl; first | (apply Ok1.shr; exact rfl; exact rfl; omega; exact Nat.le_of_ble_eq_true rfl; (first | exact pwE1 | exact pwE2 | exact pwE3 | exact pwE4 | exact pwE5 | exact pwE6 | exact pwE7 | exact pwE8 | exact pwE16 | exact pwE24 | exact pwE32 | exact rfl)))) | (apply R.isCall; first | (apply R.appendRd (xs := [⟨some ⟨b4, 0, none⟩, 4, len4 xs.length⟩, ⟨p, cap, xs⟩]) (v := Pt.v) (sz := 1) (ov := ov) (n := pts.length) (old := fl Pt.v pts); (iterate 12 exact rfl); exact hov; (focus ((repeat' (first | exact Ext.none _ | exact Ext.one _ _ | exact Ext.here _ _ | exact Ext.all _ | apply Ext.cons | apply Ext.app | apply Ext.two)); done)); exact rfl; exact Pt.v_len; exact rfl; (intro w1 hw1; exact RdSl.of (junk := []) hw1 (by (focus ((repeat' (first | exact At.head | apply At.tail | apply At.right)); done))) rfl); exact rfl; omega; intro ov1 hov1 hsome) | (apply R.pure; exact rfl; first | (apply Ok1.lenS; (iterate 3 exact rfl)) | (apply Ok1.lenStr; (iterate 3 exact rfl)) | (apply Ok1.lenMm; (iterate 3 exact rfl); (focus ((repeat' (first | exact At.head | apply At.tail | apply At.right)); done))) | (apply Ok1.lenM_nil; (iterate 3 exact rfl)))) | (apply R.pure; exact rfl; first | (apply Ok1.move; exact rfl) | (apply Ok1.load; exact rfl; first | (apply Ld.own1; exact rfl; exact rfl; (focus ((repeat' (first | exact At.head | apply At.tail | apply At.right)); done)); exact rfl) | (apply Ld.ownk; exact rfl; exact rfl; (focus ((repeat' (first | exact At.head | apply At.tail | apply At.right)); done)); exact rfl) | (apply Ld.old1; exact rfl; exact rfl; assumption; (first | exact List.not_mem_nil | assumption)) | (apply Ld.blk1; exact rfl; exact rfl; assumption; (first | exact List.not_mem_nil | assumption); exact rfl) | (apply Ld.blkk; exact rfl; exact rfl; assumption; (first | exact List.not_mem_nil | assumption); exact rfl)) | (apply Ok1.assign; exact rfl) | (apply Ok1.convI64; (iterate 5 exact rfl); omega; omega) | (apply Ok1.convU64; (iterate 5 exact rfl); omega; omega) | (apply Ok1.convU32; (iterate 5 exact rfl); omega; omega) | (apply Ok1.convU8; (iterate 5 exact rfl); omega; omega) | (apply Ok1.conv; (iterate 5 exact rfl))) | (apply R.buildSlice; (iterate 12 exact rfl); intro)) | (apply R.is0; first | (apply R.store; (iterate 3 exact rfl); exact cellsE_slV _ _; exact rfl; exact one_slV _ _; (focus ((repeat' (first | exact Upd.head | apply Upd.tail | apply Upd.right)); done)); exact rfl) | (apply R.store; (iterate 6 exact rfl); (focus ((repeat' (first | exact Upd.head | apply Upd.tail | apply Upd.right)); done)); exact rfl) | fail) | (apply R.isG; first | (apply R.guard_run; exact rfl; exact rfl) | (apply R.guard_not; (iterate 3 exact rfl)) | (apply R.guard_not0; exact rfl; exact rfl) | (apply R.guard_un; (iterate 3 exact rfl)) | (apply R.guard_un0; exact rfl; exact rfl) | (apply R.guard rfl rfl ?_ (fun h => ⟨rfl, ?_⟩) <;> try intro)) | apply R.nil | (apply T.is; first | apply T.seq | apply T.region | apply T.block | apply T.scope | apply T.label | apply T.skip | apply T.exit | apply T.ret | (apply T.cond_t; exact rfl) | (apply T.cond_f; exact rfl) | (apply T.cond_h; exact rfl; assumption) | (apply T.cond_n; exact rfl; assumption) | (apply T.cond rfl <;> intro)) | apply Rnd.step)
  (apply RetOk.n)
  rw [← fl_app] at hov1 ⊢
  refine ⟨_, ?_, ov1, b4, rfl, hov1, rfl⟩
  (focus ((repeat' (first | exact Keep.nil _ | exact Ext.one _ _ | exact Ext.here _ _ | exact Ext.all _ | apply Keep.cons | apply Keep.app | apply Keep.last | apply Ext.cons | apply Ext.app)); done))
theorem RdSl.heap {α : Type} {v : α → List Value} {rs : List α} {w : World} {b : Nat} {e : TypeId} {fz : Nat × Nat} {junk : List Value} (h : w.heap[b]? = some (.cells ⟨fl v rs ++ junk⟩ e fz)) : RdSl w (some ⟨b, 0, none⟩) v rs := by
  right
  refine ⟨b, 0, rfl, fun k hk => ?_⟩
  simp only [World.cell?, h]
  simp [hk, List.getElem?_append_left]
/-- What has been framed so far: the parts, and the blocks that they lie in. -/
structure FO where
  ov : Ov
  pts : List Pt
  ex : Lst
def FOok (f : FO) (ls : List (List Int)) (src : World → Prop) : Prop := OvOk 1 f.ov f.pts.length (fl Pt.v f.pts) ∧ f.pts.length = 2 * ls.length ∧ cat f.pts = frameI ls ∧ ∀ W, (∀ z ∈ f.ex, W.heap[z.1]? = some z.2) → src W → ∀ x ∈ f.pts, RdSl W x.p u8V x.xs
theorem framed_ok (name : ByteArray) (pp : Option Addr) (m cap : Nat) (ps : List Pt) (hm : m = ps.length) (hm2 : m ≤ 100000) (hname : name.size ≤ 1000000) (hbig : ∀ x ∈ ps, x.xs.length ≤ 1000000000) (w : World) (hp : RdSl w pp Pt.v ps) :
    CallM Try.prog 66 [.string name, .slice pp m cap] [] w fun v L => ∃ f : FO, v = slV f.ov f.pts.length ∧ L = blkL 22 f.ov (fl Pt.v f.pts) ++ f.ex ∧ FOok f (strI name :: ps.map (·.xs)) (fun W => ∀ x ∈ ps, RdSl W x.p u8V x.xs) := by
  subst hm
  refine enterK (tb := tb) Try.func66 rfl Try.ntmps66 rfl ?_
  have hnl : (strI name).length = name.size := by simp [strI]
  repeat' (first | (apply R.is1; first | (apply R.convBytes; (iterate 8 exact rfl); intro bn jn kn) | (apply R.isBin; first | (apply R.pure; exact rfl; first | (apply Ok1.add64; exact rfl; exact rfl; omega; omega) | (apply Ok1.lss_t; exact rfl; exact rfl; omega) | (apply Ok1.lss_f; exact rfl; exact rfl; omega)) | (apply R.lss rfl rfl rfl <;> intro)) | (apply R.isCall; first | (apply R.pure; exact rfl; first | (apply Ok1.lenS; (iterate 3 exact rfl)) | (apply Ok1.lenStr; (iterate 3 exact rfl)) | (apply Ok1.lenMm; (iterate 3 exact rfl); (focus ((repeat' (first | exact At.head | apply At.tail | apply At.right)); done))) | (apply Ok1.lenM_nil; (iterate 3 exact rfl)))) | (apply R.pure; exact rfl; first | (apply Ok1.move; exact rfl) | (apply Ok1.load; exact rfl; first | (apply Ld.own1; exact rfl; exact rfl; (focus ((repeat' (first | exact At.head | apply At.tail | apply At.right)); done)); exact rfl) | (apply Ld.ownk; exact rfl; exact rfl; (focus ((repeat' (first | exact At.head | apply At.tail | apply At.right)); done)); exact rfl) | (apply Ld.old1; exact rfl; exact rfl; assumption; (first | exact List.not_mem_nil | assumption)) | (apply Ld.blk1; exact rfl; exact rfl; assumption; (first | exact List.not_mem_nil | assumption); exact rfl) | (apply Ld.blkk; exact rfl; exact rfl; assumption; (first | exact List.not_mem_nil | assumption); exact rfl)) | (apply Ok1.assign; exact rfl) | (apply Ok1.indexAddr; (iterate 5 exact rfl); omega; omega) | (apply Ok1.indexAddrA; (iterate 5 exact rfl); omega; omega) | (apply Ok1.makeFunc; exact rfl; exact rfl) | (apply Ok1.convI64; (iterate 5 exact rfl); omega; omega) | (apply Ok1.convU64; (iterate 5 exact rfl); omega; omega) | (apply Ok1.convU32; (iterate 5 exact rfl); omega; omega) | (apply Ok1.convU8; (iterate 5 exact rfl); omega; omega) | (apply Ok1.conv; (iterate 5 exact rfl))) | (apply R.alloc; (iterate 3 exact rfl); intro)) | (apply R.is0; first | fail) | (apply R.isG; first | (apply R.guard_run; exact rfl; exact rfl) | (apply R.guard_not; (iterate 3 exact rfl)) | (apply R.guard_not0; exact rfl; exact rfl) | (apply R.guard_un; (iterate 3 exact rfl)) | (apply R.guard_un0; exact rfl; exact rfl) | (apply R.guard rfl rfl ?_ (fun h => ⟨rfl, ?_⟩) <;> try intro)) | apply R.nil | (apply T.is; first | apply T.seq | apply T.region | apply T.block | apply T.scope | apply T.label | apply T.skip | apply T.exit | apply T.ret | (apply T.cond_t; exact rfl) | (apply T.cond_f; exact rfl) | (apply T.cond_h; exact rfl; assumption) | (apply T.cond_n; exact rfl; assumption) | (apply T.cond rfl <;> intro)) | apply Rnd.step)
  rename_i bo
  obtain ⟨src, hsrc⟩ : ∃ src : World → Prop, src = fun W => ∀ x ∈ ps, RdSl W x.p u8V x.xs := ⟨_, rfl⟩
  rw [← hsrc]
  repeat' (first | (apply R.is1; first | (apply R.isBin; first | (apply R.pure; exact rfl; first | (apply Ok1.add64; exact rfl; exact rfl; omega; omega) | (apply Ok1.lss_t; exact rfl; exact rfl; omega) | (apply Ok1.lss_f; exact rfl; exact rfl; omega)) | (apply R.lss rfl rfl rfl <;> intro)) | (apply R.isCall; first | (apply R.callFE (fa := []) (cb := [.pointer (some ⟨bo, 0, none⟩)]) (Li := [(bo, .cells ⟨[.slice none 0 0]⟩ 24 (0, 0))]); (iterate 4 exact rfl); (focus ((repeat' (first | exact Ext.none _ | exact Ext.one _ _ | exact Ext.here _ _ | exact Ext.all _ | apply Ext.cons | apply Ext.app | apply Ext.two)); done)); intro w1 hw1; exact add_ok (some ⟨bn, 0, none⟩) name.size _ (strI name) hnl.symm (by omega) bo none [] (OvOk.start 1) (by decide) w1; rintro v Lo ⟨ov1, b4, rfl, hov1, rfl⟩) | (apply R.pure; exact rfl; first | (apply Ok1.lenS; (iterate 3 exact rfl)) | (apply Ok1.lenStr; (iterate 3 exact rfl)) | (apply Ok1.lenMm; (iterate 3 exact rfl); (focus ((repeat' (first | exact At.head | apply At.tail | apply At.right)); done))) | (apply Ok1.lenM_nil; (iterate 3 exact rfl)))) | (apply R.pure; exact rfl; first | (apply Ok1.move; exact rfl) | (apply Ok1.load; exact rfl; first | (apply Ld.own1; exact rfl; exact rfl; (focus ((repeat' (first | exact At.head | apply At.tail | apply At.right)); done)); exact rfl) | (apply Ld.ownk; exact rfl; exact rfl; (focus ((repeat' (first | exact At.head | apply At.tail | apply At.right)); done)); exact rfl) | (apply Ld.old1; exact rfl; exact rfl; assumption; (first | exact List.not_mem_nil | assumption)) | (apply Ld.blk1; exact rfl; exact rfl; assumption; (first | exact List.not_mem_nil | assumption); exact rfl) | (apply Ld.blkk; exact rfl; exact rfl; assumption; (first | exact List.not_mem_nil | assumption); exact rfl)) | (apply Ok1.assign; exact rfl) | (apply Ok1.indexAddr; (iterate 5 exact rfl); omega; omega) | (apply Ok1.indexAddrA; (iterate 5 exact rfl); omega; omega) | (apply Ok1.makeFunc; exact rfl; exact rfl) | (apply Ok1.convI64; (iterate 5 exact rfl); omega; omega) | (apply Ok1.convU64; (iterate 5 exact rfl); omega; omega) | (apply Ok1.convU32; (iterate 5 exact rfl); omega; omega) | (apply Ok1.convU8; (iterate 5 exact rfl); omega; omega) | (apply Ok1.conv; (iterate 5 exact rfl))) | (apply R.alloc; (iterate 3 exact rfl); intro)) | (apply R.is0; first | fail) | (apply R.isG; first | (apply R.guard_run; exact rfl; exact rfl) | (apply R.guard_not; (iterate 3 exact rfl)) | (apply R.guard_not0; exact rfl; exact rfl) | (apply R.guard_un; (iterate 3 exact rfl)) | (apply R.guard_un0; exact rfl; exact rfl) | (apply R.guard rfl rfl ?_ (fun h => ⟨rfl, ?_⟩) <;> try intro)) | apply R.nil | (apply T.is; first | apply T.seq | apply T.region | apply T.block | apply T.scope | apply T.label | apply T.skip | apply T.exit | apply T.ret | (apply T.cond_t; exact rfl) | (apply T.cond_f; exact rfl) | (apply T.cond_h; exact rfl; assumption) | (apply T.cond_n; exact rfl; assumption) | (apply T.cond rfl <;> intro)) | apply Rnd.step)
  apply T.loopK (α := Nat × FO) (I := fun y => y.1 ≤ ps.length ∧ FOok y.2 (strI name :: (ps.take y.1).map (·.xs)) src) (σi := fun y => [(5, .pointer (some ⟨bo, 0, none⟩)), (6, .func (.func 79) #[] #[.pointer (some ⟨bo, 0, none⟩)]), (14, .slice pp ps.length cap), (15, .int .i64 ps.length), (16, .int .i64 y.1)])
    (Li := fun y => (bo, .cells ⟨[slV y.2.ov y.2.pts.length]⟩ 24 (0, 0)) :: (blkL 22 y.2.ov (fl Pt.v y.2.pts) ++ y.2.ex)) (μ := fun y => ps.length - y.1)
    (i0 := (0, ⟨ov1, [⟨some ⟨b4, 0, none⟩, 4, len4 name.size⟩, ⟨some ⟨bn, 0, none⟩, name.size + jn, strI name⟩], [(b4, .cells ⟨u8s (len4 name.size)⟩ 5 (0, 0)), (bn, .cells ⟨(strI name).map (.int .u8) ++ kn⟩ 5 (name.size + jn, name.size + jn + 1))]⟩))
  · refine ⟨Nat.zero_le _, hov1, rfl, ?_, fun W hex _ x hx => ?_⟩
    · simp [cat, frameI, hnl]
    · rcases List.mem_cons.1 hx with rfl | hx
      · exact RdSl.heap (junk := []) (e := 5) (fz := (0, 0)) (by rw [fl_u8, List.append_nil]; exact hex _ List.mem_cons_self)
      · rw [List.mem_singleton.1 hx]
        exact RdSl.heap (junk := kn) (e := 5) (fz := (name.size + jn, name.size + jn + 1)) (by rw [fl_u8]; exact hex _ (List.mem_cons_of_mem _ List.mem_cons_self))
  · exact ⟨rfl, rfl, rfl, rfl, rfl, trivial⟩
  · simp only [List.nil_append, List.cons_append, List.append_assoc]
    (focus ((repeat' (first | exact Keep.nil _ | exact Ext.one _ _ | exact Ext.here _ _ | exact Ext.all _ | apply Keep.cons | apply Keep.app | apply Keep.last | apply Ext.cons | apply Ext.app)); done))
  · rintro ⟨i, f⟩ ⟨hi, hov, hlen, hcat, hrd⟩
    simp only at hi hov hlen hcat hrd ⊢
    have hll : (strI name :: (ps.take i).map (·.xs)).length = i + 1 := by simp; omega
    rw [hll] at hlen
    rcases Nat.lt_or_ge i ps.length with hlt | hge
    · obtain ⟨x, hx⟩ : ∃ x, ps[i]? = some x := ⟨_, List.getElem?_eq_getElem (by omega)⟩
      obtain ⟨b', o', hpe, H⟩ := hp.at hx
      replace H := H 1 Pt.v_len
      have hxb := hbig x (List.mem_of_getElem? hx)
      have hls : strI name :: (ps.take (i + 1)).map (·.xs) = (strI name :: (ps.take i).map (·.xs)) ++ [x.xs] := by rw [List.take_add_one, hx]; simp
      obtain ⟨ov, pts, ex⟩ := f
      simp only at hov hlen hcat hrd ⊢
      repeat' (first | (apply R.is1; first | (apply R.isBin; first | (apply R.pure; exact rfl; first | (apply Ok1.add64; exact rfl; exact rfl; omega; omega) | (apply Ok1.lss_t; exact rfl; exact rfl; omega) | (apply Ok1.lss_f; exact rfl; exact rfl; omega)) | (apply R.lss rfl rfl rfl <;> intro)) | (apply R.isCall; first | (apply R.callFE (fa := []) (cb := [.pointer (some ⟨bo, 0, none⟩)]) (Li := (bo, .cells ⟨[slV ov pts.length]⟩ 24 (0, 0)) :: blkL 22 ov (fl Pt.v pts)); (iterate 4 exact rfl); (focus (exact Ext.here ((bo, .cells ⟨[slV ov pts.length]⟩ 24 (0, 0)) :: blkL 22 ov (fl Pt.v pts)) ex)); intro w1 hw1; exact add_ok x.p x.xs.length x.cap x.xs rfl hxb bo ov pts hov (by omega) w1; rintro v Lo ⟨ov2, b5, rfl, hov2, rfl⟩) | (apply R.pure; exact rfl; first | (apply Ok1.lenS; (iterate 3 exact rfl)) | (apply Ok1.lenStr; (iterate 3 exact rfl)) | (apply Ok1.lenMm; (iterate 3 exact rfl); (focus ((repeat' (first | exact At.head | apply At.tail | apply At.right)); done))) | (apply Ok1.lenM_nil; (iterate 3 exact rfl)))) | (apply R.pure; exact rfl; first | (apply Ok1.indexAddrP; (iterate 4 exact rfl); exact hpe; exact rfl; omega; omega) | (apply Ok1.load; exact rfl; apply Ld.row0 H; exact rfl; exact List.not_mem_nil; (iterate 3 exact rfl)) | (apply Ok1.move; exact rfl) | (apply Ok1.load; exact rfl; first | (apply Ld.own1; exact rfl; exact rfl; (focus ((repeat' (first | exact At.head | apply At.tail | apply At.right)); done)); exact rfl) | (apply Ld.ownk; exact rfl; exact rfl; (focus ((repeat' (first | exact At.head | apply At.tail | apply At.right)); done)); exact rfl) | (apply Ld.old1; exact rfl; exact rfl; assumption; (first | exact List.not_mem_nil | assumption)) | (apply Ld.blk1; exact rfl; exact rfl; assumption; (first | exact List.not_mem_nil | assumption); exact rfl) | (apply Ld.blkk; exact rfl; exact rfl; assumption; (first | exact List.not_mem_nil | assumption); exact rfl)) | (apply Ok1.assign; exact rfl) | (apply Ok1.indexAddr; (iterate 5 exact rfl); omega; omega) | (apply Ok1.indexAddrA; (iterate 5 exact rfl); omega; omega) | (apply Ok1.makeFunc; exact rfl; exact rfl) | (apply Ok1.convI64; (iterate 5 exact rfl); omega; omega) | (apply Ok1.convU64; (iterate 5 exact rfl); omega; omega) | (apply Ok1.convU32; (iterate 5 exact rfl); omega; omega) | (apply Ok1.convU8; (iterate 5 exact rfl); omega; omega) | (apply Ok1.conv; (iterate 5 exact rfl))) | (apply R.alloc; (iterate 3 exact rfl); intro)) | (apply R.is0; first | fail) | (apply R.isG; first | (apply R.guard_run; exact rfl; exact rfl) | (apply R.guard_not; (iterate 3 exact rfl)) | (apply R.guard_not0; exact rfl; exact rfl) | (apply R.guard_un; (iterate 3 exact rfl)) | (apply R.guard_un0; exact rfl; exact rfl) | (apply R.guard rfl rfl ?_ (fun h => ⟨rfl, ?_⟩) <;> try intro)) | apply R.nil | (apply T.is; first | apply T.seq | apply T.region | apply T.block | apply T.scope | apply T.label | apply T.skip | apply T.exit | apply T.ret | (apply T.cond_t; exact rfl) | (apply T.cond_f; exact rfl) | (apply T.cond_h; exact rfl; assumption) | (apply T.cond_n; exact rfl; assumption) | (apply T.cond rfl <;> intro)) | apply Rnd.step)
      refine ⟨(i + 1, ⟨ov2, pts ++ [⟨some ⟨b5, 0, none⟩, 4, len4 x.xs.length⟩, x], (b5, .cells ⟨u8s (len4 x.xs.length)⟩ 5 (0, 0)) :: ex⟩), ⟨by simp only; omega, ?_⟩, by simp only; omega, ⟨rfl, rfl, rfl, rfl, rfl, trivial⟩, ?_⟩
      · rw [hls]
        refine ⟨by simpa using hov2, by simp [hlen]; omega, ?_, fun W hex hs y hy => ?_⟩
        · rw [frame_app, cat_app, hcat, frame_one]
          simp [cat]
        · rcases List.mem_append.1 hy with hy | hy
          · exact hrd W (fun z hz => hex z (List.mem_cons_of_mem _ hz)) hs y hy
          · rcases List.mem_cons.1 hy with rfl | hy
            · exact RdSl.heap (junk := []) (e := 5) (fz := (0, 0)) (by rw [fl_u8, List.append_nil]; exact hex _ List.mem_cons_self)
            · rw [List.mem_singleton.1 hy]
              rw [hsrc] at hs
              exact hs x (List.mem_of_getElem? hx)
      · simp only [List.length_append, List.length_cons, List.length_nil, List.append_assoc, List.cons_append, List.nil_append]
        (focus ((repeat' (first | exact Keep.nil _ | exact Ext.one _ _ | exact Ext.here _ _ | exact Ext.all _ | apply Keep.cons | apply Keep.app | apply Keep.last | apply Ext.cons | apply Ext.app)); done))
    · have him : i = ps.length := by omega
      subst him
      rw [List.take_length] at hcat
      repeat' (first | (apply R.is1; first | (apply R.isBin; first | (apply R.pure; exact rfl; first | (apply Ok1.add64; exact rfl; exact rfl; omega; omega) | (apply Ok1.lss_t; exact rfl; exact rfl; omega) | (apply Ok1.lss_f; exact rfl; exact rfl; omega)) | (apply R.lss rfl rfl rfl <;> intro)) | (apply R.isCall; first | (apply R.pure; exact rfl; first | (apply Ok1.lenS; (iterate 3 exact rfl)) | (apply Ok1.lenStr; (iterate 3 exact rfl)) | (apply Ok1.lenMm; (iterate 3 exact rfl); (focus ((repeat' (first | exact At.head | apply At.tail | apply At.right)); done))) | (apply Ok1.lenM_nil; (iterate 3 exact rfl)))) | (apply R.pure; exact rfl; first | (apply Ok1.move; exact rfl) | (apply Ok1.load; exact rfl; first | (apply Ld.own1; exact rfl; exact rfl; (focus ((repeat' (first | exact At.head | apply At.tail | apply At.right)); done)); exact rfl) | (apply Ld.ownk; exact rfl; exact rfl; (focus ((repeat' (first | exact At.head | apply At.tail | apply At.right)); done)); exact rfl) | (apply Ld.old1; exact rfl; exact rfl; assumption; (first | exact List.not_mem_nil | assumption)) | (apply Ld.blk1; exact rfl; exact rfl; assumption; (first | exact List.not_mem_nil | assumption); exact rfl) | (apply Ld.blkk; exact rfl; exact rfl; assumption; (first | exact List.not_mem_nil | assumption); exact rfl)) | (apply Ok1.assign; exact rfl) | (apply Ok1.indexAddr; (iterate 5 exact rfl); omega; omega) | (apply Ok1.indexAddrA; (iterate 5 exact rfl); omega; omega) | (apply Ok1.makeFunc; exact rfl; exact rfl) | (apply Ok1.convI64; (iterate 5 exact rfl); omega; omega) | (apply Ok1.convU64; (iterate 5 exact rfl); omega; omega) | (apply Ok1.convU32; (iterate 5 exact rfl); omega; omega) | (apply Ok1.convU8; (iterate 5 exact rfl); omega; omega) | (apply Ok1.conv; (iterate 5 exact rfl))) | (apply R.alloc; (iterate 3 exact rfl); intro)) | (apply R.is0; first | fail) | (apply R.isG; first | (apply R.guard_run; exact rfl; exact rfl) | (apply R.guard_not; (iterate 3 exact rfl)) | (apply R.guard_not0; exact rfl; exact rfl) | (apply R.guard_un; (iterate 3 exact rfl)) | (apply R.guard_un0; exact rfl; exact rfl) | (apply R.guard rfl rfl ?_ (fun h => ⟨rfl, ?_⟩) <;> try intro)) | apply R.nil | (apply T.is; first | apply T.seq | apply T.region | apply T.block | apply T.scope | apply T.label | apply T.skip | apply T.exit | apply T.ret | (apply T.cond_t; exact rfl) | (apply T.cond_f; exact rfl) | (apply T.cond_h; exact rfl; assumption) | (apply T.cond_n; exact rfl; assumption) | (apply T.cond rfl <;> intro)) | apply Rnd.step)
      (apply RetOk.t; exact rfl)
      refine ⟨_, ?_, f, rfl, rfl, hov, ?_, hcat, hrd⟩
      · (focus ((repeat' (first | exact Keep.nil _ | exact Ext.one _ _ | exact Ext.here _ _ | exact Ext.all _ | apply Keep.cons | apply Keep.app | apply Keep.last | apply Ext.cons | apply Ext.app)); done))
      · simp [hlen]
end Go.Proofs.Ytligngjcnlbgmaa
set_option linter.unusedSimpArgs false
set_option linter.unusedVariables false
namespace Go.Proofs.Ytligngjcnlbgmaa
open Go.RowKit Go.Shelf
set_option maxRecDepth 100000
/-- A key that was made: its block, its bytes'. -/
def KL (bk : Nat) (ov : Ov) (xs : List Int) : Lst := (bk, .cells ⟨[slV ov xs.length]⟩ 62 (0, 0)) :: blkL 5 ov (u8s xs)
/-- A key that is read. -/
def KeyR (w : World) (bk : Nat) (xs : List Int) : Prop := ∃ p cap, w.heap[bk]? = some (.cells ⟨[.slice p xs.length cap]⟩ 62 (0, 0)) ∧ RdSl w p u8V xs
theorem KeyR.chg {w w' : World} {bk : Nat} {xs : List Int} (h : KeyR w bk xs) (hc : Chg [] w w') : KeyR w' bk xs := by
  obtain ⟨p, cap, h1, h2⟩ := h
  exact ⟨p, cap, hc.heap h1 List.not_mem_nil, h2.chg' hc (fun _ => Off.nil _)⟩
theorem KeyR.of {ov : Ov} {bk : Nat} {xs : List Int} (hov : OvOk 1 ov xs.length (u8s xs)) {w0 w : World} {S : List Nat} {L : Lst} (hw : Hp w0 S L w) (hin : ∀ z ∈ KL bk ov xs, z ∈ L) : KeyR w bk xs := by
  refine ⟨ovp ov, ovc ov xs.length, ?_, rdown hov hw fun z hz => hin z (List.mem_cons_of_mem _ hz)⟩
  rw [← slV_eq hov]
  exact hw.get _ _ (hin _ List.mem_cons_self)
theorem new_ok (p : Option Addr) (n cap : Nat) (xs : List Int) (hn : n = xs.length) (hbig : n ≤ 1000000000) (w : World) (hp : RdSl w p u8V xs) :
    CallM Try.prog 7 [.slice p n cap] [] w fun v L => ∃ bk ov, v = .pointer (some ⟨bk, 0, none⟩) ∧ OvOk 1 ov xs.length (u8s xs) ∧ ov.isSome = p.isSome ∧ L = KL bk ov xs := by
  subst hn
  refine enterK (tb := tb) Try.func7 rfl Try.ntmps7 rfl ?_
  have hcl := fun w1 (hc : Chg [] w w1) => clone_ok p xs.length cap xs rfl hbig w1 (hp.chg' hc (fun _ => Off.nil _))
  repeat' (first | (apply R.is1; first | (apply R.isCall; first | (apply R.callE; (iterate 3 exact rfl); exact Ext.none _; intro w1 hw1; exact hcl w1 hw1.chg; rintro v Lo ⟨ov2, hov2, hsome, rfl, rfl⟩; rw [slV_eq hov2])) | (apply R.pure; exact rfl; first | (apply Ok1.move; exact rfl) | (apply Ok1.assign; exact rfl) | (apply Ok1.build; (iterate 5 exact rfl)) | (apply Ok1.buildA; (iterate 6 exact rfl))) | (apply R.box; (iterate 3 exact rfl); intro)) | (apply R.is0; first | fail) | (apply R.isG; first | (apply R.guard_run; exact rfl; exact rfl) | (apply R.guard_not; (iterate 3 exact rfl)) | (apply R.guard_not0; exact rfl; exact rfl) | (apply R.guard_un; (iterate 3 exact rfl)) | (apply R.guard_un0; exact rfl; exact rfl) | (apply R.guard rfl rfl ?_ (fun h => ⟨rfl, ?_⟩) <;> try intro)) | apply R.nil | (apply T.is; first | apply T.seq | apply T.region | apply T.block | apply T.scope | apply T.label | apply T.skip | apply T.exit | apply T.ret | (apply T.cond_t; exact rfl) | (apply T.cond_f; exact rfl) | (apply T.cond_h; exact rfl; assumption) | (apply T.cond_n; exact rfl; assumption) | (apply T.cond rfl <;> intro)) | apply Rnd.step)
  rename_i bk
  (apply RetOk.t; exact rfl)
  refine ⟨_, ?_, bk, ov2, rfl, hov2, hsome, rfl⟩
  simp only [KL, slV_eq hov2]
  (focus ((repeat' (first | exact Keep.nil _ | exact Ext.one _ _ | exact Ext.here _ _ | exact Ext.all _ | apply Keep.cons | apply Keep.app | apply Keep.last | apply Ext.cons | apply Ext.app)); done))
def deriveI (k : List Int) (label : ByteArray) (ls : List (List Int)) : List Int := hmacI k (frameI (strI label :: ls))
theorem derive_len (k : List Int) (label : ByteArray) (ls : List (List Int)) : (deriveI k label ls).length = 32 := sha_len _
theorem derive_byt (k : List Int) (label : ByteArray) (ls : List (List Int)) : Byt (deriveI k label ls) := sha_byt _
theorem frame_byt {ls : List (List Int)} (h : ∀ l ∈ ls, Byt l) : Byt (frameI ls) := by
  intro y hy
  obtain ⟨l, hl, hy⟩ := List.mem_flatMap.1 hy
  rcases List.mem_append.1 hy with hy | hy
  · exact len4_byt _ y hy
  · exact h l hl y hy
theorem str_byt (s : ByteArray) : Byt (strI s) := by
  intro y hy
  obtain ⟨z, _, rfl⟩ := List.mem_map.1 hy
  have := z.toNat_lt
  omega
theorem derive_ok (bk : Nat) (k : List Int) (hkl : k.length ≤ 999999000) (hkb : Byt k) (name : ByteArray) (hname : name.size ≤ 1000000) (pp : Option Addr) (m cap : Nat) (ps : List Pt) (hm : m = ps.length) (hm2 : m ≤ 100000) (hpb : ∀ x ∈ ps, Byt x.xs) (hbig : (frameI (strI name :: ps.map (·.xs))).length ≤ 999998000) (hbig1 : ∀ x ∈ ps, x.xs.length ≤ 1000000000) (w : World) (hk : KeyR w bk k) (hp : RdSl w pp Pt.v ps) (hall : ∀ x ∈ ps, RdSl w x.p u8V x.xs) :
    CallM Try.prog 47 [.pointer (some ⟨bk, 0, none⟩), .string name, .slice pp m cap] [] w fun v L => ∃ bk' ov, v = .pointer (some ⟨bk', 0, none⟩) ∧ OvOk 1 ov 32 (u8s (deriveI k name (ps.map (·.xs)))) ∧ L = KL bk' ov (deriveI k name (ps.map (·.xs))) := by
  obtain ⟨pk, ck, hb, hpk⟩ := hk
  have hfb : Byt (frameI (strI name :: ps.map (·.xs))) := frame_byt fun l hl => by
    rcases List.mem_cons.1 hl with rfl | hl
    · exact str_byt _
    · obtain ⟨x, hx, rfl⟩ := List.mem_map.1 hl
      exact hpb x hx
  have hdl := derive_len k name (ps.map (·.xs))
  have hdb := derive_byt k name (ps.map (·.xs))
  have hdd : deriveI k name (ps.map (·.xs)) = hmacI k (frameI (strI name :: ps.map (·.xs))) := rfl
  have hfr := fun w1 (hc : Chg [] w w1) => framed_ok name pp m cap ps hm hm2 hname hbig1 w1 (hp.chg' hc (fun _ => Off.nil _))
  have hmapl : (strI name :: ps.map (·.xs)).length = m + 1 := by simp [hm]
  generalize hfre : frameI (strI name :: ps.map (·.xs)) = fr at *
  generalize deriveI k name (ps.map (·.xs)) = d0 at *
  have hls : (u8s d0).length = 32 := by rw [u8s_len, hdl]
  have hone := u8s_one d0
  have hset : ∀ cs : List Value, cs.length = 32 → setE cs 0 (u8s d0) = some (u8s d0) := fun cs h => setE_all (by rw [hls, h])
  refine enterK (tb := tb) Try.func47 rfl Try.ntmps47 rfl ?_
  repeat' (first | (apply R.is1; first | (apply R.isBin; first | (apply R.pure; exact rfl; first | (apply Ok1.eql_t; exact rfl; exact rfl; omega) | (apply Ok1.eql_f; exact rfl; exact rfl; omega) | (apply Ok1.eqlP; (iterate 5 exact rfl)) | (apply Ok1.eqlM; (iterate 5 exact rfl)) | (apply Ok1.eqlS; (iterate 5 exact rfl))) | (apply R.eql rfl rfl rfl <;> intro) | (apply R.eqlF; (iterate 8 exact rfl); all_goals intro)) | (apply R.isCall; first | (apply R.callE; (iterate 3 exact rfl); exact Ext.none _; intro w1 hw1; exact hfr w1 hw1.chg; rintro v Lo ⟨f, rfl, rfl, hfo, hflen, hfcat, hfrd⟩; rw [slV_eq hfo, List.append_assoc]; rw [hfre] at hfcat; rw [hmapl] at hflen) | (apply R.callV; (iterate 3 exact rfl); intro w1 hw1; have h9 := tag_ok pk k.length ck k rfl hkl hkb (ovp f.ov) f.pts.length (ovc f.ov f.pts.length) f.pts rfl (by rw [hfcat]; exact hfb) (by rw [hfcat]; exact hbig) (by omega) w1 (hpk.chg' hw1.chg (fun _ => Off.nil _)) (RdSl.own' hw1 (Ext.mem (by (focus ((repeat' (first | exact Ext.none _ | exact Ext.one _ _ | exact Ext.here _ _ | exact Ext.all _ | apply Ext.cons | apply Ext.app | apply Ext.two)); done)))) hfo Pt.v_len) (hfrd w1 (fun z hz => hw1.get _ _ (Ext.mem (s := f.ex) (by (focus ((repeat' (first | exact Ext.none _ | exact Ext.one _ _ | exact Ext.here _ _ | exact Ext.all _ | apply Ext.cons | apply Ext.app | apply Ext.two)); done))) z hz)) (fun x hx => (hall x hx).chg' hw1.chg (fun _ => Off.nil _))); rw [hfcat, ← hdd] at h9; exact h9) | (apply R.callE; (iterate 3 exact rfl); exact Ext.none _; intro w1 hw1; exact new_ok (some ⟨_, 0, none⟩) 32 32 d0 hdl.symm (by decide) w1 (RdSl.of (junk := []) hw1 (by (focus ((repeat' (first | exact At.head | apply At.tail | apply At.right)); done))) (by rw [fl_u8, List.append_nil])); rintro v Lo ⟨bk2, ov2, rfl, hov2, _, rfl⟩)) | (apply R.pure; exact rfl; first | (apply Ok1.sliceArr; (iterate 4 exact rfl)) | (apply Ok1.move; exact rfl) | (apply Ok1.fieldAddr; (iterate 5 exact rfl)) | (apply Ok1.load; exact rfl; first | (apply Ld.own1; exact rfl; exact rfl; (focus ((repeat' (first | exact At.head | apply At.tail | apply At.right)); done)); exact rfl) | (apply Ld.ownk; exact rfl; exact rfl; (focus ((repeat' (first | exact At.head | apply At.tail | apply At.right)); done)); exact rfl) | (apply Ld.old1; exact rfl; exact rfl; assumption; (first | exact List.not_mem_nil | assumption)) | (apply Ld.blk1; exact rfl; exact rfl; assumption; (first | exact List.not_mem_nil | assumption); exact rfl) | (apply Ld.blkk; exact rfl; exact rfl; assumption; (first | exact List.not_mem_nil | assumption); exact rfl)) | (apply Ok1.assign; exact rfl) | (apply Ok1.nilCheck; exact rfl) | (apply Ok1.nilCheckF; exact rfl) | (apply Ok1.slice0; (iterate 7 exact rfl); (refine ⟨?_, ?_, ?_⟩ <;> omega); (first | exact Or.inl rfl | exact Or.inr (fun e => by cases e))) | (apply Ok1.sliceTo; (iterate 6 exact rfl); omega; omega; omega; (first | exact Or.inl rfl | exact Or.inr (fun e => by cases e))) | (apply Ok1.sliceFrom; (iterate 7 exact rfl); omega; omega; omega; omega; omega; (first | exact Or.inl rfl | exact Or.inr (fun e => by cases e)))) | (apply R.alloc; (iterate 3 exact rfl); intro)) | (apply R.is0; first | (apply R.store; (iterate 4 exact rfl); exact hls; exact hone; (focus ((repeat' (first | exact Upd.head | apply Upd.tail | apply Upd.right)); done)); exact hset _ rfl) | (apply R.store; (iterate 6 exact rfl); (focus ((repeat' (first | exact Upd.head | apply Upd.tail | apply Upd.right)); done)); exact rfl) | fail) | (apply R.isG; first | (apply R.guard_run; exact rfl; exact rfl) | (apply R.guard_not; (iterate 3 exact rfl)) | (apply R.guard_not0; exact rfl; exact rfl) | (apply R.guard_un; (iterate 3 exact rfl)) | (apply R.guard_un0; exact rfl; exact rfl) | (apply R.guard rfl rfl ?_ (fun h => ⟨rfl, ?_⟩) <;> try intro)) | apply R.nil | (apply T.is; first | (apply T.drawC (id := 3) [] (by decide); ((apply A.take 0; exact rfl; exact rfl; kernel_rfl; kernel_rfl; kernel_rfl; first | (apply Ok1.move; exact rfl)) <;> (apply A.take 1; exact rfl; exact rfl; kernel_rfl; kernel_rfl; kernel_rfl; first | (apply Ok1.nilCheck; exact rfl) | (apply Ok1.nilCheckF; exact rfl)) <;> (apply A.take 2; exact rfl; exact rfl; kernel_rfl; kernel_rfl; kernel_rfl; first | (apply Ok1.fieldAddr; (iterate 5 exact rfl))) <;> (apply A.take 3; exact rfl; exact rfl; kernel_rfl; kernel_rfl; kernel_rfl; first | (apply Ok1.load; exact rfl; first | (apply Ld.own1; exact rfl; exact rfl; (focus ((repeat' (first | exact At.head | apply At.tail | apply At.right)); done)); exact rfl) | (apply Ld.ownk; exact rfl; exact rfl; (focus ((repeat' (first | exact At.head | apply At.tail | apply At.right)); done)); exact rfl) | (apply Ld.old1; exact rfl; exact rfl; assumption; (first | exact List.not_mem_nil | assumption)) | (apply Ld.blk1; exact rfl; exact rfl; assumption; (first | exact List.not_mem_nil | assumption); exact rfl) | (apply Ld.blkk; exact rfl; exact rfl; assumption; (first | exact List.not_mem_nil | assumption); exact rfl))) <;> (apply A.take 4; exact rfl; exact rfl; kernel_rfl; kernel_rfl; kernel_rfl; first | (apply Ok1.move; exact rfl)) <;> (apply A.take 5; exact rfl; exact rfl; kernel_rfl; kernel_rfl; kernel_rfl; first | (apply Ok1.move; exact rfl)) <;> (apply A.two 6 8; kernel_rfl; exact rfl; exact rfl; rotate_left 1; (focus ((((first | (apply R.alloc; (iterate 3 exact rfl); intro) | fail)); apply R.nil; refine ⟨?_, ?_⟩; (focus ((repeat' (first | exact trivial | (refine ⟨?_, ?_⟩; (focus ((repeat' (first | exact At.head | apply At.tail | apply At.right)); done)))))))) <;> (apply A.one 6; kernel_rfl; exact rfl; ((first | (apply R.callE; (iterate 3 exact rfl); exact Ext.none _; intro w1 hw1; exact hfr w1 hw1.chg; rintro v Lo ⟨f, rfl, rfl, hfo, hflen, hfcat, hfrd⟩; rw [slV_eq hfo, List.append_assoc]; rw [hfre] at hfcat; rw [hmapl] at hflen) | (apply R.callV; (iterate 3 exact rfl); intro w1 hw1; have h9 := tag_ok pk k.length ck k rfl hkl hkb (ovp f.ov) f.pts.length (ovc f.ov f.pts.length) f.pts rfl (by rw [hfcat]; exact hfb) (by rw [hfcat]; exact hbig) (by omega) w1 (hpk.chg' hw1.chg (fun _ => Off.nil _)) (RdSl.own' hw1 (Ext.mem (by (focus ((repeat' (first | exact Ext.none _ | exact Ext.one _ _ | exact Ext.here _ _ | exact Ext.all _ | apply Ext.cons | apply Ext.app | apply Ext.two)); done)))) hfo Pt.v_len) (hfrd w1 (fun z hz => hw1.get _ _ (Ext.mem (s := f.ex) (by (focus ((repeat' (first | exact Ext.none _ | exact Ext.one _ _ | exact Ext.here _ _ | exact Ext.all _ | apply Ext.cons | apply Ext.app | apply Ext.two)); done))) z hz)) (fun x hx => (hall x hx).chg' hw1.chg (fun _ => Off.nil _))); rw [hfcat, ← hdd] at h9; exact h9) | (apply R.callE; (iterate 3 exact rfl); exact Ext.none _; intro w1 hw1; exact new_ok (some ⟨_, 0, none⟩) 32 32 d0 hdl.symm (by decide) w1 (RdSl.of (junk := []) hw1 (by (focus ((repeat' (first | exact At.head | apply At.tail | apply At.right)); done))) (by rw [fl_u8, List.append_nil])); rintro v Lo ⟨bk2, ov2, rfl, hov2, _, rfl⟩) | (apply R.pure; exact rfl; first | (apply Ok1.lenS; (iterate 3 exact rfl)) | (apply Ok1.lenStr; (iterate 3 exact rfl)) | (apply Ok1.lenMm; (iterate 3 exact rfl); (focus ((repeat' (first | exact At.head | apply At.tail | apply At.right)); done))) | (apply Ok1.lenM_nil; (iterate 3 exact rfl)) | (apply Ok1.max2; exact rfl; exact rfl) | (apply Ok1.min2; exact rfl; exact rfl)))); apply R.nil; refine ⟨?_, ?_⟩; (focus ((repeat' (first | exact trivial | (refine ⟨?_, ?_⟩; (focus ((repeat' (first | exact At.head | apply At.tail | apply At.right)); done)))))))) <;> (apply A.one 7; kernel_rfl; exact rfl; ((first | (apply R.callE; (iterate 3 exact rfl); exact Ext.none _; intro w1 hw1; exact hfr w1 hw1.chg; rintro v Lo ⟨f, rfl, rfl, hfo, hflen, hfcat, hfrd⟩; rw [slV_eq hfo, List.append_assoc]; rw [hfre] at hfcat; rw [hmapl] at hflen) | (apply R.callV; (iterate 3 exact rfl); intro w1 hw1; have h9 := tag_ok pk k.length ck k rfl hkl hkb (ovp f.ov) f.pts.length (ovc f.ov f.pts.length) f.pts rfl (by rw [hfcat]; exact hfb) (by rw [hfcat]; exact hbig) (by omega) w1 (hpk.chg' hw1.chg (fun _ => Off.nil _)) (RdSl.own' hw1 (Ext.mem (by (focus ((repeat' (first | exact Ext.none _ | exact Ext.one _ _ | exact Ext.here _ _ | exact Ext.all _ | apply Ext.cons | apply Ext.app | apply Ext.two)); done)))) hfo Pt.v_len) (hfrd w1 (fun z hz => hw1.get _ _ (Ext.mem (s := f.ex) (by (focus ((repeat' (first | exact Ext.none _ | exact Ext.one _ _ | exact Ext.here _ _ | exact Ext.all _ | apply Ext.cons | apply Ext.app | apply Ext.two)); done))) z hz)) (fun x hx => (hall x hx).chg' hw1.chg (fun _ => Off.nil _))); rw [hfcat, ← hdd] at h9; exact h9) | (apply R.callE; (iterate 3 exact rfl); exact Ext.none _; intro w1 hw1; exact new_ok (some ⟨_, 0, none⟩) 32 32 d0 hdl.symm (by decide) w1 (RdSl.of (junk := []) hw1 (by (focus ((repeat' (first | exact At.head | apply At.tail | apply At.right)); done))) (by rw [fl_u8, List.append_nil])); rintro v Lo ⟨bk2, ov2, rfl, hov2, _, rfl⟩) | (apply R.pure; exact rfl; first | (apply Ok1.lenS; (iterate 3 exact rfl)) | (apply Ok1.lenStr; (iterate 3 exact rfl)) | (apply Ok1.lenMm; (iterate 3 exact rfl); (focus ((repeat' (first | exact At.head | apply At.tail | apply At.right)); done))) | (apply Ok1.lenM_nil; (iterate 3 exact rfl)) | (apply Ok1.max2; exact rfl; exact rfl) | (apply Ok1.min2; exact rfl; exact rfl)))); apply R.nil; refine ⟨?_, ?_⟩; (focus ((repeat' (first | exact trivial | (refine ⟨?_, ?_⟩; (focus ((repeat' (first | exact At.head | apply At.tail | apply At.right)); done)))))))) <;> (apply A.one 9; kernel_rfl; exact rfl; ((first | (apply R.store; (iterate 4 exact rfl); exact hls; exact hone; (focus ((repeat' (first | exact Upd.head | apply Upd.tail | apply Upd.right)); done)); exact hset _ rfl) | (apply R.store; (iterate 6 exact rfl); (focus ((repeat' (first | exact Upd.head | apply Upd.tail | apply Upd.right)); done)); exact rfl) | fail)); apply R.nil; refine ⟨?_, ?_⟩; (focus ((repeat' (first | exact trivial | (refine ⟨?_, ?_⟩; (focus ((repeat' (first | exact At.head | apply At.tail | apply At.right)); done)))))))) <;> (apply A.done; kernel_rfl))); rotate_right 1; (focus ((((first | (apply R.callE; (iterate 3 exact rfl); exact Ext.none _; intro w1 hw1; exact hfr w1 hw1.chg; rintro v Lo ⟨f, rfl, rfl, hfo, hflen, hfcat, hfrd⟩; rw [slV_eq hfo, List.append_assoc]; rw [hfre] at hfcat; rw [hmapl] at hflen) | (apply R.callV; (iterate 3 exact rfl); intro w1 hw1; have h9 := tag_ok pk k.length ck k rfl hkl hkb (ovp f.ov) f.pts.length (ovc f.ov f.pts.length) f.pts rfl (by rw [hfcat]; exact hfb) (by rw [hfcat]; exact hbig) (by omega) w1 (hpk.chg' hw1.chg (fun _ => Off.nil _)) (RdSl.own' hw1 (Ext.mem (by (focus ((repeat' (first | exact Ext.none _ | exact Ext.one _ _ | exact Ext.here _ _ | exact Ext.all _ | apply Ext.cons | apply Ext.app | apply Ext.two)); done)))) hfo Pt.v_len) (hfrd w1 (fun z hz => hw1.get _ _ (Ext.mem (s := f.ex) (by (focus ((repeat' (first | exact Ext.none _ | exact Ext.one _ _ | exact Ext.here _ _ | exact Ext.all _ | apply Ext.cons | apply Ext.app | apply Ext.two)); done))) z hz)) (fun x hx => (hall x hx).chg' hw1.chg (fun _ => Off.nil _))); rw [hfcat, ← hdd] at h9; exact h9) | (apply R.callE; (iterate 3 exact rfl); exact Ext.none _; intro w1 hw1; exact new_ok (some ⟨_, 0, none⟩) 32 32 d0 hdl.symm (by decide) w1 (RdSl.of (junk := []) hw1 (by (focus ((repeat' (first | exact At.head | apply At.tail | apply At.right)); done))) (by rw [fl_u8, List.append_nil])); rintro v Lo ⟨bk2, ov2, rfl, hov2, _, rfl⟩) | (apply R.pure; exact rfl; first | (apply Ok1.lenS; (iterate 3 exact rfl)) | (apply Ok1.lenStr; (iterate 3 exact rfl)) | (apply Ok1.lenMm; (iterate 3 exact rfl); (focus ((repeat' (first | exact At.head | apply At.tail | apply At.right)); done))) | (apply Ok1.lenM_nil; (iterate 3 exact rfl)) | (apply Ok1.max2; exact rfl; exact rfl) | (apply Ok1.min2; exact rfl; exact rfl)))); apply R.nil; refine ⟨?_, ?_⟩; (focus ((repeat' (first | exact trivial | (refine ⟨?_, ?_⟩; (focus ((repeat' (first | exact At.head | apply At.tail | apply At.right)); done)))))))) <;> (apply A.two 7 8; kernel_rfl; exact rfl; exact rfl; rotate_left 1; (focus ((((first | (apply R.alloc; (iterate 3 exact rfl); intro) | fail)); apply R.nil; refine ⟨?_, ?_⟩; (focus ((repeat' (first | exact trivial | (refine ⟨?_, ?_⟩; (focus ((repeat' (first | exact At.head | apply At.tail | apply At.right)); done)))))))) <;> (apply A.one 7; kernel_rfl; exact rfl; ((first | (apply R.callE; (iterate 3 exact rfl); exact Ext.none _; intro w1 hw1; exact hfr w1 hw1.chg; rintro v Lo ⟨f, rfl, rfl, hfo, hflen, hfcat, hfrd⟩; rw [slV_eq hfo, List.append_assoc]; rw [hfre] at hfcat; rw [hmapl] at hflen) | (apply R.callV; (iterate 3 exact rfl); intro w1 hw1; have h9 := tag_ok pk k.length ck k rfl hkl hkb (ovp f.ov) f.pts.length (ovc f.ov f.pts.length) f.pts rfl (by rw [hfcat]; exact hfb) (by rw [hfcat]; exact hbig) (by omega) w1 (hpk.chg' hw1.chg (fun _ => Off.nil _)) (RdSl.own' hw1 (Ext.mem (by (focus ((repeat' (first | exact Ext.none _ | exact Ext.one _ _ | exact Ext.here _ _ | exact Ext.all _ | apply Ext.cons | apply Ext.app | apply Ext.two)); done)))) hfo Pt.v_len) (hfrd w1 (fun z hz => hw1.get _ _ (Ext.mem (s := f.ex) (by (focus ((repeat' (first | exact Ext.none _ | exact Ext.one _ _ | exact Ext.here _ _ | exact Ext.all _ | apply Ext.cons | apply Ext.app | apply Ext.two)); done))) z hz)) (fun x hx => (hall x hx).chg' hw1.chg (fun _ => Off.nil _))); rw [hfcat, ← hdd] at h9; exact h9) | (apply R.callE; (iterate 3 exact rfl); exact Ext.none _; intro w1 hw1; exact new_ok (some ⟨_, 0, none⟩) 32 32 d0 hdl.symm (by decide) w1 (RdSl.of (junk := []) hw1 (by (focus ((repeat' (first | exact At.head | apply At.tail | apply At.right)); done))) (by rw [fl_u8, List.append_nil])); rintro v Lo ⟨bk2, ov2, rfl, hov2, _, rfl⟩) | (apply R.pure; exact rfl; first | (apply Ok1.lenS; (iterate 3 exact rfl)) | (apply Ok1.lenStr; (iterate 3 exact rfl)) | (apply Ok1.lenMm; (iterate 3 exact rfl); (focus ((repeat' (first | exact At.head | apply At.tail | apply At.right)); done))) | (apply Ok1.lenM_nil; (iterate 3 exact rfl)) | (apply Ok1.max2; exact rfl; exact rfl) | (apply Ok1.min2; exact rfl; exact rfl)))); apply R.nil; refine ⟨?_, ?_⟩; (focus ((repeat' (first | exact trivial | (refine ⟨?_, ?_⟩; (focus ((repeat' (first | exact At.head | apply At.tail | apply At.right)); done)))))))) <;> (apply A.one 9; kernel_rfl; exact rfl; ((first | (apply R.store; (iterate 4 exact rfl); exact hls; exact hone; (focus ((repeat' (first | exact Upd.head | apply Upd.tail | apply Upd.right)); done)); exact hset _ rfl) | (apply R.store; (iterate 6 exact rfl); (focus ((repeat' (first | exact Upd.head | apply Upd.tail | apply Upd.right)); done)); exact rfl) | fail)); apply R.nil; refine ⟨?_, ?_⟩; (focus ((repeat' (first | exact trivial | (refine ⟨?_, ?_⟩; (focus ((repeat' (first | exact At.head | apply At.tail | apply At.right)); done)))))))) <;> (apply A.done; kernel_rfl))); rotate_right 1; (focus ((((first | (apply R.callE; (iterate 3 exact rfl); exact Ext.none _; intro w1 hw1; exact hfr w1 hw1.chg; rintro v Lo ⟨f, rfl, rfl, hfo, hflen, hfcat, hfrd⟩; rw [slV_eq hfo, List.append_assoc]; rw [hfre] at hfcat; rw [hmapl] at hflen) | (apply R.callV; (iterate 3 exact rfl); intro w1 hw1; have h9 := tag_ok pk k.length ck k rfl hkl hkb (ovp f.ov) f.pts.length (ovc f.ov f.pts.length) f.pts rfl (by rw [hfcat]; exact hfb) (by rw [hfcat]; exact hbig) (by omega) w1 (hpk.chg' hw1.chg (fun _ => Off.nil _)) (RdSl.own' hw1 (Ext.mem (by (focus ((repeat' (first | exact Ext.none _ | exact Ext.one _ _ | exact Ext.here _ _ | exact Ext.all _ | apply Ext.cons | apply Ext.app | apply Ext.two)); done)))) hfo Pt.v_len) (hfrd w1 (fun z hz => hw1.get _ _ (Ext.mem (s := f.ex) (by (focus ((repeat' (first | exact Ext.none _ | exact Ext.one _ _ | exact Ext.here _ _ | exact Ext.all _ | apply Ext.cons | apply Ext.app | apply Ext.two)); done))) z hz)) (fun x hx => (hall x hx).chg' hw1.chg (fun _ => Off.nil _))); rw [hfcat, ← hdd] at h9; exact h9) | (apply R.callE; (iterate 3 exact rfl); exact Ext.none _; intro w1 hw1; exact new_ok (some ⟨_, 0, none⟩) 32 32 d0 hdl.symm (by decide) w1 (RdSl.of (junk := []) hw1 (by (focus ((repeat' (first | exact At.head | apply At.tail | apply At.right)); done))) (by rw [fl_u8, List.append_nil])); rintro v Lo ⟨bk2, ov2, rfl, hov2, _, rfl⟩) | (apply R.pure; exact rfl; first | (apply Ok1.lenS; (iterate 3 exact rfl)) | (apply Ok1.lenStr; (iterate 3 exact rfl)) | (apply Ok1.lenMm; (iterate 3 exact rfl); (focus ((repeat' (first | exact At.head | apply At.tail | apply At.right)); done))) | (apply Ok1.lenM_nil; (iterate 3 exact rfl)) | (apply Ok1.max2; exact rfl; exact rfl) | (apply Ok1.min2; exact rfl; exact rfl)))); apply R.nil; refine ⟨?_, ?_⟩; (focus ((repeat' (first | exact trivial | (refine ⟨?_, ?_⟩; (focus ((repeat' (first | exact At.head | apply At.tail | apply At.right)); done)))))))) <;> (apply A.one 8; kernel_rfl; exact rfl; ((first | (apply R.alloc; (iterate 3 exact rfl); intro) | fail)); apply R.nil; refine ⟨?_, ?_⟩; (focus ((repeat' (first | exact trivial | (refine ⟨?_, ?_⟩; (focus ((repeat' (first | exact At.head | apply At.tail | apply At.right)); done)))))))) <;> (apply A.one 9; kernel_rfl; exact rfl; ((first | (apply R.store; (iterate 4 exact rfl); exact hls; exact hone; (focus ((repeat' (first | exact Upd.head | apply Upd.tail | apply Upd.right)); done)); exact hset _ rfl) | (apply R.store; (iterate 6 exact rfl); (focus ((repeat' (first | exact Upd.head | apply Upd.tail | apply Upd.right)); done)); exact rfl) | fail)); apply R.nil; refine ⟨?_, ?_⟩; (focus ((repeat' (first | exact trivial | (refine ⟨?_, ?_⟩; (focus ((repeat' (first | exact At.head | apply At.tail | apply At.right)); done)))))))) <;> (apply A.done; kernel_rfl))))))))) | apply T.seq | apply T.region | apply T.block | apply T.scope | apply T.label | apply T.skip | apply T.exit | apply T.ret | (apply T.cond_t; exact rfl) | (apply T.cond_f; exact rfl) | (apply T.cond_h; exact rfl; assumption) | (apply T.cond_n; exact rfl; assumption) | (apply T.cond rfl <;> intro)) | apply Rnd.step)
  all_goals (apply RetOk.t; exact rfl)
  all_goals rw [hdl] at hov2
  all_goals refine ⟨_, ?_, bk2, ov2, rfl, hov2, rfl⟩
  all_goals (focus ((repeat' (first | exact Keep.nil _ | exact Ext.one _ _ | exact Ext.here _ _ | exact Ext.all _ | apply Keep.cons | apply Keep.app | apply Keep.last | apply Ext.cons | apply Ext.app)); done))
end Go.Proofs.Ytligngjcnlbgmaa
set_option linter.unusedSimpArgs false
set_option linter.unusedVariables false
namespace Go.Proofs.Ytligngjcnlbgmaa
open Go.RowKit Go.Shelf
set_option maxRecDepth 100000
theorem same_ok (p1 p2 : Option Addr) (n1 n2 c1 c2 : Nat) (xs ys : List Int) (hn1 : n1 = xs.length) (hn2 : n2 = ys.length) (hbig : n1 ≤ 1000000000) (w : World) (h1 : RdSl w p1 u8V xs) (h2 : RdSl w p2 u8V ys) : CallW Try.prog 15 [.slice p1 n1 c1, .slice p2 n2 c2] w fun v _ => v = .bool (decide (xs = ys)) := by
  subst hn1 hn2
  refine enterW (tb := tb) Try.func15 rfl Try.ntmps15 rfl ?_
  by_cases hne : xs.length = ys.length
  · repeat' (first | (apply R.is1; first | (apply R.isBin; first | (apply R.pure; exact rfl; first | (apply Ok1.add64; exact rfl; exact rfl; omega; omega) | (apply Ok1.lss_t; exact rfl; exact rfl; omega) | (apply Ok1.lss_f; exact rfl; exact rfl; omega) | (apply Ok1.neq_t; exact rfl; exact rfl; omega) | (apply Ok1.neq_f; exact rfl; exact rfl; omega) | (apply Ok1.neqP; (iterate 5 exact rfl)) | (apply Ok1.neqM; (iterate 5 exact rfl)) | (apply Ok1.neqS; (iterate 5 exact rfl))) | (apply R.lss rfl rfl rfl <;> intro) | (apply R.neq rfl rfl rfl <;> intro) | (apply R.neqF; (iterate 8 exact rfl); all_goals intro)) | (apply R.isCall; first | (apply R.pure; exact rfl; first | (apply Ok1.lenS; (iterate 3 exact rfl)) | (apply Ok1.lenStr; (iterate 3 exact rfl)) | (apply Ok1.lenMm; (iterate 3 exact rfl); (focus ((repeat' (first | exact At.head | apply At.tail | apply At.right)); done))) | (apply Ok1.lenM_nil; (iterate 3 exact rfl)))) | (apply R.pure; exact rfl; first | (apply Ok1.move; exact rfl) | (apply Ok1.load; exact rfl; first | (apply Ld.own1; exact rfl; exact rfl; (focus ((repeat' (first | exact At.head | apply At.tail | apply At.right)); done)); exact rfl) | (apply Ld.ownk; exact rfl; exact rfl; (focus ((repeat' (first | exact At.head | apply At.tail | apply At.right)); done)); exact rfl) | (apply Ld.old1; exact rfl; exact rfl; assumption; (first | exact List.not_mem_nil | assumption)) | (apply Ld.blk1; exact rfl; exact rfl; assumption; (first | exact List.not_mem_nil | assumption); exact rfl) | (apply Ld.blkk; exact rfl; exact rfl; assumption; (first | exact List.not_mem_nil | assumption); exact rfl)) | (apply Ok1.assign; exact rfl) | (apply Ok1.indexAddr; (iterate 5 exact rfl); omega; omega) | (apply Ok1.indexAddrA; (iterate 5 exact rfl); omega; omega))) | (apply R.is0; first | fail) | (apply R.isG; first | (apply R.guard_run; exact rfl; exact rfl) | (apply R.guard_not; (iterate 3 exact rfl)) | (apply R.guard_not0; exact rfl; exact rfl) | (apply R.guard_un; (iterate 3 exact rfl)) | (apply R.guard_un0; exact rfl; exact rfl) | (apply R.guard rfl rfl ?_ (fun h => ⟨rfl, ?_⟩) <;> try intro)) | apply R.nil | (apply T.is; first | apply T.seq | apply T.region | apply T.block | apply T.scope | apply T.label | apply T.skip | apply T.exit | apply T.ret | (apply T.cond_t; exact rfl) | (apply T.cond_f; exact rfl) | (apply T.cond_h; exact rfl; assumption) | (apply T.cond_n; exact rfl; assumption) | (apply T.cond rfl <;> intro)) | apply Rnd.step)
    apply T.loopK (α := Nat) (I := fun i => i ≤ xs.length ∧ xs.take i = ys.take i) (σi := fun i => [(0, .slice p1 xs.length c1), (1, .slice p2 ys.length c2), (5, .int .i64 i)]) (Li := fun _ => []) (μ := fun i => xs.length - i) (i0 := 0)
    · exact ⟨Nat.zero_le _, rfl⟩
    · exact ⟨rfl, rfl, rfl, trivial⟩
    · (focus ((repeat' (first | exact Keep.nil _ | exact Ext.one _ _ | exact Ext.here _ _ | exact Ext.all _ | apply Keep.cons | apply Keep.app | apply Keep.last | apply Ext.cons | apply Ext.app)); done))
    · intro i ⟨hi, htk⟩
      rcases Nat.lt_or_ge i xs.length with hlt | hge
      · obtain ⟨x, hx⟩ : ∃ x, xs[i]? = some x := ⟨_, List.getElem?_eq_getElem (by omega)⟩
        obtain ⟨y, hy⟩ : ∃ y, ys[i]? = some y := ⟨_, List.getElem?_eq_getElem (by omega)⟩
        obtain ⟨b1, o1, hpe1, H1⟩ := h1.at hx
        obtain ⟨b2, o2, hpe2, H2⟩ := h2.at hy
        replace H1 := H1 1 u8V_len
        replace H2 := H2 1 u8V_len
        by_cases hxy : x = y
        · repeat' (first | (apply R.is1; first | (apply R.isBin; first | (apply R.pure; exact rfl; first | (apply Ok1.add64; exact rfl; exact rfl; omega; omega) | (apply Ok1.lss_t; exact rfl; exact rfl; omega) | (apply Ok1.lss_f; exact rfl; exact rfl; omega) | (apply Ok1.neq_t; exact rfl; exact rfl; omega) | (apply Ok1.neq_f; exact rfl; exact rfl; omega) | (apply Ok1.neqP; (iterate 5 exact rfl)) | (apply Ok1.neqM; (iterate 5 exact rfl)) | (apply Ok1.neqS; (iterate 5 exact rfl))) | (apply R.lss rfl rfl rfl <;> intro) | (apply R.neq rfl rfl rfl <;> intro) | (apply R.neqF; (iterate 8 exact rfl); all_goals intro)) | (apply R.isCall; first | (apply R.pure; exact rfl; first | (apply Ok1.lenS; (iterate 3 exact rfl)) | (apply Ok1.lenStr; (iterate 3 exact rfl)) | (apply Ok1.lenMm; (iterate 3 exact rfl); (focus ((repeat' (first | exact At.head | apply At.tail | apply At.right)); done))) | (apply Ok1.lenM_nil; (iterate 3 exact rfl)))) | (apply R.pure; exact rfl; first | (apply Ok1.indexAddrP; (iterate 4 exact rfl); (first | exact hpe1 | exact hpe2); exact rfl; omega; omega) | (apply Ok1.load; exact rfl; first | (apply Ld.row0 H1; exact rfl; exact List.not_mem_nil; (iterate 3 exact rfl)) | (apply Ld.row0 H2; exact rfl; exact List.not_mem_nil; (iterate 3 exact rfl))) | (apply Ok1.move; exact rfl) | (apply Ok1.load; exact rfl; first | (apply Ld.own1; exact rfl; exact rfl; (focus ((repeat' (first | exact At.head | apply At.tail | apply At.right)); done)); exact rfl) | (apply Ld.ownk; exact rfl; exact rfl; (focus ((repeat' (first | exact At.head | apply At.tail | apply At.right)); done)); exact rfl) | (apply Ld.old1; exact rfl; exact rfl; assumption; (first | exact List.not_mem_nil | assumption)) | (apply Ld.blk1; exact rfl; exact rfl; assumption; (first | exact List.not_mem_nil | assumption); exact rfl) | (apply Ld.blkk; exact rfl; exact rfl; assumption; (first | exact List.not_mem_nil | assumption); exact rfl)) | (apply Ok1.assign; exact rfl) | (apply Ok1.indexAddr; (iterate 5 exact rfl); omega; omega) | (apply Ok1.indexAddrA; (iterate 5 exact rfl); omega; omega))) | (apply R.is0; first | fail) | (apply R.isG; first | (apply R.guard_run; exact rfl; exact rfl) | (apply R.guard_not; (iterate 3 exact rfl)) | (apply R.guard_not0; exact rfl; exact rfl) | (apply R.guard_un; (iterate 3 exact rfl)) | (apply R.guard_un0; exact rfl; exact rfl) | (apply R.guard rfl rfl ?_ (fun h => ⟨rfl, ?_⟩) <;> try intro)) | apply R.nil | (apply T.is; first | (apply T.drawC (id := 6) [] (by decide); ((apply A.take 0; exact rfl; exact rfl; kernel_rfl; kernel_rfl; kernel_rfl; first | (apply Ok1.move; exact rfl)) <;> (apply A.take 1; exact rfl; exact rfl; kernel_rfl; kernel_rfl; kernel_rfl; first | (apply Ok1.move; exact rfl)) <;> (apply A.take 2; exact rfl; exact rfl; kernel_rfl; kernel_rfl; kernel_rfl; first | (apply Ok1.indexAddrP; (iterate 4 exact rfl); (first | exact hpe1 | exact hpe2); exact rfl; omega; omega) | (apply Ok1.indexAddr; (iterate 5 exact rfl); omega; omega) | (apply Ok1.indexAddrA; (iterate 5 exact rfl); omega; omega)) <;> (apply A.take 3; exact rfl; exact rfl; kernel_rfl; kernel_rfl; kernel_rfl; first | (apply Ok1.load; exact rfl; first | (apply Ld.row0 H1; exact rfl; exact List.not_mem_nil; (iterate 3 exact rfl)) | (apply Ld.row0 H2; exact rfl; exact List.not_mem_nil; (iterate 3 exact rfl))) | (apply Ok1.load; exact rfl; first | (apply Ld.own1; exact rfl; exact rfl; (focus ((repeat' (first | exact At.head | apply At.tail | apply At.right)); done)); exact rfl) | (apply Ld.ownk; exact rfl; exact rfl; (focus ((repeat' (first | exact At.head | apply At.tail | apply At.right)); done)); exact rfl) | (apply Ld.old1; exact rfl; exact rfl; assumption; (first | exact List.not_mem_nil | assumption)) | (apply Ld.blk1; exact rfl; exact rfl; assumption; (first | exact List.not_mem_nil | assumption); exact rfl) | (apply Ld.blkk; exact rfl; exact rfl; assumption; (first | exact List.not_mem_nil | assumption); exact rfl))) <;> (apply A.take 4; exact rfl; exact rfl; kernel_rfl; kernel_rfl; kernel_rfl; first | (apply Ok1.move; exact rfl)) <;> (apply A.take 5; exact rfl; exact rfl; kernel_rfl; kernel_rfl; kernel_rfl; first | (apply Ok1.move; exact rfl)) <;> (apply A.take 6; exact rfl; exact rfl; kernel_rfl; kernel_rfl; kernel_rfl; first | (apply Ok1.indexAddrP; (iterate 4 exact rfl); (first | exact hpe1 | exact hpe2); exact rfl; omega; omega) | (apply Ok1.indexAddr; (iterate 5 exact rfl); omega; omega) | (apply Ok1.indexAddrA; (iterate 5 exact rfl); omega; omega)) <;> (apply A.take 7; exact rfl; exact rfl; kernel_rfl; kernel_rfl; kernel_rfl; first | (apply Ok1.load; exact rfl; first | (apply Ld.row0 H1; exact rfl; exact List.not_mem_nil; (iterate 3 exact rfl)) | (apply Ld.row0 H2; exact rfl; exact List.not_mem_nil; (iterate 3 exact rfl))) | (apply Ok1.load; exact rfl; first | (apply Ld.own1; exact rfl; exact rfl; (focus ((repeat' (first | exact At.head | apply At.tail | apply At.right)); done)); exact rfl) | (apply Ld.ownk; exact rfl; exact rfl; (focus ((repeat' (first | exact At.head | apply At.tail | apply At.right)); done)); exact rfl) | (apply Ld.old1; exact rfl; exact rfl; assumption; (first | exact List.not_mem_nil | assumption)) | (apply Ld.blk1; exact rfl; exact rfl; assumption; (first | exact List.not_mem_nil | assumption); exact rfl) | (apply Ld.blkk; exact rfl; exact rfl; assumption; (first | exact List.not_mem_nil | assumption); exact rfl))) <;> (first | (apply A.take 8; exact rfl; exact rfl; kernel_rfl; kernel_rfl; kernel_rfl; first | (apply Ok1.neq_t; exact rfl; exact rfl; omega) | (apply Ok1.neq_f; exact rfl; exact rfl; omega) | (apply Ok1.neqP; (iterate 5 exact rfl)) | (apply Ok1.neqM; (iterate 5 exact rfl)) | (apply Ok1.neqS; (iterate 5 exact rfl))) | (apply A.take 8; exact rfl; exact rfl; kernel_rfl; kernel_rfl; kernel_rfl; (first | (apply Ok1.neq; exact rfl; exact rfl) | (apply Ok1.neqF; (iterate 7 exact rfl))); apply A.dec (t := 25); exact rfl; all_goals intro)) <;> (apply A.done; kernel_rfl))) | apply T.seq | apply T.region | apply T.block | apply T.scope | apply T.label | apply T.skip | apply T.exit | apply T.ret | (apply T.cond_t; exact rfl) | (apply T.cond_f; exact rfl) | (apply T.cond_h; exact rfl; assumption) | (apply T.cond_n; exact rfl; assumption) | (apply T.cond rfl <;> intro)) | apply Rnd.step)
          refine ⟨i + 1, ⟨by omega, ?_⟩, by omega, ⟨rfl, rfl, rfl, trivial⟩, by (focus ((repeat' (first | exact Keep.nil _ | exact Ext.one _ _ | exact Ext.here _ _ | exact Ext.all _ | apply Keep.cons | apply Keep.app | apply Keep.last | apply Ext.cons | apply Ext.app)); done))⟩
          rw [List.take_add_one, List.take_add_one, htk, hx, hy, hxy]
        · repeat' (first | (apply R.is1; first | (apply R.isBin; first | (apply R.pure; exact rfl; first | (apply Ok1.add64; exact rfl; exact rfl; omega; omega) | (apply Ok1.lss_t; exact rfl; exact rfl; omega) | (apply Ok1.lss_f; exact rfl; exact rfl; omega) | (apply Ok1.neq_t; exact rfl; exact rfl; omega) | (apply Ok1.neq_f; exact rfl; exact rfl; omega) | (apply Ok1.neqP; (iterate 5 exact rfl)) | (apply Ok1.neqM; (iterate 5 exact rfl)) | (apply Ok1.neqS; (iterate 5 exact rfl))) | (apply R.lss rfl rfl rfl <;> intro) | (apply R.neq rfl rfl rfl <;> intro) | (apply R.neqF; (iterate 8 exact rfl); all_goals intro)) | (apply R.isCall; first | (apply R.pure; exact rfl; first | (apply Ok1.lenS; (iterate 3 exact rfl)) | (apply Ok1.lenStr; (iterate 3 exact rfl)) | (apply Ok1.lenMm; (iterate 3 exact rfl); (focus ((repeat' (first | exact At.head | apply At.tail | apply At.right)); done))) | (apply Ok1.lenM_nil; (iterate 3 exact rfl)))) | (apply R.pure; exact rfl; first | (apply Ok1.indexAddrP; (iterate 4 exact rfl); (first | exact hpe1 | exact hpe2); exact rfl; omega; omega) | (apply Ok1.load; exact rfl; first | (apply Ld.row0 H1; exact rfl; exact List.not_mem_nil; (iterate 3 exact rfl)) | (apply Ld.row0 H2; exact rfl; exact List.not_mem_nil; (iterate 3 exact rfl))) | (apply Ok1.move; exact rfl) | (apply Ok1.load; exact rfl; first | (apply Ld.own1; exact rfl; exact rfl; (focus ((repeat' (first | exact At.head | apply At.tail | apply At.right)); done)); exact rfl) | (apply Ld.ownk; exact rfl; exact rfl; (focus ((repeat' (first | exact At.head | apply At.tail | apply At.right)); done)); exact rfl) | (apply Ld.old1; exact rfl; exact rfl; assumption; (first | exact List.not_mem_nil | assumption)) | (apply Ld.blk1; exact rfl; exact rfl; assumption; (first | exact List.not_mem_nil | assumption); exact rfl) | (apply Ld.blkk; exact rfl; exact rfl; assumption; (first | exact List.not_mem_nil | assumption); exact rfl)) | (apply Ok1.assign; exact rfl) | (apply Ok1.indexAddr; (iterate 5 exact rfl); omega; omega) | (apply Ok1.indexAddrA; (iterate 5 exact rfl); omega; omega))) | (apply R.is0; first | fail) | (apply R.isG; first | (apply R.guard_run; exact rfl; exact rfl) | (apply R.guard_not; (iterate 3 exact rfl)) | (apply R.guard_not0; exact rfl; exact rfl) | (apply R.guard_un; (iterate 3 exact rfl)) | (apply R.guard_un0; exact rfl; exact rfl) | (apply R.guard rfl rfl ?_ (fun h => ⟨rfl, ?_⟩) <;> try intro)) | apply R.nil | (apply T.is; first | (apply T.drawC (id := 6) [] (by decide); ((apply A.take 0; exact rfl; exact rfl; kernel_rfl; kernel_rfl; kernel_rfl; first | (apply Ok1.move; exact rfl)) <;> (apply A.take 1; exact rfl; exact rfl; kernel_rfl; kernel_rfl; kernel_rfl; first | (apply Ok1.move; exact rfl)) <;> (apply A.take 2; exact rfl; exact rfl; kernel_rfl; kernel_rfl; kernel_rfl; first | (apply Ok1.indexAddrP; (iterate 4 exact rfl); (first | exact hpe1 | exact hpe2); exact rfl; omega; omega) | (apply Ok1.indexAddr; (iterate 5 exact rfl); omega; omega) | (apply Ok1.indexAddrA; (iterate 5 exact rfl); omega; omega)) <;> (apply A.take 3; exact rfl; exact rfl; kernel_rfl; kernel_rfl; kernel_rfl; first | (apply Ok1.load; exact rfl; first | (apply Ld.row0 H1; exact rfl; exact List.not_mem_nil; (iterate 3 exact rfl)) | (apply Ld.row0 H2; exact rfl; exact List.not_mem_nil; (iterate 3 exact rfl))) | (apply Ok1.load; exact rfl; first | (apply Ld.own1; exact rfl; exact rfl; (focus ((repeat' (first | exact At.head | apply At.tail | apply At.right)); done)); exact rfl) | (apply Ld.ownk; exact rfl; exact rfl; (focus ((repeat' (first | exact At.head | apply At.tail | apply At.right)); done)); exact rfl) | (apply Ld.old1; exact rfl; exact rfl; assumption; (first | exact List.not_mem_nil | assumption)) | (apply Ld.blk1; exact rfl; exact rfl; assumption; (first | exact List.not_mem_nil | assumption); exact rfl) | (apply Ld.blkk; exact rfl; exact rfl; assumption; (first | exact List.not_mem_nil | assumption); exact rfl))) <;> (apply A.take 4; exact rfl; exact rfl; kernel_rfl; kernel_rfl; kernel_rfl; first | (apply Ok1.move; exact rfl)) <;> (apply A.take 5; exact rfl; exact rfl; kernel_rfl; kernel_rfl; kernel_rfl; first | (apply Ok1.move; exact rfl)) <;> (apply A.take 6; exact rfl; exact rfl; kernel_rfl; kernel_rfl; kernel_rfl; first | (apply Ok1.indexAddrP; (iterate 4 exact rfl); (first | exact hpe1 | exact hpe2); exact rfl; omega; omega) | (apply Ok1.indexAddr; (iterate 5 exact rfl); omega; omega) | (apply Ok1.indexAddrA; (iterate 5 exact rfl); omega; omega)) <;> (apply A.take 7; exact rfl; exact rfl; kernel_rfl; kernel_rfl; kernel_rfl; first | (apply Ok1.load; exact rfl; first | (apply Ld.row0 H1; exact rfl; exact List.not_mem_nil; (iterate 3 exact rfl)) | (apply Ld.row0 H2; exact rfl; exact List.not_mem_nil; (iterate 3 exact rfl))) | (apply Ok1.load; exact rfl; first | (apply Ld.own1; exact rfl; exact rfl; (focus ((repeat' (first | exact At.head | apply At.tail | apply At.right)); done)); exact rfl) | (apply Ld.ownk; exact rfl; exact rfl; (focus ((repeat' (first | exact At.head | apply At.tail | apply At.right)); done)); exact rfl) | (apply Ld.old1; exact rfl; exact rfl; assumption; (first | exact List.not_mem_nil | assumption)) | (apply Ld.blk1; exact rfl; exact rfl; assumption; (first | exact List.not_mem_nil | assumption); exact rfl) | (apply Ld.blkk; exact rfl; exact rfl; assumption; (first | exact List.not_mem_nil | assumption); exact rfl))) <;> (first | (apply A.take 8; exact rfl; exact rfl; kernel_rfl; kernel_rfl; kernel_rfl; first | (apply Ok1.neq_t; exact rfl; exact rfl; omega) | (apply Ok1.neq_f; exact rfl; exact rfl; omega) | (apply Ok1.neqP; (iterate 5 exact rfl)) | (apply Ok1.neqM; (iterate 5 exact rfl)) | (apply Ok1.neqS; (iterate 5 exact rfl))) | (apply A.take 8; exact rfl; exact rfl; kernel_rfl; kernel_rfl; kernel_rfl; (first | (apply Ok1.neq; exact rfl; exact rfl) | (apply Ok1.neqF; (iterate 7 exact rfl))); apply A.dec (t := 25); exact rfl; all_goals intro)) <;> (apply A.done; kernel_rfl))) | apply T.seq | apply T.region | apply T.block | apply T.scope | apply T.label | apply T.skip | apply T.exit | apply T.ret | (apply T.cond_t; exact rfl) | (apply T.cond_f; exact rfl) | (apply T.cond_h; exact rfl; assumption) | (apply T.cond_n; exact rfl; assumption) | (apply T.cond rfl <;> intro)) | apply Rnd.step)
          all_goals (apply RetOk.t; exact rfl)
          all_goals rw [decide_eq_false]
          intro e
          rw [e, hy] at hx
          cases hx
          exact hxy rfl
      · repeat' (first | (apply R.is1; first | (apply R.isBin; first | (apply R.pure; exact rfl; first | (apply Ok1.add64; exact rfl; exact rfl; omega; omega) | (apply Ok1.lss_t; exact rfl; exact rfl; omega) | (apply Ok1.lss_f; exact rfl; exact rfl; omega) | (apply Ok1.neq_t; exact rfl; exact rfl; omega) | (apply Ok1.neq_f; exact rfl; exact rfl; omega) | (apply Ok1.neqP; (iterate 5 exact rfl)) | (apply Ok1.neqM; (iterate 5 exact rfl)) | (apply Ok1.neqS; (iterate 5 exact rfl))) | (apply R.lss rfl rfl rfl <;> intro) | (apply R.neq rfl rfl rfl <;> intro) | (apply R.neqF; (iterate 8 exact rfl); all_goals intro)) | (apply R.isCall; first | (apply R.pure; exact rfl; first | (apply Ok1.lenS; (iterate 3 exact rfl)) | (apply Ok1.lenStr; (iterate 3 exact rfl)) | (apply Ok1.lenMm; (iterate 3 exact rfl); (focus ((repeat' (first | exact At.head | apply At.tail | apply At.right)); done))) | (apply Ok1.lenM_nil; (iterate 3 exact rfl)))) | (apply R.pure; exact rfl; first | (apply Ok1.move; exact rfl) | (apply Ok1.load; exact rfl; first | (apply Ld.own1; exact rfl; exact rfl; (focus ((repeat' (first | exact At.head | apply At.tail | apply At.right)); done)); exact rfl) | (apply Ld.ownk; exact rfl; exact rfl; (focus ((repeat' (first | exact At.head | apply At.tail | apply At.right)); done)); exact rfl) | (apply Ld.old1; exact rfl; exact rfl; assumption; (first | exact List.not_mem_nil | assumption)) | (apply Ld.blk1; exact rfl; exact rfl; assumption; (first | exact List.not_mem_nil | assumption); exact rfl) | (apply Ld.blkk; exact rfl; exact rfl; assumption; (first | exact List.not_mem_nil | assumption); exact rfl)) | (apply Ok1.assign; exact rfl) | (apply Ok1.indexAddr; (iterate 5 exact rfl); omega; omega) | (apply Ok1.indexAddrA; (iterate 5 exact rfl); omega; omega))) | (apply R.is0; first | fail) | (apply R.isG; first | (apply R.guard_run; exact rfl; exact rfl) | (apply R.guard_not; (iterate 3 exact rfl)) | (apply R.guard_not0; exact rfl; exact rfl) | (apply R.guard_un; (iterate 3 exact rfl)) | (apply R.guard_un0; exact rfl; exact rfl) | (apply R.guard rfl rfl ?_ (fun h => ⟨rfl, ?_⟩) <;> try intro)) | apply R.nil | (apply T.is; first | apply T.seq | apply T.region | apply T.block | apply T.scope | apply T.label | apply T.skip | apply T.exit | apply T.ret | (apply T.cond_t; exact rfl) | (apply T.cond_f; exact rfl) | (apply T.cond_h; exact rfl; assumption) | (apply T.cond_n; exact rfl; assumption) | (apply T.cond rfl <;> intro)) | apply Rnd.step)
        (apply RetOk.t; exact rfl)
        rw [List.take_of_length_le hge, List.take_of_length_le (by omega)] at htk
        rw [decide_eq_true htk]
  · repeat' (first | (apply R.is1; first | (apply R.isBin; first | (apply R.pure; exact rfl; first | (apply Ok1.add64; exact rfl; exact rfl; omega; omega) | (apply Ok1.lss_t; exact rfl; exact rfl; omega) | (apply Ok1.lss_f; exact rfl; exact rfl; omega) | (apply Ok1.neq_t; exact rfl; exact rfl; omega) | (apply Ok1.neq_f; exact rfl; exact rfl; omega) | (apply Ok1.neqP; (iterate 5 exact rfl)) | (apply Ok1.neqM; (iterate 5 exact rfl)) | (apply Ok1.neqS; (iterate 5 exact rfl))) | (apply R.lss rfl rfl rfl <;> intro) | (apply R.neq rfl rfl rfl <;> intro) | (apply R.neqF; (iterate 8 exact rfl); all_goals intro)) | (apply R.isCall; first | (apply R.pure; exact rfl; first | (apply Ok1.lenS; (iterate 3 exact rfl)) | (apply Ok1.lenStr; (iterate 3 exact rfl)) | (apply Ok1.lenMm; (iterate 3 exact rfl); (focus ((repeat' (first | exact At.head | apply At.tail | apply At.right)); done))) | (apply Ok1.lenM_nil; (iterate 3 exact rfl)))) | (apply R.pure; exact rfl; first | (apply Ok1.move; exact rfl) | (apply Ok1.load; exact rfl; first | (apply Ld.own1; exact rfl; exact rfl; (focus ((repeat' (first | exact At.head | apply At.tail | apply At.right)); done)); exact rfl) | (apply Ld.ownk; exact rfl; exact rfl; (focus ((repeat' (first | exact At.head | apply At.tail | apply At.right)); done)); exact rfl) | (apply Ld.old1; exact rfl; exact rfl; assumption; (first | exact List.not_mem_nil | assumption)) | (apply Ld.blk1; exact rfl; exact rfl; assumption; (first | exact List.not_mem_nil | assumption); exact rfl) | (apply Ld.blkk; exact rfl; exact rfl; assumption; (first | exact List.not_mem_nil | assumption); exact rfl)) | (apply Ok1.assign; exact rfl) | (apply Ok1.indexAddr; (iterate 5 exact rfl); omega; omega) | (apply Ok1.indexAddrA; (iterate 5 exact rfl); omega; omega))) | (apply R.is0; first | fail) | (apply R.isG; first | (apply R.guard_run; exact rfl; exact rfl) | (apply R.guard_not; (iterate 3 exact rfl)) | (apply R.guard_not0; exact rfl; exact rfl) | (apply R.guard_un; (iterate 3 exact rfl)) | (apply R.guard_un0; exact rfl; exact rfl) | (apply R.guard rfl rfl ?_ (fun h => ⟨rfl, ?_⟩) <;> try intro)) | apply R.nil | (apply T.is; first | apply T.seq | apply T.region | apply T.block | apply T.scope | apply T.label | apply T.skip | apply T.exit | apply T.ret | (apply T.cond_t; exact rfl) | (apply T.cond_f; exact rfl) | (apply T.cond_h; exact rfl; assumption) | (apply T.cond_n; exact rfl; assumption) | (apply T.cond rfl <;> intro)) | apply Rnd.step)
    all_goals (apply RetOk.t; exact rfl)
    all_goals rw [decide_eq_false]
    exact fun e => hne (by rw [e])
end Go.Proofs.Ytligngjcnlbgmaa
set_option linter.unusedSimpArgs false
set_option linter.unusedVariables false
namespace Go.Proofs.Ytligngjcnlbgmaa
open Go.RowKit Go.Shelf
set_option maxRecDepth 100000
section
variable {X : Cx} {σ : Env} {L : Lst} {d : Option Nat} {ty ty2 t : TypeId} {pos : String} {af : Array Edge} {g : Option (Nat × Bool)} {x y : Operand} {k : IntKind} {i j : Int}
end
def cB : Code → Code | .block _ c => c | .loop c => c | c => c
end Go.Proofs.Ytligngjcnlbgmaa
set_option linter.unusedSimpArgs false
set_option linter.unusedVariables false
namespace Go.Proofs.Ytligngjcnlbgmaa
open Go.RowKit Go.Shelf
set_option maxRecDepth 100000
/-- Bytes that can be read in each world in which the blocks ex are as they are told. -/
def RdX (w : World) (p : Option Addr) (ex : Lst) (k : List Int) : Prop := k = [] ∨ ∃ b o, p = some ⟨b, o, none⟩ ∧ ∀ w1 L1, Hp w [] L1 w1 → (∀ z ∈ ex, z ∈ L1) → ∀ (i : Nat) v, k[i]? = some v → w1.cell? ⟨b, o + (i : Int).toNat * 1, none⟩ = some (.int .u8 v)
theorem RdX.of {w : World} {p : Option Addr} {k : List Int} (h : RdSl w p u8V k) : RdX w p [] k := by
  rcases h with h | ⟨b, o, hp, h⟩
  · exact .inl h
  · refine .inr ⟨b, o, hp, fun w1 L1 hw1 _ i v hv => ?_⟩
    obtain ⟨hi, rfl⟩ := List.getElem?_eq_some_iff.1 hv
    rw [fl_u8] at h
    rw [show o + (i : Int).toNat * 1 = o + i by omega]
    refine hw1.old ((h i (by rw [u8s_len]; exact hi)).trans ?_) List.not_mem_nil
    simp [u8s, hi]
theorem RdX.own {w : World} {b : Nat} {e : TypeId} {fz : Nat × Nat} {k : List Int} : RdX w (some ⟨b, 0, none⟩) [(b, .cells ⟨u8s k⟩ e fz)] k := by
  refine .inr ⟨b, 0, rfl, fun w1 L1 hw1 hin i v hv => ?_⟩
  obtain ⟨hi, rfl⟩ := List.getElem?_eq_some_iff.1 hv
  have h1 := hw1.get b _ (hin _ List.mem_cons_self)
  rw [show 0 + (i : Int).toNat * 1 = i by omega]
  simp [World.cell?, h1, u8s, hi]
end Go.Proofs.Ytligngjcnlbgmaa
set_option linter.unusedSimpArgs false
set_option linter.unusedVariables false
namespace Go.Proofs.Ytligngjcnlbgmaa
open Go.RowKit Go.Shelf
set_option maxRecDepth 100000
def fr (ps : List Pt) : List Int := frameI (ps.map (·.xs))
end Go.Proofs.Ytligngjcnlbgmaa
set_option linter.unusedSimpArgs false
set_option linter.unusedVariables false
namespace Go.Proofs.Ytligngjcnlbgmaa
open Go.RowKit Go.Shelf
set_option maxRecDepth 100000
structure Cl where
  id : Int
  roles : Int
  exp : Int
  ser : Int
  deriving DecidableEq
instance : Inhabited Cl := ⟨⟨0, 0, 0, 0⟩⟩
def Cl.v (c : Cl) : List Value := [.int .i64 c.id, .int .i64 c.roles, .int .i64 c.exp, .int .i64 c.ser]
def kvC (c : Cl) : Value := .agg ⟨[.int .i64 c.id, .int .i64 c.roles, .int .i64 c.exp, .int .i64 c.ser]⟩
def Cl.right (c : Cl) : Prop := 1 ≤ c.id ∧ c.id ≤ 65535 ∧ 0 ≤ c.roles ∧ c.roles ≤ 255 ∧ 0 ≤ c.exp ∧ c.exp ≤ 1073741824 ∧ 1 ≤ c.ser ∧ c.ser ≤ 65535
instance (c : Cl) : Decidable c.right := by unfold Cl.right; infer_instance

def cmpI (x y : Int) : Int := if x < y then -1 else if y < x then 1 else 0
theorem isNaN_ok (x : Int) : CallP Try.prog 44 [.int .i64 x] (.bool false) := by
  refine enterP (tb := tb) Try.func44 rfl Try.ntmps44 rfl fun w => ?_
  repeat' (first | (apply R.is1; first | (apply R.isBin; first | (apply R.pure; exact rfl; first | (apply Ok1.neq_t; exact rfl; exact rfl; omega) | (apply Ok1.neq_f; exact rfl; exact rfl; omega) | (apply Ok1.neqP; (iterate 5 exact rfl)) | (apply Ok1.neqM; (iterate 5 exact rfl)) | (apply Ok1.neqS; (iterate 5 exact rfl))) | (apply R.neq rfl rfl rfl <;> intro) | (apply R.neqF; (iterate 8 exact rfl); all_goals intro)) | (apply R.pure; exact rfl; first | (apply Ok1.move; exact rfl) | (apply Ok1.assign; exact rfl))) | (apply R.is0; first | fail) | (apply R.isG; first | (apply R.guard_run; exact rfl; exact rfl) | (apply R.guard_not; (iterate 3 exact rfl)) | (apply R.guard_not0; exact rfl; exact rfl) | (apply R.guard_un; (iterate 3 exact rfl)) | (apply R.guard_un0; exact rfl; exact rfl) | (apply R.guard rfl rfl ?_ (fun h => ⟨rfl, ?_⟩) <;> try intro)) | apply R.nil | (apply T.is; first | apply T.seq | apply T.region | apply T.block | apply T.scope | apply T.label | apply T.skip | apply T.exit | apply T.ret | (apply T.cond_t; exact rfl) | (apply T.cond_f; exact rfl) | (apply T.cond_h; exact rfl; assumption) | (apply T.cond_n; exact rfl; assumption) | (apply T.cond rfl <;> intro)) | apply Rnd.step)
  (apply RetOk.t; exact rfl)
  rfl
theorem cmp_ok (x y : Int) : CallP Try.prog 34 [.int .i64 x, .int .i64 y] (.int .i64 (cmpI x y)) := by
  refine enterP (tb := tb) Try.func34 rfl Try.ntmps34 rfl fun w => ?_
  repeat' (first | (apply R.is1; first | (apply R.isBin; first | (apply R.pure; exact rfl; first | (apply Ok1.lss_t; exact rfl; exact rfl; omega) | (apply Ok1.lss_f; exact rfl; exact rfl; omega) | (apply Ok1.gtr_t; exact rfl; exact rfl; omega) | (apply Ok1.gtr_f; exact rfl; exact rfl; omega)) | (apply R.lss rfl rfl rfl <;> intro) | (apply R.gtr rfl rfl rfl <;> intro)) | (apply R.isCall; first | apply R.callP rfl rfl rfl (isNaN_ok _)) | (apply R.pure; exact rfl; first | (apply Ok1.move; exact rfl) | (apply Ok1.assign; exact rfl))) | (apply R.is0; first | fail) | (apply R.isG; first | (apply R.guard_run; exact rfl; exact rfl) | (apply R.guard_not; (iterate 3 exact rfl)) | (apply R.guard_not0; exact rfl; exact rfl) | (apply R.guard_un; (iterate 3 exact rfl)) | (apply R.guard_un0; exact rfl; exact rfl) | (apply R.guard rfl rfl ?_ (fun h => ⟨rfl, ?_⟩) <;> try intro)) | apply R.nil | (apply T.is; first | apply T.seq | apply T.region | apply T.block | apply T.scope | apply T.label | apply T.skip | apply T.exit | apply T.ret | (apply T.cond_t; exact rfl) | (apply T.cond_f; exact rfl) | (apply T.cond_h; exact rfl; assumption) | (apply T.cond_n; exact rfl; assumption) | (apply T.cond rfl <;> intro)) | apply Rnd.step)
  all_goals (apply RetOk.t; exact rfl)
  all_goals simp only [cmpI]
  all_goals first | rw [if_pos (by omega)] | (rw [if_neg (by omega), if_pos (by omega)]) | (rw [if_neg (by omega), if_neg (by omega)])
end Go.Proofs.Ytligngjcnlbgmaa
set_option linter.unusedSimpArgs false
set_option linter.unusedVariables false
namespace Go.Proofs.Ytligngjcnlbgmaa
open Go.RowKit Go.Shelf
set_option maxRecDepth 100000
theorem RdSl.mid {w0 w : World} {S : List Nat} {L : Lst} {b : Nat} {e : TypeId} {fz : Nat × Nat} {pre junk : List Value} {xs : List Int} (hw : Hp w0 S L w) (hat : At L b (.cells ⟨pre ++ u8s xs ++ junk⟩ e fz)) {o : Nat} (ho : o = pre.length) : RdSl w (some ⟨b, o, none⟩) u8V xs := by
  subst ho
  right
  refine ⟨b, pre.length, rfl, fun k hk => ?_⟩
  have h1 := hw.get b _ hat.mem
  rw [fl_u8] at hk ⊢
  simp only [World.cell?, h1]
  simp only [List.append_assoc, List.getElem?_toArray]
  rw [List.getElem?_append_right (by omega), List.getElem?_append_left (by omega), Nat.add_sub_cancel_left]
  rfl
end Go.Proofs.Ytligngjcnlbgmaa
set_option linter.unusedSimpArgs false
set_option linter.unusedVariables false
namespace Go.Proofs.Ytligngjcnlbgmaa
open Go.ChangeShapes Go.WideShapes Go.ChangeAt Go.RowKit
theorem Try.own : ownKnob Try.prog.godebug = none := by kernel_rfl
def byKs : List TK := [.int .u8]
theorem by_dec : ∀ cs, allW byKs cs → ∃ x : Int, u8V x = cs := by
  rintro cs h
  simp only [byKs] at h
  match cs, h with
  | [.int k1 a], h =>
    obtain ⟨⟨rfl, _⟩, _⟩ := h
    exact ⟨a, rfl⟩
theorem byt_of {xs : List Int} (h : ∀ x ∈ xs, allW byKs (u8V x)) : Byt xs := by
  intro x hx
  obtain ⟨⟨_, h2⟩, _⟩ := h x hx
  have e0 : IntKind.u8.min = 0 := rfl
  have e1 : IntKind.u8.max = 255 := rfl
  omega
end Go.Proofs.Ytligngjcnlbgmaa
set_option linter.unusedSimpArgs false
set_option linter.unusedVariables false
namespace Go.Proofs.Ytligngjcnlbgmaa
open Go.RowKit Go.Shelf
set_option maxRecDepth 100000
theorem len64_ok (x : Int) (h0 : 0 ≤ x) (h1 : x ≤ 18446744073709551615) : CallP Try.prog 62 [.int .u64 x] (.int .i64 (blen x.toNat)) := by
  refine enterP (tb := tb) Try.func62 rfl Try.ntmps62 rfl fun w => ?_
  repeat' (first | (apply R.is1; first | (apply R.isBin; first | (apply R.pure; exact rfl; first | (apply Ok1.add64; exact rfl; exact rfl; omega; omega) | (apply Ok1.geq_t; exact rfl; exact rfl; omega) | (apply Ok1.geq_f; exact rfl; exact rfl; omega) | (apply Ok1.shr; exact rfl; exact rfl; omega; exact Nat.le_of_ble_eq_true rfl; (first | exact pwE1 | exact pwE2 | exact pwE3 | exact pwE4 | exact pwE5 | exact pwE6 | exact pwE7 | exact pwE8 | exact pwE16 | exact pwE24 | exact pwE32 | exact rfl))) | (apply R.geq rfl rfl rfl <;> intro)) | (apply R.pure; exact rfl; first | (apply Ok1.len8; (iterate 4 exact rfl); omega; omega; kernel_rfl) | (apply Ok1.move; exact rfl) | (apply Ok1.assign; exact rfl) | (apply Ok1.index1; (iterate 6 exact rfl); omega; omega; exact rfl) | (apply Ok1.indexk; (iterate 6 exact rfl); omega; omega; exact rfl) | (apply Ok1.convI64; (iterate 5 exact rfl); omega; omega) | (apply Ok1.convU64; (iterate 5 exact rfl); omega; omega) | (apply Ok1.convU32; (iterate 5 exact rfl); omega; omega) | (apply Ok1.convU8; (iterate 5 exact rfl); omega; omega) | (apply Ok1.conv; (iterate 5 exact rfl)))) | (apply R.is0; first | fail) | (apply R.isG; first | (apply R.guard_run; exact rfl; exact rfl) | (apply R.guard_not; (iterate 3 exact rfl)) | (apply R.guard_not0; exact rfl; exact rfl) | (apply R.guard_un; (iterate 3 exact rfl)) | (apply R.guard_un0; exact rfl; exact rfl) | (apply R.guard rfl rfl ?_ (fun h => ⟨rfl, ?_⟩) <;> try intro)) | apply R.nil | (apply T.is; first | apply T.seq | apply T.region | apply T.block | apply T.scope | apply T.label | apply T.skip | apply T.exit | apply T.ret | (apply T.cond_t; exact rfl) | (apply T.cond_f; exact rfl) | (apply T.cond_h; exact rfl; assumption) | (apply T.cond_n; exact rfl; assumption) | (apply T.cond rfl <;> intro)) | apply Rnd.step)
  all_goals (apply RetOk.t; exact rfl)
  all_goals congr 1
  all_goals rw [Nat.min_eq_left (blen_le 8 (by omega))]
  all_goals first
    | (rw [blen32 (x := x.toNat) (by omega), blen16 (x := x.toNat / 4294967296) (by omega), blen8 (x := x.toNat / 4294967296 / 65536) (by omega), show (x / 4294967296 / 65536 / 256).toNat = x.toNat / 4294967296 / 65536 / 256 by omega]; omega)
    | (rw [blen32 (x := x.toNat) (by omega), blen16 (x := x.toNat / 4294967296) (by omega), show (x / 4294967296 / 65536).toNat = x.toNat / 4294967296 / 65536 by omega]; omega)
    | (rw [blen32 (x := x.toNat) (by omega), blen8 (x := x.toNat / 4294967296) (by omega), show (x / 4294967296 / 256).toNat = x.toNat / 4294967296 / 256 by omega]; omega)
    | (rw [blen32 (x := x.toNat) (by omega), show (x / 4294967296).toNat = x.toNat / 4294967296 by omega]; omega)
    | (rw [blen16 (x := x.toNat) (by omega), blen8 (x := x.toNat / 65536) (by omega), show (x / 65536 / 256).toNat = x.toNat / 65536 / 256 by omega]; omega)
    | (rw [blen16 (x := x.toNat) (by omega), show (x / 65536).toNat = x.toNat / 65536 by omega]; omega)
    | (rw [blen8 (x := x.toNat) (by omega), show (x / 256).toNat = x.toNat / 256 by omega]; omega)
    | omega
theorem len_ok (x : Int) (h0 : 0 ≤ x) (h1 : x ≤ 18446744073709551615) : CallP Try.prog 43 [.int .u64 x] (.int .i64 (blen x.toNat)) := by
  refine enterP (tb := tb) Try.func43 rfl Try.ntmps43 rfl fun w => ?_
  repeat' (first | (apply R.is1; first | (apply R.isCall; first | apply R.callP rfl rfl rfl (len64_ok _ (by omega) (by omega))) | (apply R.pure; exact rfl; first | (apply Ok1.move; exact rfl) | (apply Ok1.assign; exact rfl) | (apply Ok1.convI64; (iterate 5 exact rfl); omega; omega) | (apply Ok1.convU64; (iterate 5 exact rfl); omega; omega) | (apply Ok1.convU32; (iterate 5 exact rfl); omega; omega) | (apply Ok1.convU8; (iterate 5 exact rfl); omega; omega) | (apply Ok1.conv; (iterate 5 exact rfl)))) | (apply R.is0; first | fail) | (apply R.isG; first | (apply R.guard_run; exact rfl; exact rfl) | (apply R.guard_not; (iterate 3 exact rfl)) | (apply R.guard_not0; exact rfl; exact rfl) | (apply R.guard_un; (iterate 3 exact rfl)) | (apply R.guard_un0; exact rfl; exact rfl) | (apply R.guard rfl rfl ?_ (fun h => ⟨rfl, ?_⟩) <;> try intro)) | apply R.nil | (apply T.is; first | apply T.seq | apply T.region | apply T.block | apply T.scope | apply T.label | apply T.skip | apply T.exit | apply T.ret | (apply T.cond_t; exact rfl) | (apply T.cond_f; exact rfl) | (apply T.cond_h; exact rfl; assumption) | (apply T.cond_n; exact rfl; assumption) | (apply T.cond rfl <;> intro)) | apply Rnd.step)
  all_goals (apply RetOk.t; exact rfl)
  rfl
end Go.Proofs.Ytligngjcnlbgmaa
set_option linter.unusedSimpArgs false
set_option linter.unusedVariables false
namespace Go.Proofs.Ytligngjcnlbgmaa
open Go.RowKit Go.Shelf Go.Sort
theorem cmpI_neg (x y : Int) : cmpI x y < 0 ↔ x < y := by
  unfold cmpI
  repeat' split
  all_goals omega
theorem cmpI_zero (x y : Int) : cmpI x y = 0 ↔ x = y := by
  unfold cmpI
  repeat' split
  all_goals omega
end Go.Proofs.Ytligngjcnlbgmaa
set_option linter.unusedSimpArgs false
set_option linter.unusedVariables false
set_option linter.unusedSectionVars false
namespace Go.Proofs.Ytligngjcnlbgmaa
open Go.RowKit Go.Shelf Go.Sort
section
variable {α : Type} [Inhabited α] {enc : α → List Value} {k : Nat}
theorem flatK_get (hk : ∀ x, (enc x).length = k) (d : Array α) {t : Nat} (ht : t < d.size * k) : (flatK enc k d)[t]? = (fl enc d.toList)[t]? := by
  have k0 : 0 < k := by rcases Nat.eq_zero_or_pos k with h | h; · subst h; simp at ht
                        · exact h
  have hdm := Nat.div_add_mod t k
  have hml := Nat.mod_lt t k0
  have hil : t / k < d.size := by rw [Nat.div_lt_iff_lt_mul k0]; exact ht
  have hg : d.toList[t / k]? = some d[t / k]! := by simp [hil]
  have h5 := fl_get hk hg hml
  rw [show t / k * k + t % k = t by rw [Nat.mul_comm]; exact hdm] at h5
  rw [h5]
  have h6 := get_flatK enc k d t ht
  rw [getElem!_pos _ t (by simpa using ht)] at h6
  rw [Array.getElem?_eq_getElem (by simpa using ht), h6, List.getElem?_eq_getElem (by rw [hk]; exact hml), getElem!_pos _ _ (by rw [hk]; exact hml)]
theorem putCells_own (hk : ∀ x, (enc x).length = k) (d : Array α) {old junk : List Value} (ho : old.length = d.size * k) :
    putCells id 0 (flatK enc k d) ⟨old ++ junk⟩ = ⟨fl enc d.toList ++ junk⟩ := by
  apply Array.ext_getElem?
  intro t
  have hl : (fl enc d.toList).length = d.size * k := by rw [fl_len hk]; simp
  simp only [putCells, Array.getElem?_mapIdx, Nat.zero_le, true_and, Nat.zero_add, Nat.sub_zero, size_flatK, id, List.getElem?_toArray]
  by_cases ht : t < d.size * k
  · rw [List.getElem?_append_left (by omega), List.getElem?_append_left (by omega), List.getElem?_eq_getElem (by omega), ← flatK_get hk d ht]
    simp [ht]
  · rw [List.getElem?_append_right (by omega), List.getElem?_append_right (by omega), ho, hl]
    cases junk[t - d.size * k]? with
    | none => rfl
    | some v => simp [ht]

theorem sortWorld_own (hk : ∀ x, (enc x).length = k) {w : World} {b m : Nat} {d : Array α} {os : Array Obj} {old junk : List Value} {e : TypeId} {fz : Nat × Nat} (hb : w.heap[b]? = some (.cells ⟨old ++ junk⟩ e fz)) (ho : old.length = d.size * k) :
    Chg [b] w (sortWorldK enc k w b 0 m d os) ∧ (sortWorldK enc k w b 0 m d os).heap[b]? = some (.cells ⟨fl enc d.toList ++ junk⟩ e fz) := by
  have hlt := (Array.getElem?_eq_some_iff.1 hb).1
  refine ⟨⟨rfl, rfl, rfl, ?_, ?_, ?_⟩, ?_⟩
  · simp [sortWorldK, grow, putRowK, putRow, mapBlock, Sort.ahead]
  · simp [sortWorldK, grow, putRowK, putRow, mapBlock, Sort.ahead]
  · intro i hi hs
    have hne : b ≠ i := fun h => hs (by simp [h])
    simp [sortWorldK, grow, putRowK, putRow, mapBlock, Sort.ahead, Array.getElem?_append, hi, Array.getElem_modify, hne]
  · simp only [sortWorldK, grow, putRowK, putRow, mapBlock, Sort.ahead]
    rw [Array.getElem?_append_left (by simpa using hlt), Array.getElem?_modify, if_pos rfl, hb]
    simp only [Option.map_some, onCells, putCells_own hk d ho]

/-- Ascending: no later one is less than an earlier one. -/
def Asc (cf : α → α → Int) (rs : List α) : Prop := rs.Pairwise fun a b => ¬ cf b a < 0

/-- What the program's slices.SortFunc does to an own slice of rows. -/
theorem sort_ok {P : Program} {ρ : Ren} (L : SlLaysF0.n6 P ρ) (aE : ∀ w, (isAgg (ρ.t 24)).run P w = .ok true w) (zE : ∀ w, (Go.sizeOf (ρ.t 24)).run P w = .ok k w) (hk : ∀ x, (enc x).length = k) (h1 : ∀ x, ∀ v ∈ enc x, v.oneCell' = true) (cf : α → α → Int) (hO : SWO (ltOf cf)) (g : Nat) (cb : List Value) {f : FuncId} (hf : ρ.f 6 = f)
    (b cap : Nat) (rs : List α) (junk : List Value) (e : TypeId) (w : World) (he : Enters P g) (hsz : rs.length ≤ 1000000)
    (hcmp : ∀ W, Chg [b] w W → ∀ x y, CallW P g ([.agg ⟨enc x⟩, .agg ⟨enc y⟩] ++ cb) W fun v _ => v = .int .i64 (cf x y)) :
    CallM P f [.slice (some ⟨b, 0, none⟩) rs.length cap, .func (.func g) #[] cb.toArray] [(b, .cells ⟨fl enc rs ++ junk⟩ e (0, 0))] w fun v L' => v = .tuple #[] ∧ ∃ rs' : List α, rs'.Perm rs ∧ Asc cf rs' ∧ L' = [(b, .cells ⟨fl enc rs' ++ junk⟩ e (0, 0))] :=
  ⟨fun hw => by
    subst hf
    have hb := hw.get b _ List.mem_cons_self
    have hlt := (Array.getElem?_eq_some_iff.1 hb).1
    have hfl : (fl enc rs).length = rs.length * k := fl_len hk rs
    have hH : HoldsK enc k w b 0 rs.toArray := by
      intro j hj
      have hj' : j < rs.length * k := by simpa using hj
      have h2 := flatK_get hk rs.toArray (t := j) (by simpa using hj')
      refine ⟨?_, ?_⟩
      · simp only [World.cell?, hb, Nat.zero_add]
        rw [getElem!_pos _ j hj]
        rw [Array.getElem?_eq_getElem hj] at h2
        simp only [id, h2]
        simp [List.getElem?_append_left, hfl, hj']
      · simp [World.frozen?, hb]
    have hcm : CmpLays P g cb.toArray enc k cf b 0 rs.toArray.size w := by
      intro m os dk hs x y
      have hc := (sortWorld_own hk (m := m) (d := dk) (os := os) hb (by rw [hfl, hs]; simp)).1
      have := (hcmp _ hc x y).run
      have e1 : (#[Value.agg (enc x).toArray, Value.agg (enc y).toArray] ++ cb.toArray : Array Value) = ([Value.agg ⟨enc x⟩, Value.agg ⟨enc y⟩] ++ cb).toArray := by simp
      rw [e1]
      refine Calls.mono this ?_
      rintro e w' ⟨v, h3, h4, h5⟩
      exact ⟨by rw [h3, h4], h5.grow⟩
    have := AnyQ.slices_SortFunc L k aE zE enc hk h1 cf hO g cb.toArray b 0 cap rs.toArray w he hcm hH hlt (by simp; omega)
    have e0 : rs.toArray.size = rs.length := by simp
    rw [e0] at this
    refine Calls.mono this ?_
    rintro e' w' ⟨h3, d', n, os, hp, hs, hw'⟩
    have hds : d'.size = rs.length := by simpa using hp.1
    obtain ⟨g1, g2⟩ := sortWorld_own hk (m := n) (d := d') (os := os) hb (by rw [hfl, hds])
    refine ⟨.tuple #[], [(b, .cells ⟨fl enc d'.toList ++ junk⟩ e (0, 0))], h3, ⟨rfl, d'.toList, ?_, ?_, rfl⟩, ?_⟩
    · have h4 := hp.2.2
      have e1 : d'.extract 0 rs.length = d' := by rw [← hds]; simp
      have e2 : rs.toArray.extract 0 rs.length = rs.toArray := by rw [← e0]; simp
      rw [e1, e2] at h4
      exact h4
    · refine List.pairwise_iff_getElem.2 fun i j hi hj hij => ?_
      have h4 := hs i j (Nat.zero_le _) hij (by simp at hj ⊢; omega)
      simp only [ltOf, decide_eq_false_iff_not] at h4
      simp only [Array.length_toList] at hi hj
      rw [getElem!_pos d' i (by omega), getElem!_pos d' j (by omega)] at h4
      exact h4
    · rw [hw']
      exact hw.upd .head g1 g2⟩
end
end Go.Proofs.Ytligngjcnlbgmaa
set_option linter.unusedSimpArgs false
set_option linter.unusedVariables false
namespace Go.Proofs.Ytligngjcnlbgmaa
open Go.RowKit Go.Shelf
set_option maxRecDepth 100000
structure Rm where
  kind : Int
  cl : Cl
  inc : Int
  deriving DecidableEq
def Rm.v (r : Rm) : List Value := [.int .i64 r.kind, .int .i64 r.cl.id, .int .i64 r.cl.roles, .int .i64 r.cl.exp, .int .i64 r.cl.ser, .int .i64 r.inc]
theorem Rm.v_len (r : Rm) : r.v.length = 6 := rfl
def Rm.chk (r : Rm) : Int := if r.kind < 0 ∨ 3 ≤ r.kind then 13 else if ¬ r.cl.right ∨ r.inc < 0 ∨ 2147483647 < r.inc then 10 else 0
def Rm.outw (a b : Rm) : Bool := decide (a.cl = b.cl ∧ (a.inc > b.inc ∨ a.inc = b.inc ∧ a.kind > b.kind))
theorem clv_inj {a b : Cl} : ([.int .i64 a.id, .int .i64 a.roles, .int .i64 a.exp, .int .i64 a.ser] : List Value) = [.int .i64 b.id, .int .i64 b.roles, .int .i64 b.exp, .int .i64 b.ser] ↔ a = b := by
  simp only [List.cons.injEq, Value.int.injEq, true_and, and_true]
  constructor
  · rintro ⟨h1, h2, h3, h4⟩
    cases a; cases b; simp_all
  · rintro h; simp [h]
end Go.Proofs.Ytligngjcnlbgmaa
set_option linter.unusedSimpArgs false
set_option linter.unusedVariables false
namespace Go.Proofs.Ytligngjcnlbgmaa
open Go.RowKit Go.Shelf
set_option maxRecDepth 100000
def entV (x : Rm × Int) : List Value := [.int .i64 x.1.kind, .int .i64 x.1.cl.id, .int .i64 x.1.cl.roles, .int .i64 x.1.cl.exp, .int .i64 x.1.cl.ser, .int .i64 x.1.inc, .int .i64 x.2]
def vvQ (x : Rm × Int) : Value := .agg ⟨entV x⟩
abbrev QMs := Ms Cl (Rm × Int)
abbrev QS := Option (Nat × QMs × Nat)
def QS.ms (st : QS) : QMs := match st with | none => [] | some (_, ms, _) => ms
def adde (ms : QMs) (r : Rm) : Int := if r.chk ≠ 0 then r.chk else match mget r.cl ms with
  | some h => if r.outw h.1 then 0 else 9
  | none => if ms.length = 32 then 6 else 0
inductive QSame : QS → QS → Prop where
  | same (st : QS) : QSame st st
  | made (b : Nat) : QSame none (some (b, [], 0))

end Go.Proofs.Ytligngjcnlbgmaa
set_option linter.unusedSimpArgs false
set_option linter.unusedVariables false
namespace Go.Proofs.Ytligngjcnlbgmaa
open Go.RowKit Go.Shelf
set_option maxRecDepth 100000
theorem adde_bad {ms : QMs} {r : Rm} (h : r.chk ≠ 0) : adde ms r = r.chk := by simp only [adde, if_pos h]
theorem adde_some {ms : QMs} {r : Rm} (h : r.chk = 0) {x : Rm × Int} (hm : mget r.cl ms = some x) : adde ms r = if r.outw x.1 then 0 else 9 := by
  unfold adde; rw [if_neg (by simpa using h), hm]
theorem adde_none {ms : QMs} {r : Rm} (h : r.chk = 0) (hm : mget r.cl ms = none) : adde ms r = if ms.length = 32 then 6 else 0 := by
  unfold adde; rw [if_neg (by simpa using h), hm]
end Go.Proofs.Ytligngjcnlbgmaa
set_option linter.unusedSimpArgs false
set_option linter.unusedVariables false
namespace Go.Proofs.Ytligngjcnlbgmaa
open Go.RowKit Go.Shelf
set_option maxRecDepth 100000
def or2 (a b : Int) : Int := if a ≠ 0 then a else b
theorem or2_ok (a b : Int) (bl e : Nat) (w : World) (hb : w.heap[bl]? = some (.cells ⟨[.int .i64 a, .int .i64 b]⟩ e (0, 0))) :
    CallW Try.prog 33 [.slice (some ⟨bl, 0, none⟩) 2 2] w fun v _ => v = .int .i64 (or2 a b) := by
  refine enterW (tb := tb) Try.func33 rfl Try.ntmps33 rfl ?_
  repeat' (first | (apply R.is1; first | (apply R.isBin; first | (apply R.pure; exact rfl; first | (apply Ok1.add64; exact rfl; exact rfl; omega; omega) | (apply Ok1.lss_t; exact rfl; exact rfl; omega) | (apply Ok1.lss_f; exact rfl; exact rfl; omega) | (apply Ok1.neq_t; exact rfl; exact rfl; omega) | (apply Ok1.neq_f; exact rfl; exact rfl; omega) | (apply Ok1.neqP; (iterate 5 exact rfl)) | (apply Ok1.neqM; (iterate 5 exact rfl)) | (apply Ok1.neqS; (iterate 5 exact rfl))) | (apply R.lss rfl rfl rfl <;> intro) | (apply R.neq rfl rfl rfl <;> intro) | (apply R.neqF; (iterate 8 exact rfl); all_goals intro)) | (apply R.isCall; first | (apply R.pure; exact rfl; first | (apply Ok1.lenS; (iterate 3 exact rfl)) | (apply Ok1.lenStr; (iterate 3 exact rfl)) | (apply Ok1.lenMm; (iterate 3 exact rfl); (focus ((repeat' (first | exact At.head | apply At.tail | apply At.right)); done))) | (apply Ok1.lenM_nil; (iterate 3 exact rfl)))) | (apply R.pure; exact rfl; first | (apply Ok1.move; exact rfl) | (apply Ok1.load; exact rfl; first | (apply Ld.own1; exact rfl; exact rfl; (focus ((repeat' (first | exact At.head | apply At.tail | apply At.right)); done)); exact rfl) | (apply Ld.ownk; exact rfl; exact rfl; (focus ((repeat' (first | exact At.head | apply At.tail | apply At.right)); done)); exact rfl) | (apply Ld.old1; exact rfl; exact rfl; assumption; (first | exact List.not_mem_nil | assumption)) | (apply Ld.blk1; exact rfl; exact rfl; assumption; (first | exact List.not_mem_nil | assumption); exact rfl) | (apply Ld.blkk; exact rfl; exact rfl; assumption; (first | exact List.not_mem_nil | assumption); exact rfl)) | (apply Ok1.assign; exact rfl) | (apply Ok1.indexAddr; (iterate 5 exact rfl); omega; omega) | (apply Ok1.indexAddrA; (iterate 5 exact rfl); omega; omega))) | (apply R.is0; first | fail) | (apply R.isG; first | (apply R.guard_run; exact rfl; exact rfl) | (apply R.guard_not; (iterate 3 exact rfl)) | (apply R.guard_not0; exact rfl; exact rfl) | (apply R.guard_un; (iterate 3 exact rfl)) | (apply R.guard_un0; exact rfl; exact rfl) | (apply R.guard rfl rfl ?_ (fun h => ⟨rfl, ?_⟩) <;> try intro)) | apply R.nil | (apply T.is; first | apply T.rounds 3 | apply T.seq | apply T.region | apply T.block | apply T.scope | apply T.label | apply T.skip | apply T.exit | apply T.ret | (apply T.cond_t; exact rfl) | (apply T.cond_f; exact rfl) | (apply T.cond_h; exact rfl; assumption) | (apply T.cond_n; exact rfl; assumption) | (apply T.cond rfl <;> intro)) | apply Rnd.step)
  all_goals (apply RetOk.t; exact rfl)
  all_goals simp only [or2]
  all_goals first | (rw [if_pos (by omega)]; done) | (rw [if_neg (by omega)]; done) | (rw [if_neg (by omega)]; congr 1; omega)
end Go.Proofs.Ytligngjcnlbgmaa
set_option linter.unusedSimpArgs false
set_option linter.unusedVariables false
set_option linter.unusedSectionVars false
namespace Go.Proofs.Ytligngjcnlbgmaa
open Go.RowKit Go.Shelf
section
variable {X : Cx} {σ : Env} {L : Lst} {ty : TypeId} {pos : String} {af : Array Edge} {d : Option Nat} {g : Option (Nat × Bool)} {x : Operand} {κ α : Type} {kv : κ → Value} {vv : α → Value} {ms : Ms κ α} {clk b c : Nat}
theorem find_born {ms : Ms κ α} {e : κ × α × Nat} (he : e ∈ ms) (hnd : (ms.map (·.2.2)).Nodup) : (Array.mk (ms.map fun x => (⟨kv x.1, vv x.2.1, x.2.2⟩ : MapEntry))).find? (fun y => y.born == e.2.2) = some ⟨kv e.1, vv e.2.1, e.2.2⟩ := by
  rw [List.find?_toArray]
  induction ms with
  | nil => cases he
  | cons m ms ih =>
    simp only [List.map_cons, List.nodup_cons] at hnd
    simp only [List.map_cons, List.find?_cons]
    rcases List.mem_cons.1 he with rfl | he
    · simp
    · have : m.2.2 ≠ e.2.2 := fun h => hnd.1 (h ▸ List.mem_map.2 ⟨e, he, rfl⟩)
      simp only [beq_eq_false_iff_ne.2 this]
      exact ih he hnd.2
theorem Ok1.entry {e : κ × α × Nat} {seen : List Nat} (hx : ev σ x = some (.pointer (some ⟨c, 0, none⟩))) (hit : At L c (.mapIter (some b) clk ⟨seen ++ [e.2.2]⟩ clk)) (hat : At L b (mobj kv vv ms clk)) (he : e ∈ ms) (hnd : (ms.map (·.2.2)).Nodup) :
    Ok1 X ⟨d, .entry x, ty, pos, af, g⟩ σ L (.tuple ⟨[kv e.1, vv e.2.1]⟩) := .mk fun a w ha hw => by
  have hb := hw.get _ _ hat.mem
  have hc := hw.get _ _ hit.mem
  have g1 : (getObj c).run X.P w = .ok (.mapIter (some b) clk ⟨seen ++ [e.2.2]⟩ clk) w := by simp only [getObj, Sem.run, hc]
  have g2 : (getObj b).run X.P w = .ok (mobj kv vv ms clk) w := by simp only [getObj, Sem.run, hb]; rfl
  have hback : (Array.mk (seen ++ [e.2.2])).back? = some e.2.2 := by simp
  have hf := find_born (kv := kv) (vv := vv) he hnd
  simp only [execOp, ha.ev hx, Instr.entry, Sem.run_bind, g1, Result.andThen_ok, hback, g2, mobj, bne_self_eq_false, Bool.false_eq_true, if_false, hf, Sem.run_pure]
end
theorem nodup_map_born {κ α : Type} {l : Ms κ α} (h : (l.map (·.2.2)).Nodup) : l.Nodup := by
  induction l with
  | nil => simp
  | cons m l ih =>
    simp only [List.map_cons, List.nodup_cons] at h ⊢
    exact ⟨fun hm => h.1 (List.mem_map.2 ⟨m, hm, rfl⟩), ih h.2⟩
theorem nodup_sub_len {β : Type} [DecidableEq β] : ∀ {l m : List β}, l.Nodup → (∀ x ∈ l, x ∈ m) → l.length ≤ m.length
  | [], _, _, _ => Nat.zero_le _
  | a :: l, m, h, hs => by
    rw [List.nodup_cons] at h
    have h1 := hs a List.mem_cons_self
    have h2 : l.length ≤ (m.erase a).length := nodup_sub_len h.2 fun x hx => by
      have hne : x ≠ a := fun e => h.1 (e ▸ hx)
      exact (List.mem_erase_of_ne hne).2 (hs x (List.mem_cons_of_mem _ hx))
    rw [List.length_erase_of_mem h1] at h2
    have : 0 < m.length := List.length_pos_of_mem h1
    simp only [List.length_cons]
    omega
/-- Which entries have been met. -/
structure Met {κ α : Type} (ms vis : Ms κ α) : Prop where
  nd : (vis.map (·.2.2)).Nodup
  sub : ∀ e ∈ vis, e ∈ ms
theorem Met.start {κ α : Type} (ms : Ms κ α) : Met ms [] := ⟨by simp, by simp⟩
theorem Met.step {κ α : Type} {ms vis : Ms κ α} (h : Met ms vis) {e : κ × α × Nat} (he : e ∈ ms) (hn : e.2.2 ∉ vis.map (·.2.2)) : Met ms (vis ++ [e]) := by
  refine ⟨?_, ?_⟩
  · rw [List.map_append, List.nodup_append]
    refine ⟨h.nd, by simp, ?_⟩
    intro a ha b hb e'
    simp only [List.map_cons, List.map_nil, List.mem_singleton] at hb
    subst hb; subst e'
    exact hn ha
  · intro x hx
    rcases List.mem_append.1 hx with hx | hx
    · exact h.sub x hx
    · rw [List.mem_singleton.1 hx]; exact he
theorem Met.perm {κ α : Type} {ms vis : Ms κ α} (h : Met ms vis) (hnd : (ms.map (·.2.2)).Nodup) (hall : ∀ e ∈ ms, e.2.2 ∈ vis.map (·.2.2)) : vis.Perm ms := by
  classical
  have nv : vis.Nodup := nodup_map_born h.nd
  have nm : ms.Nodup := nodup_map_born hnd
  refine (List.perm_ext_iff_of_nodup nv nm).2 fun e => ⟨h.sub e, fun he => ?_⟩
  obtain ⟨e', h1, h2⟩ := List.mem_map.1 (hall e he)
  have h3 := h.sub e' h1
  have : e' = e := by
    have inj : ∀ (ms : Ms κ α), (ms.map (·.2.2)).Nodup → e' ∈ ms → e ∈ ms → e'.2.2 = e.2.2 → e' = e := by
      intro ms
      induction ms with
      | nil => intro _ h; cases h
      | cons m ms ih =>
        intro hn h1 h2 h3
        simp only [List.map_cons, List.nodup_cons] at hn
        rcases List.mem_cons.1 h1 with a1 | a1
        · rcases List.mem_cons.1 h2 with a2 | a2
          · rw [a1, a2]
          · exact (hn.1 (a1 ▸ h3 ▸ List.mem_map.2 ⟨e, a2, rfl⟩)).elim
        · rcases List.mem_cons.1 h2 with a2 | a2
          · exact (hn.1 (a2 ▸ h3 ▸ List.mem_map.2 ⟨e', a1, rfl⟩)).elim
          · exact ih hn.2 a1 a2 h3
    exact inj ms hnd h3 he h2
  exact this ▸ h1
theorem Met.le {κ α : Type} {ms vis : Ms κ α} (h : Met ms vis) (hnd : (ms.map (·.2.2)).Nodup) {e : κ × α × Nat} (he : e ∈ ms) (hn : e.2.2 ∉ vis.map (·.2.2)) : vis.length < ms.length := by
  have h2 := h.step he hn
  have h1 : ((vis ++ [e]).map (·.2.2)).length ≤ (ms.map (·.2.2)).length := nodup_sub_len h2.nd fun x hx => by
    obtain ⟨y, hy, rfl⟩ := List.mem_map.1 hx
    exact List.mem_map.2 ⟨y, h2.sub y hy, rfl⟩
  simp only [List.length_map, List.length_append, List.length_cons, List.length_nil] at h1
  omega
end Go.Proofs.Ytligngjcnlbgmaa
set_option linter.unusedSimpArgs false
set_option linter.unusedVariables false
set_option linter.unusedSectionVars false
namespace Go.Proofs.Ytligngjcnlbgmaa
section
variable {κ α : Type} [DecidableEq κ]
def mkeys (ms : Ms κ α) : List κ := ms.map (·.1)
theorem mget_none {k : κ} : ∀ {ms : Ms κ α}, mget k ms = none ↔ k ∉ mkeys ms
  | [] => by simp [mget, mkeys]
  | x :: r => by
    have ih := mget_none (k := k) (ms := r)
    by_cases h : x.1 = k
    · simp [mget, mkeys, h]
    · simp only [mget, h, if_false, ih, mkeys, List.map_cons, List.mem_cons, not_or]
      exact ⟨fun h' => ⟨fun e => h e.symm, h'⟩, fun h' => h'.2⟩
theorem mget_of_mem {e : κ × α × Nat} : ∀ {ms : Ms κ α}, (mkeys ms).Nodup → e ∈ ms → mget e.1 ms = some e.2.1
  | [], _, h => by cases h
  | x :: r, hn, h => by
    simp only [mkeys, List.map_cons, List.nodup_cons] at hn
    rcases List.mem_cons.1 h with rfl | h
    · simp [mget]
    · have : x.1 ≠ e.1 := fun he => hn.1 (he ▸ List.mem_map.2 ⟨e, h, rfl⟩)
      simp only [mget, this, if_false]
      exact mget_of_mem hn.2 h
theorem mset_keys (k : κ) (a : α) : ∀ (ms : Ms κ α), mkeys (mset k a ms) = mkeys ms
  | [] => rfl
  | x :: r => by
    by_cases h : x.1 = k
    · simp [mset, mkeys, h]
    · have := mset_keys k a r
      simp only [mset, h, if_false, mkeys, List.map_cons] at this ⊢
      rw [this]
theorem mset_borns (k : κ) (a : α) : ∀ (ms : Ms κ α), (mset k a ms).map (·.2.2) = ms.map (·.2.2)
  | [] => rfl
  | x :: r => by
    by_cases h : x.1 = k
    · simp [mset, h]
    · simp only [mset, h, if_false, List.map_cons, mset_borns k a r]
theorem mset_mem {k : κ} {a : α} {e : κ × α × Nat} : ∀ {ms : Ms κ α}, e ∈ mset k a ms → e ∈ ms ∨ (e.1 = k ∧ e.2.1 = a ∧ ∃ a', (e.1, a', e.2.2) ∈ ms)
  | [], h => by cases h
  | x :: r, h => by
    by_cases hk : x.1 = k
    · simp only [mset, hk, if_true] at h
      rcases List.mem_cons.1 h with rfl | h
      · exact .inr ⟨rfl, rfl, x.2.1, by rw [← hk]; exact List.mem_cons_self⟩
      · exact .inl (List.mem_cons_of_mem _ h)
    · simp only [mset, hk, if_false] at h
      rcases List.mem_cons.1 h with rfl | h
      · exact .inl List.mem_cons_self
      · rcases mset_mem h with h | ⟨h1, h2, a', h3⟩
        · exact .inl (List.mem_cons_of_mem _ h)
        · exact .inr ⟨h1, h2, a', List.mem_cons_of_mem _ h3⟩
theorem mget_mset {k : κ} {a o : α} (c : κ) : ∀ {ms : Ms κ α}, mget k ms = some o → mget c (mset k a ms) = if k = c then some a else mget c ms
  | [], h => by simp [mget] at h
  | x :: r, h => by
    by_cases hk : x.1 = k
    · simp only [mset, hk, if_true, mget]
      split <;> rfl
    · simp only [mget, hk, if_false] at h
      have ih := mget_mset c h (a := a)
      simp only [mset, hk, if_false, mget, ih]
      by_cases hc : x.1 = c
      · rw [if_pos hc, if_pos hc, if_neg (fun e => hk (by rw [hc, ← e]))]
      · rw [if_neg hc, if_neg hc]
theorem mget_snoc {k : κ} {a : α} {b : Nat} (c : κ) : ∀ {ms : Ms κ α}, mget k ms = none → mget c (ms ++ [(k, a, b)]) = if k = c then some a else mget c ms
  | [], _ => by simp [mget]
  | x :: r, h => by
    by_cases hk : x.1 = k
    · simp [mget, hk] at h
    · simp only [mget, hk, if_false] at h
      have ih := mget_snoc c h (a := a) (b := b)
      simp only [List.cons_append, mget, ih]
      by_cases hc : x.1 = c
      · rw [if_pos hc, if_pos hc, if_neg (fun e => hk (by rw [hc, ← e]))]
      · rw [if_neg hc, if_neg hc]
/-- A map that is in order: keys once each, stamps once each and below the clock. -/
structure MWf (s : Ms κ α × Nat) : Prop where
  bnd : ∀ e ∈ s.1, e.2.2 < s.2
  nd : (s.1.map (·.2.2)).Nodup
  keys : (mkeys s.1).Nodup
theorem MWf.nil : MWf (([] : Ms κ α), 0) := ⟨by simp, by simp, by simp [mkeys]⟩
theorem MWf.set {s : Ms κ α × Nat} (h : MWf s) (k : κ) (a : α) : MWf (mset k a s.1, s.2) := by
  refine ⟨fun e he => ?_, by rw [mset_borns]; exact h.nd, by rw [mset_keys]; exact h.keys⟩
  rcases mset_mem he with he | ⟨_, _, a', h3⟩
  · exact h.bnd e he
  · exact h.bnd (e.1, a', e.2.2) h3
theorem MWf.snoc {s : Ms κ α × Nat} (h : MWf s) {k : κ} {a : α} (hk : mget k s.1 = none) : MWf (s.1 ++ [(k, a, s.2)], s.2 + 1) := by
  refine ⟨fun e he => ?_, ?_, ?_⟩
  · rcases List.mem_append.1 he with he | he
    · have := h.bnd e he; simp only; omega
    · rw [List.mem_singleton.1 he]; simp
  · rw [List.map_append, List.nodup_append]
    refine ⟨h.nd, by simp, fun x hx y hy e => ?_⟩
    obtain ⟨z, hz, rfl⟩ := List.mem_map.1 hx
    have := h.bnd z hz
    simp only [List.map_cons, List.map_nil, List.mem_singleton] at hy
    omega
  · simp only [mkeys, List.map_append, List.nodup_append]
    refine ⟨h.keys, by simp, fun x hx y hy e => ?_⟩
    simp only [List.map_cons, List.map_nil, List.mem_singleton] at hy
    exact mget_none.1 hk (hy ▸ e ▸ hx)
end
end Go.Proofs.Ytligngjcnlbgmaa
set_option linter.unusedSimpArgs false
set_option linter.unusedVariables false
namespace Go.Proofs.Ytligngjcnlbgmaa
open Go.RowKit Go.Shelf
set_option maxRecDepth 100000
def sHide : ByteArray := ⟨#[104, 105, 100, 101]⟩
def sBind : ByteArray := ⟨#[98, 105, 110, 100]⟩
/-- One block of a stream. -/
def strm1 (k nonce : List Int) (i : Nat) : List Int := hmacI k ((nonce.length : Int) :: (nonce ++ len4 i))
def strmB (k nonce : List Int) (m : Nat) : List Int := (List.range m).flatMap (strm1 k nonce)
theorem strmB_succ (k nonce : List Int) (m : Nat) : strmB k nonce (m + 1) = strmB k nonce m ++ strm1 k nonce m := by
  unfold strmB
  rw [List.range_succ, List.flatMap_append]
  simp
theorem strm1_len (k nonce : List Int) (m : Nat) : (strm1 k nonce m).length = 32 := hmac_len _ _
theorem strmB_len (k nonce : List Int) (m : Nat) : (strmB k nonce m).length = 32 * m := by
  induction m with
  | zero => rfl
  | succ m ih => rw [strmB_succ, List.length_append, ih, strm1_len]; omega
/-- The first bytes of a key's stream. -/
def strmI (k nonce : List Int) (n : Nat) : List Int := (strmB (deriveI k sHide []) nonce ((n + 31) / 32)).take n
theorem strmI_len (k nonce : List Int) (n : Nat) : (strmI k nonce n).length = n := by
  unfold strmI
  rw [List.length_take, strmB_len]
  omega
/-- Each byte with the stream's. -/
def turnI (b s : List Int) : List Int := List.zipWith (xorI .u8) b s
theorem turnI_len {b s : List Int} (h : b.length = s.length) : (turnI b s).length = b.length := by
  unfold turnI
  rw [List.length_zipWith]
  omega
theorem turnI_byt (b s : List Int) : Byt (turnI b s) := by
  intro y hy
  unfold turnI at hy
  rw [List.mem_iff_getElem] at hy
  obtain ⟨i, hi, rfl⟩ := hy
  rw [List.getElem_zipWith]
  exact xor8_range _ _
/-- The tag of what is bound. -/
def stagI (k nonce bound body : List Int) : List Int := hmacI (deriveI k sBind []) (frameI [nonce, bound, body])
def sealI (k nonce bound b : List Int) : List Int := turnI b (strmI k nonce b.length) ++ stagI k nonce bound (turnI b (strmI k nonce b.length))
theorem stagI_len (k nonce bound body : List Int) : (stagI k nonce bound body).length = 32 := hmac_len _ _
theorem sealI_len (k nonce bound b : List Int) : (sealI k nonce bound b).length = b.length + 32 := by
  unfold sealI
  rw [List.length_append, stagI_len, turnI_len (strmI_len _ _ _).symm]
theorem four_ok (n : Int) (h0 : 0 ≤ n) (h1 : n ≤ 4294967295) (w : World) : CallM Try.prog 49 [.int .i64 n] [] w fun v L => ∃ b, v = .slice (some ⟨b, 0, none⟩) 4 4 ∧ L = [(b, .cells ⟨u8s (len4 n)⟩ 5 (0, 0))] := by
  refine enterK (tb := tb) Try.func49 rfl Try.ntmps49 rfl ?_
  repeat' (first | (apply R.is1; first | (apply R.isBin; (apply R.pure; exact rfl; (apply Ok1.shr; exact rfl; exact rfl; omega; exact Nat.le_of_ble_eq_true rfl; (first | exact pwE8 | exact pwE16 | exact pwE24)))) | (apply R.pure; exact rfl; first | (apply Ok1.move; exact rfl) | (apply Ok1.assign; exact rfl) | (apply Ok1.convU8; (iterate 5 exact rfl); omega; omega) | (apply Ok1.conv; (iterate 5 exact rfl))) | (apply R.buildSlice; (iterate 12 exact rfl); intro)) | apply R.nil | (apply T.is; first | apply T.seq | apply T.region | apply T.ret))
  (apply RetOk.t; exact rfl)
  refine ⟨_, ?_, _, rfl, rfl⟩
  simp only [u8_mod]
  apply Keep.eq1
  have h4 : n / 16777216 = n / 16777216 % 256 := by omega
  rw [h4]
  simp only [u8s, len4, List.map, Int.emod_emod]
theorem scheck_ok (b : Nat) (p : Option Addr) (n cap : Nat) (h : n ≤ 32) : CallP Try.prog 46 [.pointer (some ⟨b, 0, none⟩), .slice p n cap] (.int .i64 0) := by
  refine enterP (tb := tb) Try.func46 rfl Try.ntmps46 rfl fun w => ?_
  repeat' (first | (apply R.is1; first | (apply R.isBin; (apply R.pure; exact rfl; first | (apply Ok1.eqlP; (iterate 5 exact rfl)) | (apply Ok1.gtr_f; exact rfl; exact rfl; omega))) | (apply R.isCall; (apply R.pure; exact rfl; (apply Ok1.lenS; (iterate 3 exact rfl)))) | (apply R.pure; exact rfl; first | (apply Ok1.move; exact rfl) | (apply Ok1.assign; exact rfl) | (apply Ok1.pick_f; exact rfl; exact rfl))) | (apply R.isG; (apply R.guard_run; exact rfl; exact rfl)) | apply R.nil | (apply T.is; first | apply T.seq | apply T.region | apply T.skip | apply T.ret | (apply T.cond_f; exact rfl)))
  (apply RetOk.t; exact rfl)
  rfl
theorem ktag_ok (bk : Nat) (k : List Int) (hkl : k.length ≤ 999999000) (hkb : Byt k) (pp : Option Addr) (m cap : Nat) (ps : List Pt) (hm : m = ps.length) (hbyt : Byt (cat ps)) (hbig : (cat ps).length ≤ 999998000) (hm2 : m ≤ 1000000000) (w : World) (hk : KeyR w bk k) (hpp : RdSl w pp Pt.v ps) (hall : ∀ x ∈ ps, RdSl w x.p u8V x.xs) :
    CallW Try.prog 48 [.pointer (some ⟨bk, 0, none⟩), .slice pp m cap] w fun v _ => v = .agg ⟨u8s (hmacI k (cat ps))⟩ := by
  obtain ⟨pk, ck, hb, hpk⟩ := hk
  have htg := fun w1 (hc : Chg [] w w1) => tag_ok pk k.length ck k rfl hkl hkb pp m cap ps hm hbyt hbig hm2 w1 (hpk.chg' hc (fun _ => Off.nil _)) (hpp.chg' hc (fun _ => Off.nil _)) (fun x hx => (hall x hx).chg' hc (fun _ => Off.nil _))
  have hls : (u8s (hmacI k (cat ps))).length = 32 := by rw [u8s_len, hmac_len]
  have hone := u8s_one (hmacI k (cat ps))
  generalize u8s (hmacI k (cat ps)) = D at *
  have hset : ∀ cs : List Value, cs.length = 32 → setE cs 0 D = some D := fun cs h => setE_all (by rw [hls, h])
  refine enterW (tb := tb) Try.func48 rfl Try.ntmps48 rfl ?_
  repeat' (first | (apply R.is1; first | (apply R.isBin; (apply R.pure; exact rfl; (apply Ok1.eqlP; (iterate 5 exact rfl)))) | (apply R.isCall; (apply R.callW (vs := [.slice pk k.length ck, .slice pp m cap]); (iterate 3 exact rfl); intro w1 hw1; exact htg w1 hw1.chg; rintro v rfl)) | (apply R.pure; exact rfl; first | (apply Ok1.move; exact rfl) | (apply Ok1.fieldAddr; (iterate 5 exact rfl)) | (apply Ok1.load; exact rfl; (apply Ld.blk1; exact rfl; exact rfl; assumption; (exact List.not_mem_nil); exact rfl)) | (apply Ok1.nilCheck; exact rfl)) | (apply R.alloc; (iterate 3 exact rfl); intro)) | (apply R.is0; (apply R.store; (iterate 4 exact rfl); exact hls; exact hone; exact Upd.head; exact hset _ rfl)) | apply R.nil | (apply T.is; first | apply T.seq | apply T.region | apply T.skip | apply T.ret | (apply T.cond_f; exact rfl)))
  (apply RetOk.c; exact rfl; (apply Ld.ownk; exact rfl; exact rfl; exact At.head; exact subE_all hls))
  rfl
theorem bclone_ok (p : Option Addr) (n cap : Nat) (xs : List Int) (hn : n = xs.length) (hbig : n ≤ 1000000000) (w : World) (hp : RdSl w p u8V xs) : CallM Try.prog 50 [.slice p n cap] [] w fun v L => ∃ ov, OvOk 1 ov n (u8s xs) ∧ v = slV ov n ∧ L = blkL 5 ov (u8s xs) := by
  refine enterK (tb := tb) Try.func50 rfl Try.ntmps50 rfl ?_
  cases p with
  | none =>
    have hx : xs = [] := by
      rcases hp with h | ⟨b, o, h, _⟩
      · exact h
      · cases h
    subst hx
    have h0 : n = 0 := hn
    repeat' (first | (apply R.is1; first | (apply R.isBin; (apply R.pure; exact rfl; (apply Ok1.eqlS; (iterate 5 exact rfl)))) | (apply R.pure; exact rfl; first | (apply Ok1.move; exact rfl) | (apply Ok1.assign; exact rfl))) | apply R.nil | (apply T.is; first | apply T.seq | apply T.region | apply T.ret | (apply T.cond_t; exact rfl)))
    (apply RetOk.t; exact rfl)
    exact ⟨_, by (focus ((repeat' (exact Keep.nil _)); done)), none, by rw [h0]; exact OvOk.start 1, by rw [h0]; rfl, rfl⟩
  | some a =>
    repeat' (first | (apply R.is1; first | (apply R.buildSlice0; (iterate 4 exact rfl); intro b0) | (apply R.isBin; (apply R.pure; exact rfl; (apply Ok1.eqlS; (iterate 5 exact rfl)))) | (apply R.isCall; (apply R.appendRd (xs := xs) (v := u8V) (sz := 1) (ov := some (b0, 0, [])) (n := 0) (old := []); (iterate 12 exact rfl); exact ⟨rfl, rfl⟩; (focus ((repeat' (exact Ext.one _ _)); done)); exact hn; exact u8V_len; exact rfl; (intro w1 hw1; exact hp.chg hw1.chg (Off.nil _)); (rw [fl_u8]; exact u8s_one xs); omega; intro ov1 hov1 hsome)) | (apply R.pure; exact rfl; first | (apply Ok1.move; exact rfl) | (apply Ok1.assign; exact rfl))) | apply R.nil | (apply T.is; first | apply T.seq | apply T.region | apply T.skip | apply T.ret | (apply T.cond_f; exact rfl)))
    rw [Nat.zero_add, List.nil_append, fl_u8] at hov1
    rw [Nat.zero_add, List.nil_append, fl_u8]
    repeat' (fail)
    (apply RetOk.t; exact rfl)
    refine ⟨_, ?_, ov1, hov1, rfl, rfl⟩
    (focus ((repeat' (first | exact Ext.here _ _ | apply Keep.last)); done))
end Go.Proofs.Ytligngjcnlbgmaa
set_option linter.unusedSimpArgs false
set_option linter.unusedVariables false
namespace Go.Proofs.Ytligngjcnlbgmaa
open Go.RowKit Go.Shelf
set_option maxRecDepth 100000
theorem stream_ok (bk : Nat) (k : List Int) (hkl : k.length ≤ 999999000) (hkb : Byt k) (pn : Option Addr) (nl cn : Nat) (nonce : List Int) (hnl : nl = nonce.length) (hn32 : nl ≤ 32) (hnb : Byt nonce) (n : Nat) (hn : n ≤ 65536) (w : World) (hk : KeyR w bk k) (hpn : RdSl w pn u8V nonce) :
    CallM Try.prog 37 [.pointer (some ⟨bk, 0, none⟩), .slice pn nl cn, .int .i64 n] [] w fun v L => ∃ ov W, OvOk 1 ov W.length (u8s W) ∧ n ≤ W.length ∧ W.take n = strmI k nonce n ∧ v = .tuple #[.slice (ovp ov) n n, .int .i64 0] ∧ L = blkL 5 ov (u8s W) := by
  subst hnl
  have hck := scheck_ok bk pn nonce.length cn hn32
  have hdr := fun w1 (hc : Chg [] w w1) => derive_ok bk k hkl hkb sHide (by decide) none 0 0 [] rfl (by decide) (by simp) (by simp [frameI, len4, strI, sHide]) (by simp) w1 (hk.chg hc) (.inl rfl) (by simp)
  simp only [List.map_nil] at hdr
  have hdl := derive_len k sHide []
  have hdb := derive_byt k sHide []
  have hst : strmI k nonce n = (strmB (deriveI k sHide []) nonce ((n + 31) / 32)).take n := rfl
  generalize deriveI k sHide [] = k2 at *
  refine enterK (tb := tb) Try.func37 rfl Try.ntmps37 rfl ?_
  repeat' (first | (apply R.is1; first | (apply R.isBin; (apply R.pure; exact rfl; first | (apply Ok1.lss_f; exact rfl; exact rfl; omega) | (apply Ok1.gtr_f; exact rfl; exact rfl; omega) | (apply Ok1.neq_f; exact rfl; exact rfl; omega))) | (apply R.isCall; first | apply R.callP rfl rfl rfl hck | (apply R.callE (vs := [.pointer (some ⟨bk, 0, none⟩), .string sHide, .slice none 0 0]); (iterate 3 exact rfl); exact Ext.none _; intro w1 hw1; exact hdr w1 hw1.chg; rintro v Lo ⟨bd, ovd, rfl, hovd, rfl⟩)) | (apply R.pure; exact rfl; first | (apply Ok1.move; exact rfl) | (apply Ok1.assign; exact rfl))) | apply R.nil | (apply T.is; first | apply T.seq | apply T.region | apply T.block | apply T.skip | (apply T.cond_f; exact rfl)))
  have hkd : KL bd ovd k2 = KL bd ovd k2 := rfl
  generalize hKL : KL bd ovd k2 = LK at *
  have hKR : ∀ L w1, Hp w [] L w1 → (∀ z ∈ LK, z ∈ L) → KeyR w1 bd k2 := fun L w1 h1 h2 => KeyR.of (by rw [hdl]; exact hovd) h1 (hKL ▸ h2)
  apply T.loopK (α := Nat × Ov) (I := fun y => 32 * y.1 < n + 32 ∧ OvOk 1 y.2 (32 * y.1) (u8s (strmB k2 nonce y.1))) (σi := fun y => [(0, .pointer (some ⟨bk, 0, none⟩)), (1, .slice pn nonce.length cn), (2, .int .i64 n), (9, .pointer (some ⟨bd, 0, none⟩)), (10, slV y.2 (32 * y.1)), (11, .int .i64 y.1)]) (Li := fun y => LK ++ blkL 5 y.2 (u8s (strmB k2 nonce y.1))) (μ := fun y => n + 32 - 32 * y.1) (i0 := (0, none))
  · exact ⟨by omega, OvOk.start 1⟩
  · exact ⟨rfl, rfl, rfl, rfl, rfl, rfl, trivial⟩
  · simp only [blkL, List.append_nil]
    (focus ((repeat' (first | exact Ext.all _ | apply Keep.last)); done))
  · rintro ⟨i, ov⟩ ⟨hi, hov⟩
    simp only at hi hov ⊢
    by_cases hlt : 32 * i < n
    · have hfo := fun w1 => four_ok (i : Int) (by omega) (by omega) w1
      have htg : ∀ L w1 b1 b3 b4, Hp w [] L w1 → (∀ z ∈ LK, z ∈ L) → (b1, Obj.cells ⟨[.int .u8 nonce.length]⟩ 5 (0, 0)) ∈ L → (b4, Obj.cells ⟨u8s (len4 i)⟩ 5 (0, 0)) ∈ L → (b3, Obj.cells ⟨[.slice (some ⟨b1, 0, none⟩) 1 1, .slice pn nonce.length cn, .slice (some ⟨b4, 0, none⟩) 4 4]⟩ 22 (0, 0)) ∈ L → CallW Try.prog 48 [.pointer (some ⟨bd, 0, none⟩), .slice (some ⟨b3, 0, none⟩) 3 3] w1 fun v _ => v = .agg ⟨u8s (strm1 k2 nonce i)⟩ := by
        intro L w1 b1 b3 b4 hw h1 h2 h3 h4
        have hct : cat [⟨some ⟨b1, 0, none⟩, 1, [(nonce.length : Int)]⟩, ⟨pn, cn, nonce⟩, ⟨some ⟨b4, 0, none⟩, 4, len4 i⟩] = (nonce.length : Int) :: (nonce ++ len4 i) := by simp [cat]
        have h := ktag_ok bd k2 (by rw [hdl]; decide) hdb (some ⟨b3, 0, none⟩) 3 3 [⟨some ⟨b1, 0, none⟩, 1, [(nonce.length : Int)]⟩, ⟨pn, cn, nonce⟩, ⟨some ⟨b4, 0, none⟩, 4, len4 i⟩] rfl ?_ ?_ (by decide) w1 (hKR L w1 hw h1) (RdSl.ofMem (junk := []) hw h4 rfl) ?_
        · rw [hct] at h
          exact h
        · rw [hct]
          intro y hy
          rcases List.mem_cons.1 hy with rfl | hy
          · omega
          · rcases List.mem_append.1 hy with hy | hy
            · exact hnb y hy
            · exact len4_byt _ y hy
        · rw [hct]
          simp [len4]
          omega
        · intro x hx
          simp only [List.mem_cons, List.not_mem_nil, or_false] at hx
          rcases hx with rfl | rfl | rfl
          · exact RdSl.ofMem (junk := []) hw h2 rfl
          · exact hpn.chg' hw.chg (fun _ => Off.nil _)
          · exact RdSl.ofMem (junk := []) hw h3 (by rw [fl_u8, List.append_nil])
      repeat' (first | (apply R.is1; first | (apply R.isBin; (apply R.pure; exact rfl; (apply Ok1.lss_t; exact rfl; exact rfl; omega))) | (apply R.isCall; first | (apply R.pure; exact rfl; apply Ok1.lenOv; (iterate 3 exact rfl); exact hov) | (apply R.callE (vs := [.int .i64 i]); (iterate 3 exact rfl); exact Ext.none _; intro w1 hw1; exact hfo w1; rintro v Lo ⟨b4, rfl, rfl⟩) | (apply R.pure; exact rfl; (apply Ok1.lenS; (iterate 3 exact rfl)))) | (apply R.pure; exact rfl; first | (apply Ok1.move; exact rfl) | (apply Ok1.convU8; (iterate 5 exact rfl); omega; omega)) | (apply R.buildSlice; (iterate 12 exact rfl); intro)) | apply R.nil | (apply T.is; first | apply T.seq | apply T.region | apply T.block | apply T.skip | (apply T.cond_t; exact rfl)))
      rename_i b1 b3
      have hD := strm1_len k2 nonce i
      have hsu := strmB_succ k2 nonce i
      have hbl := strmB_len k2 nonce i
      generalize hDD : strm1 k2 nonce i = D at *
      have hls : (u8s D).length = 32 := by rw [u8s_len, hD]
      have hset : ∀ cs : List Value, cs.length = 32 → setE cs 0 (u8s D) = some (u8s D) := fun cs h => setE_all (by rw [hls, h])
      repeat' (first | (apply R.is1; first | (apply R.isBin; (apply R.pure; exact rfl; (apply Ok1.add64; exact rfl; exact rfl; omega; omega))) | (apply R.isCall; first | (apply R.callW (vs := [.pointer (some ⟨bd, 0, none⟩), .slice (some ⟨b3, 0, none⟩) 3 3]); (iterate 3 exact rfl); intro w1 hw1; exact htg _ w1 b1 b3 b4 hw1 (Ext.mem (by (focus ((repeat' (first | exact Ext.here _ _ | apply Ext.cons)); done)))) (by simp) (by simp) (by simp); rintro v rfl) | (apply R.appendRd (xs := D) (v := u8V) (sz := 1) (ov := ov) (n := 32 * i) (old := u8s (strmB k2 nonce i)); (iterate 12 exact rfl); exact hov; (focus ((repeat' (first | exact Ext.all _ | apply Ext.cons | apply Ext.app)); done)); exact hD.symm; exact u8V_len; exact rfl; (intro w1 hw1; exact RdSl.of (junk := []) hw1 (by exact At.head) (by rw [fl_u8, List.append_nil])); (rw [fl_u8]; exact u8s_one _); omega; intro ov1 hov1 hsome)) | (apply R.pure; exact rfl; first | (apply Ok1.sliceArr; (iterate 4 exact rfl)) | (apply Ok1.move; exact rfl) | (apply Ok1.assign; exact rfl)) | (apply R.alloc; (iterate 3 exact rfl); intro)) | (apply R.is0; (apply R.store; (iterate 4 exact rfl); exact hls; exact u8s_one D; exact Upd.head; exact hset _ rfl)) | apply R.nil | (apply T.is; apply T.region))
      rw [fl_u8, ← u8s_app, ← hsu] at hov1
      rw [fl_u8, ← u8s_app, ← hsu]
      have h32 : 32 * (i + 1) = 32 * i + 32 := by omega
      refine ⟨(i + 1, ov1), ?_⟩
      simp only [h32]
      exact ⟨⟨by omega, hov1⟩, by omega, ⟨rfl, rfl, rfl, rfl, rfl, rfl, trivial⟩, by (focus ((repeat' (first | exact Ext.here _ _ | apply Keep.app | apply Keep.last | apply Ext.cons | apply Ext.app)); done))⟩
    · repeat' (first | (apply R.is1; first | (apply R.isBin; (apply R.pure; exact rfl; (apply Ok1.lss_f; exact rfl; exact rfl; omega))) | (apply R.isCall; (apply R.pure; exact rfl; apply Ok1.lenOv; (iterate 3 exact rfl); exact hov)) | (apply R.pure; exact rfl; first | (apply Ok1.sliceCut; (iterate 4 exact rfl); exact hov; exact rfl; exact rfl; omega; omega) | (apply Ok1.move; exact rfl) | (apply Ok1.assign; exact rfl))) | apply R.nil | (apply T.is; first | apply T.seq | apply T.region | apply T.exit | apply T.ret | (apply T.cond_f; exact rfl)))
      (apply RetOk.tt; exact rfl; exact rfl)
      have hi2 : (n + 31) / 32 = i := by omega
      refine ⟨blkL 5 ov (u8s (strmB k2 nonce i)), by (focus ((repeat' (first | exact Ext.all _ | apply Keep.last | apply Ext.app)); done)), ov, strmB k2 nonce i, by rw [strmB_len]; exact hov, by rw [strmB_len]; omega, by rw [hst, hi2], ?_, rfl⟩
      cases ov with
      | none =>
        have h0 : 32 * i = 0 := hov.2
        have h1 : n = 0 := by omega
        subst h1
        rfl
      | some q => rfl
theorem turn_set {b s : List Int} {i : Nat} {x y : Int} (hx : b[i]? = some x) (hy : s[i]? = some y) (hl : b.length = s.length) : turnI (b.take (i + 1)) (s.take (i + 1)) ++ b.drop (i + 1) = (turnI (b.take i) (s.take i) ++ b.drop i).set i (xorI .u8 x y) := by
  obtain ⟨h1, rfl⟩ := List.getElem?_eq_some_iff.1 hx
  obtain ⟨h2, rfl⟩ := List.getElem?_eq_some_iff.1 hy
  have hti : (turnI (b.take i) (s.take i)).length = i := by
    unfold turnI
    rw [List.length_zipWith, List.length_take, List.length_take]
    omega
  apply List.ext_getElem?
  intro j
  rw [List.getElem?_set]
  have hl2 : (turnI (b.take i) (s.take i) ++ b.drop i).length = b.length := by rw [List.length_append, hti, List.length_drop]; omega
  unfold turnI
  rcases Nat.lt_trichotomy j i with h | h | h
  · rw [if_neg (by omega), List.getElem?_append_left (by rw [List.length_zipWith, List.length_take, List.length_take]; omega), List.getElem?_append_left (by rw [List.length_zipWith, List.length_take, List.length_take]; omega)]
    rw [List.getElem?_zipWith, List.getElem?_zipWith, List.getElem?_take_of_lt (by omega), List.getElem?_take_of_lt (by omega), List.getElem?_take_of_lt (by omega), List.getElem?_take_of_lt (by omega)]
  · subst h
    rw [if_pos rfl, if_pos (by unfold turnI at hl2; rw [hl2]; exact h1), List.getElem?_append_left (by rw [List.length_zipWith, List.length_take, List.length_take]; omega), List.getElem?_zipWith, List.getElem?_take_of_lt (by omega), List.getElem?_take_of_lt (by omega), List.getElem?_eq_getElem h1, List.getElem?_eq_getElem h2]
  · rw [if_neg (by omega), List.getElem?_append_right (by rw [List.length_zipWith, List.length_take, List.length_take]; omega), List.getElem?_append_right (by rw [List.length_zipWith, List.length_take, List.length_take]; omega), List.getElem?_drop, List.getElem?_drop, List.length_zipWith, List.length_zipWith, List.length_take, List.length_take, List.length_take, List.length_take]
    congr 1
    omega
theorem xor8_zero {x : Int} (h : 0 ≤ x ∧ x ≤ 255) : xorI .u8 x 0 = x := by
  have : ∀ n : Fin 256, xorI .u8 (n.val : Int) 0 = (n.val : Int) := by decide +kernel
  have h2 := this ⟨x.toNat, by omega⟩
  simp only at h2
  rw [Int.toNat_of_nonneg h.1] at h2
  exact h2
theorem List.set_getElem?_self9 {α : Type} {Z : List α} {i : Nat} {x : α} (h : Z[i]? = some x) : Z.set i x = Z := by
  obtain ⟨h1, rfl⟩ := List.getElem?_eq_some_iff.1 h
  exact List.set_getElem_self h1
theorem turned_ok (p : Option Addr) (n cap : Nat) (b : List Int) (hn : n = b.length) (hbig : n ≤ 100000000) (hbb : Byt b) (ps : Option Addr) (cs : Nat) (s : List Int) (hs : s.length = b.length) (w : World) (hp : RdSl w p u8V b) (hps : RdSl w ps u8V s) :
    CallM Try.prog 38 [.slice p n cap, .slice ps n cs] [] w fun v L => ∃ ov, OvOk 1 ov n (u8s (turnI b s)) ∧ v = slV ov n ∧ L = blkL 5 ov (u8s (turnI b s)) := by
  subst hn
  have hcl := fun w1 (hc : Chg [] w w1) => bclone_ok p b.length cap b rfl (by omega) w1 (hp.chg' hc (fun _ => Off.nil _))
  refine enterK (tb := tb) Try.func38 rfl Try.ntmps38 rfl ?_
  repeat' (first | (apply R.is1; first | (apply R.isCall; first | (apply R.callE (vs := [.slice p b.length cap]); (iterate 3 exact rfl); exact Ext.none _; intro w1 hw1; exact hcl w1 hw1.chg; rintro v Lo ⟨ov, hov, rfl, rfl⟩) | (apply R.pure; exact rfl; apply Ok1.lenOv; (iterate 3 exact rfl); exact hov)) | (apply R.pure; exact rfl; first | (apply Ok1.move; exact rfl) | (apply Ok1.assign; exact rfl))) | apply R.nil | (apply T.is; first | apply T.seq | apply T.region | apply T.block | apply T.scope | apply T.label))
  cases ov with
  | none =>
    have h0 : b = [] := List.eq_nil_of_length_eq_zero hov.2
    subst h0
    simp only [slV, blkL, List.length_nil]
    repeat' (first | (apply R.is1; first | (apply R.isBin; (apply R.pure; exact rfl; (apply Ok1.lss_f; exact rfl; exact rfl; omega))) | (apply R.pure; exact rfl; first | (apply Ok1.move; exact rfl) | (apply Ok1.assign; exact rfl))) | apply R.nil | (apply T.is; first | apply T.rounds 1 | apply T.seq | apply T.region | apply T.exit | apply T.ret | (apply T.cond_f; exact rfl)))
    (apply RetOk.t; exact rfl)
    exact ⟨_, by (focus ((repeat' (exact Keep.nil _)); done)), none, OvOk.start 1, rfl, rfl⟩
  | some q =>
    obtain ⟨bq, j, junk⟩ := q
    simp only [slV, blkL]
    apply T.loopK (α := Nat) (I := fun i => i ≤ b.length) (σi := fun i => [(0, .slice p b.length cap), (1, .slice ps b.length cs), (5, .slice (some ⟨bq, 0, none⟩) b.length (b.length + j)), (10, .int .i64 b.length), (11, .int .i64 i)]) (Li := fun i => [(bq, .cells ⟨u8s (turnI (b.take i) (s.take i) ++ b.drop i) ++ junk⟩ 5 (0, 0))]) (μ := fun i => b.length - i) (i0 := 0)
    · exact Nat.zero_le _
    · exact ⟨rfl, rfl, rfl, rfl, rfl, trivial⟩
    · have : turnI (b.take 0) (s.take 0) ++ b.drop 0 = b := by simp [turnI]
      rw [this]
      (focus ((repeat' (first | exact Keep.nil _ | exact Ext.one _ _ | apply Keep.cons)); done))
    · intro i hi
      rcases Nat.lt_or_ge i b.length with hlt | hge
      · obtain ⟨x, hx⟩ : ∃ x, b[i]? = some x := ⟨_, List.getElem?_eq_getElem (by omega)⟩
        obtain ⟨y, hy⟩ : ∃ y, s[i]? = some y := ⟨_, List.getElem?_eq_getElem (by omega)⟩
        obtain ⟨bb, o, hpe, H⟩ := hps.at hy
        replace H := H 1 u8V_len
        have hts := turn_set hx hy hs.symm
        have hti : (turnI (b.take i) (s.take i)).length = i := by
          unfold turnI
          rw [List.length_zipWith, List.length_take, List.length_take]
          omega
        have hgx : (turnI (b.take i) (s.take i) ++ b.drop i)[i]? = some x := by
          rw [List.getElem?_append_right (by omega), hti, Nat.sub_self, List.getElem?_drop, Nat.add_zero]
          exact hx
        have hgl : i < (turnI (b.take i) (s.take i) ++ b.drop i).length := by rw [List.length_append, hti, List.length_drop]; omega
        generalize turnI (b.take i) (s.take i) ++ b.drop i = Z at *
        obtain ⟨Z2, hZ2⟩ : ∃ Z2, turnI (b.take (i + 1)) (s.take (i + 1)) ++ b.drop (i + 1) = Z2 := ⟨_, rfl⟩
        rw [hZ2] at hts
        have hyb : 0 ≤ xorI .u8 x y := (xor8_range x y).1
        have hgz : (u8s Z ++ junk)[0 + i * 1]? = some (.int .u8 x) := by
          rw [Nat.zero_add, Nat.mul_one, List.getElem?_append_left (by rw [u8s_len]; exact hgl), u8s, List.getElem?_map, hgx]
          rfl
        have hsz : setE (u8s Z ++ junk) (0 + i * 1) [.int .u8 (xorI .u8 x y)] = some (u8s Z2 ++ junk) := by
          rw [Nat.zero_add, Nat.mul_one, setE_one (by rw [List.length_append, u8s_len]; omega), List.set_append_left _ _ (by rw [u8s_len]; exact hgl), hts]
          simp [u8s, List.map_set]
        by_cases hy0 : y = 0
        · have hz : Z2 = Z := by
            rw [hts, hy0, xor8_zero (hbb x (List.mem_of_getElem? hx))]
            exact List.set_getElem?_self9 hgx
          subst hy0
          repeat' (first | (apply R.is1; first | (apply R.isBin; (apply R.pure; exact rfl; first | (apply Ok1.add64; exact rfl; exact rfl; omega; omega) | (apply Ok1.lss_t; exact rfl; exact rfl; omega) | (apply Ok1.eql_t; exact rfl; exact rfl; omega))) | (apply R.pure; exact rfl; first | (apply Ok1.indexAddrP; (iterate 4 exact rfl); exact hpe; exact rfl; omega; omega) | (apply Ok1.load; exact rfl; (apply Ld.row0 H; exact rfl; exact List.not_mem_nil; (iterate 3 exact rfl))) | (apply Ok1.move; exact rfl) | (apply Ok1.assign; exact rfl))) | apply R.nil | (apply T.is; first | apply T.seq | apply T.region | apply T.block | apply T.skip | apply T.exit | (apply T.cond_t; exact rfl)))
          refine ⟨i + 1, by omega, by omega, ⟨rfl, rfl, rfl, rfl, rfl, trivial⟩, ?_⟩
          simp only [hZ2, hz]
          (focus ((repeat' (first | exact Keep.nil _ | exact Ext.one _ _ | apply Keep.cons)); done))
        · repeat' (first | (apply R.is1; first | (apply R.isBin; (apply R.pure; exact rfl; first | (apply Ok1.add64; exact rfl; exact rfl; omega; omega) | (apply Ok1.lss_t; exact rfl; exact rfl; omega) | (apply Ok1.eql_f; exact rfl; exact rfl; omega))) | (apply R.pure; exact rfl; first | (apply Ok1.indexAddrP; (iterate 4 exact rfl); exact hpe; exact rfl; omega; omega) | (apply Ok1.load; exact rfl; (apply Ld.row0 H; exact rfl; exact List.not_mem_nil; (iterate 3 exact rfl))) | (apply Ok1.move; exact rfl) | (apply Ok1.assign; exact rfl))) | apply R.nil | (apply T.is; first | (apply T.drawC (id := 6) [] (by decide); ((apply A.take 0; exact rfl; exact rfl; kernel_rfl; kernel_rfl; kernel_rfl; (apply Ok1.move; exact rfl)) <;> (apply A.take 1; exact rfl; exact rfl; kernel_rfl; kernel_rfl; kernel_rfl; (apply Ok1.move; exact rfl)) <;> (apply A.take 2; exact rfl; exact rfl; kernel_rfl; kernel_rfl; kernel_rfl; (apply Ok1.indexAddr; (iterate 5 exact rfl); omega; omega)) <;> (apply A.take 4; exact rfl; exact rfl; kernel_rfl; kernel_rfl; kernel_rfl; (apply Ok1.move; exact rfl)) <;> (apply A.take 5; exact rfl; exact rfl; kernel_rfl; kernel_rfl; kernel_rfl; (apply Ok1.move; exact rfl)) <;> (apply A.take 6; exact rfl; exact rfl; kernel_rfl; kernel_rfl; kernel_rfl; (apply Ok1.indexAddrP; (iterate 4 exact rfl); exact hpe; exact rfl; omega; omega)) <;> (apply A.take 7; exact rfl; exact rfl; kernel_rfl; kernel_rfl; kernel_rfl; (apply Ok1.load; exact rfl; (apply Ld.row0 H; exact rfl; exact List.not_mem_nil; (iterate 3 exact rfl)))) <;> (apply A.one 3; kernel_rfl; exact rfl; (((apply R.pure; exact rfl; (apply Ok1.load; exact rfl; (apply Ld.own1; exact rfl; exact rfl; exact At.head; exact hgz))))); apply R.nil; refine ⟨?_, ?_⟩; (focus ((repeat' (exact trivial))))) <;> (apply A.take 8; exact rfl; exact rfl; kernel_rfl; kernel_rfl; kernel_rfl; (apply Ok1.xorK; exact rfl; exact rfl)) <;> (apply A.take 9; exact rfl; exact rfl; kernel_rfl; kernel_rfl; kernel_rfl; (apply Ok1.indexAddr; (iterate 5 exact rfl); omega; omega)) <;> (apply A.one 10; kernel_rfl; exact rfl; (((apply R.store; (iterate 6 exact rfl); exact Upd.head; exact hsz))); apply R.nil; refine ⟨?_, ?_⟩; (focus ((repeat' (exact trivial))))) <;> (apply A.done; kernel_rfl))) | apply T.seq | apply T.region | apply T.block | apply T.skip | (apply T.cond_t; exact rfl) | (apply T.cond_f; exact rfl)))
          refine ⟨i + 1, by omega, by omega, ⟨rfl, rfl, rfl, rfl, rfl, trivial⟩, ?_⟩
          simp only [hZ2]
          (focus ((repeat' (first | exact Keep.nil _ | exact Ext.one _ _ | apply Keep.cons)); done))
      · have him : i = b.length := by omega
        subst him
        repeat' (first | (apply R.is1; first | (apply R.isBin; (apply R.pure; exact rfl; (apply Ok1.lss_f; exact rfl; exact rfl; omega))) | (apply R.pure; exact rfl; first | (apply Ok1.move; exact rfl) | (apply Ok1.assign; exact rfl))) | apply R.nil | (apply T.is; first | apply T.seq | apply T.region | apply T.exit | apply T.ret | (apply T.cond_f; exact rfl)))
        (apply RetOk.t; exact rfl)
        have h1 : turnI (b.take b.length) (s.take b.length) ++ b.drop b.length = turnI b s := by rw [List.take_length, ← hs, List.take_length, hs, List.drop_length, List.append_nil]
        rw [h1]
        refine ⟨_, by (focus ((repeat' (first | exact Keep.nil _ | exact Ext.one _ _ | apply Keep.cons)); done)), some (bq, j, junk), ⟨?_, hov.2⟩, rfl, rfl⟩
        rw [u8s_len, turnI_len hs.symm]
        omega
end Go.Proofs.Ytligngjcnlbgmaa
set_option linter.unusedSimpArgs false
set_option linter.unusedVariables false
namespace Go.Proofs.Ytligngjcnlbgmaa
open Go.RowKit Go.Shelf
set_option maxRecDepth 100000
theorem stag_ok (bk : Nat) (k : List Int) (hkl : k.length ≤ 999999000) (hkb : Byt k) (pp : Option Addr) (cap : Nat) (ps : List Pt) (hm2 : ps.length ≤ 100) (hpb : ∀ x ∈ ps, Byt x.xs) (hbig : ∀ x ∈ ps, x.xs.length ≤ 1000000) (hbl : (frameI (ps.map (·.xs))).length ≤ 999998000) (w : World) (hk : KeyR w bk k) (hp : RdSl w pp Pt.v ps) (hall : ∀ x ∈ ps, RdSl w x.p u8V x.xs) :
    CallW Try.prog 39 [.pointer (some ⟨bk, 0, none⟩), .slice pp ps.length cap] w fun v _ => v = .agg ⟨u8s (hmacI (deriveI k sBind []) (frameI (ps.map (·.xs))))⟩ := by
  have hfb : Byt (frameI (ps.map (·.xs))) := frame_byt fun l hl => by
    obtain ⟨x, hx, rfl⟩ := List.mem_map.1 hl
    exact hpb x hx
  have hdr := fun w1 (hc : Chg [] w w1) => derive_ok bk k hkl hkb sBind (by decide) none 0 0 [] rfl (by decide) (by simp) (by simp [frameI, len4, strI, sBind]) (by simp) w1 (hk.chg hc) (.inl rfl) (by simp)
  simp only [List.map_nil] at hdr
  have hdl := derive_len k sBind []
  have hdb := derive_byt k sBind []
  generalize deriveI k sBind [] = k2 at *
  refine enterW (tb := tb) Try.func39 rfl Try.ntmps39 rfl ?_
  repeat' (first | (apply R.is1; first | (apply R.isCall; (apply R.pure; exact rfl; (apply Ok1.lenS; (iterate 3 exact rfl)))) | (apply R.pure; exact rfl; first | (apply Ok1.move; exact rfl) | (apply Ok1.assign; exact rfl)) | (apply R.alloc; (iterate 3 exact rfl); intro)) | apply R.nil | (apply T.is; first | apply T.seq | apply T.region | apply T.block))
  rename_i b0
  obtain ⟨src, hsrc⟩ : ∃ src : World → Prop, src = fun W => ∀ x ∈ ps, RdSl W x.p u8V x.xs := ⟨_, rfl⟩
  apply T.loopK (α := Nat × FO) (I := fun y => y.1 ≤ ps.length ∧ FOok y.2 ((ps.take y.1).map (·.xs)) src) (σi := fun y => [(0, .pointer (some ⟨bk, 0, none⟩)), (4, .pointer (some ⟨b0, 0, none⟩)), (5, slV y.2.ov y.2.pts.length), (8, .slice pp ps.length cap), (9, .int .i64 ps.length), (10, .int .i64 y.1)])
    (Li := fun y => (b0, .cells ⟨[.int .u8 0, .int .u8 0, .int .u8 0, .int .u8 0, .int .u8 0, .int .u8 0, .int .u8 0, .int .u8 0, .int .u8 0, .int .u8 0, .int .u8 0, .int .u8 0, .int .u8 0, .int .u8 0, .int .u8 0, .int .u8 0, .int .u8 0, .int .u8 0, .int .u8 0, .int .u8 0, .int .u8 0, .int .u8 0, .int .u8 0, .int .u8 0, .int .u8 0, .int .u8 0, .int .u8 0, .int .u8 0, .int .u8 0, .int .u8 0, .int .u8 0, .int .u8 0]⟩ 90 (0, 0)) :: (blkL 22 y.2.ov (fl Pt.v y.2.pts) ++ y.2.ex)) (μ := fun y => ps.length - y.1)
    (i0 := (0, ⟨none, [], []⟩))
  · exact ⟨Nat.zero_le _, OvOk.start 1, rfl, rfl, fun W _ _ x hx => by cases hx⟩
  · exact ⟨rfl, rfl, rfl, rfl, rfl, rfl, trivial⟩
  · simp only [blkL, List.append_nil]
    (focus ((repeat' (first | exact Keep.nil _ | exact Ext.one _ _ | apply Keep.cons)); done))
  · rintro ⟨i, f⟩ ⟨hi, hov, hlen, hcat, hrd⟩
    simp only at hi hov hlen hcat hrd ⊢
    have hll : ((ps.take i).map (·.xs)).length = i := by simp; omega
    rw [hll] at hlen
    rcases Nat.lt_or_ge i ps.length with hlt | hge
    · obtain ⟨x, hx⟩ : ∃ x, ps[i]? = some x := ⟨_, List.getElem?_eq_getElem (by omega)⟩
      obtain ⟨b', o', hpe, H⟩ := hp.at hx
      replace H := H 1 Pt.v_len
      have hxb := hbig x (List.mem_of_getElem? hx)
      have hls : (ps.take (i + 1)).map (·.xs) = (ps.take i).map (·.xs) ++ [x.xs] := by rw [List.take_add_one, hx]; simp
      obtain ⟨ov, pts, ex⟩ := f
      simp only at hov hlen hcat hrd ⊢
      have hfo := fun w1 => four_ok (x.xs.length : Int) (by omega) (by omega) w1
      repeat' (first | (apply R.is1; first | (apply R.isBin; (apply R.pure; exact rfl; first | (apply Ok1.add64; exact rfl; exact rfl; omega; omega) | (apply Ok1.lss_t; exact rfl; exact rfl; omega))) | (apply R.isCall; first | (apply R.callE (vs := [.int .i64 x.xs.length]); (iterate 3 exact rfl); exact Ext.none _; intro w1 hw1; exact hfo w1; rintro v Lo ⟨b4, rfl, rfl⟩) | (apply R.appendRd (xs := [⟨some ⟨b4, 0, none⟩, 4, len4 x.xs.length⟩, x]) (v := Pt.v) (sz := 1) (ov := ov) (n := pts.length) (old := fl Pt.v pts); (iterate 12 exact rfl); exact hov; (focus ((repeat' (first | exact Ext.here _ _ | apply Ext.cons)); done)); exact rfl; exact Pt.v_len; exact rfl; (intro w1 hw1; exact RdSl.of (junk := []) hw1 (by exact At.head) rfl); exact rfl; omega; intro ov1 hov1 hsome) | (apply R.pure; exact rfl; (apply Ok1.lenS; (iterate 3 exact rfl)))) | (apply R.pure; exact rfl; first | (apply Ok1.indexAddrP; (iterate 4 exact rfl); exact hpe; exact rfl; omega; omega) | (apply Ok1.load; exact rfl; apply Ld.row0 H; exact rfl; exact List.not_mem_nil; (iterate 3 exact rfl)) | (apply Ok1.move; exact rfl) | (apply Ok1.assign; exact rfl)) | (apply R.buildSlice; (iterate 12 exact rfl); intro)) | apply R.nil | (apply T.is; first | apply T.seq | apply T.region | apply T.block | apply T.skip | (apply T.cond_t; exact rfl)))
      rw [← fl_app] at hov1 ⊢
      refine ⟨(i + 1, ⟨ov1, pts ++ [⟨some ⟨b4, 0, none⟩, 4, len4 x.xs.length⟩, x], (b4, .cells ⟨u8s (len4 x.xs.length)⟩ 5 (0, 0)) :: ex⟩), ⟨by simp only; omega, ?_⟩, by simp only; omega, ⟨rfl, rfl, ?_, rfl, rfl, rfl, trivial⟩, ?_⟩
      · rw [hls]
        refine ⟨by simpa using hov1, by simp [hlen]; omega, ?_, fun W hex hs y hy => ?_⟩
        · rw [frame_app, cat_app, hcat, frame_one]
          simp [cat]
        · rcases List.mem_append.1 hy with hy | hy
          · exact hrd W (fun z hz => hex z (List.mem_cons_of_mem _ hz)) hs y hy
          · rcases List.mem_cons.1 hy with rfl | hy
            · exact RdSl.heap (junk := []) (e := 5) (fz := (0, 0)) (by rw [fl_u8, List.append_nil]; exact hex _ List.mem_cons_self)
            · rw [List.mem_singleton.1 hy]
              rw [hsrc] at hs
              exact hs x (List.mem_of_getElem? hx)
      · simp only [List.length_append, List.length_cons, List.length_nil]
        rfl
      · simp only [List.length_append, List.length_cons, List.length_nil, List.append_assoc, List.cons_append, List.nil_append]
        (focus ((repeat' (first | exact Ext.one _ _ | exact Ext.here _ _ | exact Ext.all _ | apply Keep.cons | apply Keep.app | apply Keep.last | apply Ext.cons | apply Ext.app)); done))
    · have him : i = ps.length := by omega
      subst him
      rw [List.take_length] at hcat
      have hfl : f.pts.length ≤ 1000000000 := by omega
      have hls : (u8s (hmacI k2 (frameI (ps.map (·.xs))))).length = 32 := by rw [u8s_len, hmac_len]
      have hone := u8s_one (hmacI k2 (frameI (ps.map (·.xs))))
      have htg : ∀ L w1 bd, Hp w [] L w1 → KeyR w1 bd k2 → (∀ z ∈ blkL 22 f.ov (fl Pt.v f.pts), z ∈ L) → (∀ z ∈ f.ex, z ∈ L) → CallW Try.prog 48 [.pointer (some ⟨bd, 0, none⟩), .slice (ovp f.ov) f.pts.length (ovc f.ov f.pts.length)] w1 fun v _ => v = .agg ⟨u8s (hmacI k2 (frameI (ps.map (·.xs))))⟩ := by
        intro L w1 bd hw h1 h2 h3
        have h := ktag_ok bd k2 (by rw [hdl]; decide) hdb (ovp f.ov) f.pts.length (ovc f.ov f.pts.length) f.pts rfl (by rw [hcat]; exact hfb) (by rw [hcat]; exact hbl) hfl w1 h1 (RdSl.own' hw h2 hov Pt.v_len) (hrd w1 (fun z hz => hw.get _ _ (h3 z hz)) (by rw [hsrc]; exact fun x hx => (hall x hx).chg' hw.chg (fun _ => Off.nil _)))
        rw [hcat] at h
        exact h
      have hovl := slV_eq hov
      generalize u8s (hmacI k2 (frameI (ps.map (·.xs)))) = D at *
      have hset : ∀ cs : List Value, cs.length = 32 → setE cs 0 D = some D := fun cs h => setE_all (by rw [hls, h])
      obtain ⟨ov, pts, ex⟩ := f
      simp only at hov hovl htg hfl ⊢
      rw [hovl]
      generalize hPL : blkL 22 ov (fl Pt.v pts) = LP at *
      repeat' (first | (apply R.is1; first | (apply R.isBin; (apply R.pure; exact rfl; (apply Ok1.lss_f; exact rfl; exact rfl; omega))) | (apply R.isCall; (apply R.callE (vs := [.pointer (some ⟨bk, 0, none⟩), .string sBind, .slice none 0 0]); (iterate 3 exact rfl); exact Ext.none _; intro w1 hw1; exact hdr w1 hw1.chg; rintro v Lo ⟨bd, ovd, rfl, hovd, rfl⟩)) | (apply R.pure; exact rfl; (apply Ok1.move; exact rfl))) | apply R.nil | (apply T.is; first | apply T.seq | apply T.region | apply T.exit | (apply T.cond_f; exact rfl)))
      have hKR : ∀ L w1, Hp w [] L w1 → (∀ z ∈ KL bd ovd k2, z ∈ L) → KeyR w1 bd k2 := fun L w1 h1 h2 => KeyR.of (by rw [hdl]; exact hovd) h1 h2
      generalize KL bd ovd k2 = LK at *
      repeat' (first | (apply R.is1; (apply R.isCall; (apply R.callW (vs := [.pointer (some ⟨bd, 0, none⟩), .slice (ovp ov) pts.length (ovc ov pts.length)]); (iterate 3 exact rfl); intro w1 hw1; exact htg _ w1 bd hw1 (hKR _ w1 hw1 (Ext.mem (by (focus ((repeat' (exact Ext.here _ _)); done))))) (Ext.mem (by (focus ((repeat' (first | exact Ext.here _ _ | apply Ext.cons | apply Ext.app)); done)))) (Ext.mem (by (focus ((repeat' (first | exact Ext.all _ | apply Ext.cons | apply Ext.app)); done)))); rintro v rfl))) | (apply R.is0; (apply R.store; (iterate 4 exact rfl); exact hls; exact hone; (focus ((repeat' (first | exact Upd.head | apply Upd.right)); done)); exact hset _ rfl)) | apply R.nil | (apply T.is; apply T.ret))
      (apply RetOk.c; exact rfl; (apply Ld.ownk; exact rfl; exact rfl; (focus ((repeat' (first | exact At.head | apply At.right)); done)); exact subE_all hls))
      rfl
end Go.Proofs.Ytligngjcnlbgmaa
set_option linter.unusedSimpArgs false
set_option linter.unusedVariables false
namespace Go.Proofs.Ytligngjcnlbgmaa
open Go.RowKit Go.Shelf
set_option maxRecDepth 100000
theorem bv8_nat (v : BitVec 8) : IntKind.u8.wrap (v.toNat : Int) = (v.toNat : Int) := by
  rw [u8_mod]
  have := v.isLt
  omega
theorem bv8_eq {x : Int} (h : 0 ≤ x ∧ x ≤ 255) : ((BitVec.ofInt 8 x).toNat : Int) = x := by
  rw [BitVec.toNat_ofInt]
  omega
theorem xor8_iff {x y : Int} (hx : 0 ≤ x ∧ x ≤ 255) (hy : 0 ≤ y ∧ y ≤ 255) : xorI .u8 x y = 0 ↔ x = y := by
  have e : xorI .u8 x y = ((BitVec.ofInt 8 x ^^^ BitVec.ofInt 8 y).toNat : Int) := bv8_nat _
  rw [e]
  constructor
  · intro h
    have h1 : BitVec.ofInt 8 x ^^^ BitVec.ofInt 8 y = 0#8 := BitVec.eq_of_toNat_eq (by simpa using Int.ofNat.inj h)
    have h2 : BitVec.ofInt 8 x = BitVec.ofInt 8 y := BitVec.xor_eq_zero_iff.1 h1
    rw [← bv8_eq hx, ← bv8_eq hy, h2]
  · rintro rfl
    simp
theorem or8_range (x y : Int) : 0 ≤ orI .u8 x y ∧ orI .u8 x y ≤ 255 := by
  unfold orI; rw [u8_mod]; omega
theorem or8_iff {x y : Int} (hx : 0 ≤ x ∧ x ≤ 255) (hy : 0 ≤ y ∧ y ≤ 255) : orI .u8 x y = 0 ↔ x = 0 ∧ y = 0 := by
  have e : orI .u8 x y = ((BitVec.ofInt 8 x ||| BitVec.ofInt 8 y).toNat : Int) := bv8_nat _
  rw [e]
  constructor
  · intro h
    have h1 : BitVec.ofInt 8 x ||| BitVec.ofInt 8 y = 0#8 := BitVec.eq_of_toNat_eq (by simpa using Int.ofNat.inj h)
    obtain ⟨h2, h3⟩ := BitVec.or_eq_zero_iff.1 h1
    rw [← bv8_eq hx, ← bv8_eq hy, h2, h3]
    exact ⟨rfl, rfl⟩
  · rintro ⟨rfl, rfl⟩
    rfl
theorem mequal_ok (p1 p2 : Option Addr) (n1 n2 c1 c2 : Nat) (xs ys : List Int) (hn1 : n1 = xs.length) (hn2 : n2 = ys.length) (hbig : n1 ≤ 1000000000) (hb1 : Byt xs) (hb2 : Byt ys) (w : World) (h1 : RdSl w p1 u8V xs) (h2 : RdSl w p2 u8V ys) : CallW Try.prog 52 [.slice p1 n1 c1, .slice p2 n2 c2] w fun v _ => v = .bool (decide (xs = ys)) := by
  subst hn1 hn2
  refine enterW (tb := tb) Try.func52 rfl Try.ntmps52 rfl ?_
  by_cases hl : xs.length = ys.length
  case neg =>
    have hne : ¬ xs = ys := fun h => hl (by rw [h])
    have hl2 : ((xs.length : Nat) : Int) ≠ ys.length := by omega
    repeat' (first | (apply R.is1; first | (apply R.isBin; (apply R.pure; exact rfl; (apply Ok1.neq_t; exact rfl; exact rfl; omega))) | (apply R.isCall; (apply R.pure; exact rfl; (apply Ok1.lenS; (iterate 3 exact rfl)))) | (apply R.pure; exact rfl; first | (apply Ok1.move; exact rfl) | (apply Ok1.assign; exact rfl))) | apply R.nil | (apply T.is; first | apply T.seq | apply T.region | apply T.ret | (apply T.cond_t; exact rfl)))
    (apply RetOk.t; exact rfl)
    rw [decide_eq_false hne]
  repeat' (first | (apply R.is1; first | (apply R.isBin; (apply R.pure; exact rfl; (apply Ok1.neq_f; exact rfl; exact rfl; omega))) | (apply R.isCall; (apply R.pure; exact rfl; (apply Ok1.lenS; (iterate 3 exact rfl)))) | (apply R.pure; exact rfl; first | (apply Ok1.move; exact rfl) | (apply Ok1.assign; exact rfl))) | apply R.nil | (apply T.is; first | apply T.seq | apply T.region | apply T.block | apply T.skip | (apply T.cond_f; exact rfl)))
  apply T.loopK (α := Nat × Int) (I := fun q => q.1 ≤ xs.length ∧ (0 ≤ q.2 ∧ q.2 ≤ 255) ∧ (q.2 = 0 ↔ xs.take q.1 = ys.take q.1)) (σi := fun q => [(0, .slice p1 xs.length c1), (1, .slice p2 ys.length c2), (5, .int .u8 q.2), (13, .int .i64 xs.length), (14, .int .i64 q.1)]) (Li := fun _ => []) (μ := fun q => xs.length - q.1) (i0 := (0, 0))
  · exact ⟨Nat.zero_le _, by decide, by simp⟩
  · exact ⟨rfl, rfl, rfl, rfl, rfl, trivial⟩
  · (focus ((repeat' (exact Keep.nil _)); done))
  · rintro ⟨i, u⟩ ⟨hi, hu, hq⟩
    simp only at hi hu hq ⊢
    rcases Nat.lt_or_ge i xs.length with hlt | hge
    · obtain ⟨x, hx⟩ : ∃ x, xs[i]? = some x := ⟨_, List.getElem?_eq_getElem (by omega)⟩
      obtain ⟨y, hy⟩ : ∃ y, ys[i]? = some y := ⟨_, List.getElem?_eq_getElem (by omega)⟩
      obtain ⟨b1, o1, hpe1, H1⟩ := h1.at hx
      obtain ⟨b2, o2, hpe2, H2⟩ := h2.at hy
      replace H1 := H1 1 u8V_len
      replace H2 := H2 1 u8V_len
      have hxb := hb1 x (List.mem_of_getElem? hx)
      have hyb := hb2 y (List.mem_of_getElem? hy)
      have ho := or8_iff hu (xor8_range x y)
      rw [xor8_iff hxb hyb] at ho
      repeat' (first | (apply R.is1; first | (apply R.isBin; (apply R.pure; exact rfl; first | (apply Ok1.add64; exact rfl; exact rfl; omega; omega) | (apply Ok1.lss_t; exact rfl; exact rfl; omega))) | (apply R.pure; exact rfl; first | (apply Ok1.move; exact rfl) | (apply Ok1.assign; exact rfl))) | apply R.nil | (apply T.is; first | (apply T.drawC (id := 7) [] (by decide); ((apply A.take 0; exact rfl; exact rfl; kernel_rfl; kernel_rfl; kernel_rfl; (apply Ok1.move; exact rfl)) <;> (apply A.take 1; exact rfl; exact rfl; kernel_rfl; kernel_rfl; kernel_rfl; (apply Ok1.move; exact rfl)) <;> (apply A.take 2; exact rfl; exact rfl; kernel_rfl; kernel_rfl; kernel_rfl; (apply Ok1.move; exact rfl)) <;> (apply A.take 3; exact rfl; exact rfl; kernel_rfl; kernel_rfl; kernel_rfl; (apply Ok1.indexAddrP; (iterate 4 exact rfl); (exact hpe1); exact rfl; omega; omega)) <;> (apply A.take 4; exact rfl; exact rfl; kernel_rfl; kernel_rfl; kernel_rfl; (apply Ok1.load; exact rfl; (apply Ld.row0 H1; exact rfl; exact List.not_mem_nil; (iterate 3 exact rfl)))) <;> (apply A.take 5; exact rfl; exact rfl; kernel_rfl; kernel_rfl; kernel_rfl; (apply Ok1.move; exact rfl)) <;> (apply A.take 6; exact rfl; exact rfl; kernel_rfl; kernel_rfl; kernel_rfl; (apply Ok1.move; exact rfl)) <;> (apply A.take 7; exact rfl; exact rfl; kernel_rfl; kernel_rfl; kernel_rfl; (apply Ok1.indexAddrP; (iterate 4 exact rfl); (exact hpe2); exact rfl; omega; omega)) <;> (apply A.take 8; exact rfl; exact rfl; kernel_rfl; kernel_rfl; kernel_rfl; (apply Ok1.load; exact rfl; (apply Ld.row0 H2; exact rfl; exact List.not_mem_nil; (iterate 3 exact rfl)))) <;> (apply A.take 9; exact rfl; exact rfl; kernel_rfl; kernel_rfl; kernel_rfl; (apply Ok1.xorK; exact rfl; exact rfl)) <;> (apply A.take 10; exact rfl; exact rfl; kernel_rfl; kernel_rfl; kernel_rfl; (apply Ok1.orK; exact rfl; exact rfl)) <;> (apply A.take 11; exact rfl; exact rfl; kernel_rfl; kernel_rfl; kernel_rfl; (apply Ok1.assign; exact rfl)) <;> (apply A.done; kernel_rfl))) | apply T.seq | apply T.region | apply T.block | apply T.skip | (apply T.cond_t; exact rfl)))
      refine ⟨(i + 1, orI .u8 u (xorI .u8 x y)), ⟨by simp only; omega, or8_range _ _, ?_⟩, by simp only; omega, ⟨rfl, rfl, rfl, rfl, rfl, trivial⟩, by (focus ((repeat' (exact Keep.nil _)); done))⟩
      simp only [ho, hq]
      rw [List.take_add_one, List.take_add_one, hx, hy]
      constructor
      · rintro ⟨h3, rfl⟩
        rw [h3]
      · intro h3
        have h4 := List.append_inj h3 (by rw [List.length_take, List.length_take]; omega)
        exact ⟨h4.1, by simpa using h4.2⟩
    · have him : i = xs.length := by omega
      subst him
      rw [List.take_length, hl, List.take_length] at hq
      by_cases hu0 : u = 0
      · subst hu0
        repeat' (first | (apply R.is1; first | (apply R.isBin; (apply R.pure; exact rfl; first | (apply Ok1.lss_f; exact rfl; exact rfl; omega) | (apply Ok1.eql_t; exact rfl; exact rfl; omega))) | (apply R.pure; exact rfl; first | (apply Ok1.move; exact rfl) | (apply Ok1.assign; exact rfl))) | apply R.nil | (apply T.is; first | apply T.seq | apply T.region | apply T.exit | apply T.ret | (apply T.cond_f; exact rfl)))
        all_goals (apply RetOk.t; exact rfl)
        all_goals rw [decide_eq_true (hq.1 rfl)]
        all_goals rfl
      · repeat' (first | (apply R.is1; first | (apply R.isBin; (apply R.pure; exact rfl; first | (apply Ok1.lss_f; exact rfl; exact rfl; omega) | (apply Ok1.eql_f; exact rfl; exact rfl; omega))) | (apply R.pure; exact rfl; first | (apply Ok1.move; exact rfl) | (apply Ok1.assign; exact rfl))) | apply R.nil | (apply T.is; first | apply T.seq | apply T.region | apply T.exit | apply T.ret | (apply T.cond_f; exact rfl)))
        all_goals (apply RetOk.t; exact rfl)
        all_goals rw [decide_eq_false (fun h => hu0 (hq.2 h))]
        all_goals rfl
end Go.Proofs.Ytligngjcnlbgmaa
