/- Contracts of wire: a number's bytes, a right field. -/
import Derived.Test.YtiegdpmkgegbaaaMc4
set_option linter.unusedSimpArgs false
set_option linter.unusedVariables false
namespace Go.Proofs.Ytiegdpmkgegbaaa
open Go.RowKit Go.Shelf
set_option maxRecDepth 100000

def numI (s : Nat) (n : Int) : List Int := match s with
  | 0 => [n % 256]
  | 1 => [n / 256 % 256, n % 256]
  | _ => len4 n
theorem num_byt (s : Nat) (n : Int) : Byt (numI s n) := by
  unfold numI
  split
  · intro y hy; rw [List.mem_singleton.1 hy]; omega
  · intro y hy; simp only [List.mem_cons, List.not_mem_nil, or_false] at hy; rcases hy with rfl | rfl <;> omega
  · exact len4_byt n
theorem width_ok (s v : Int) (h0 : 0 ≤ s) (h1 : s ≤ 10) (h : IntKind.i64.wrap (1 * pw s.toNat) = v) : CallP Try.prog 106 [.int .i64 s] (.int .i64 v) := by
  refine enterP (tb := tb) Try.func106 rfl Try.ntmps106 rfl fun w => ?_
  have hb : s.toNat ≤ IntKind.i64.bits := by show s.toNat ≤ 64; omega
  repeat' (first | (apply R.is1; first | (apply R.isBin; (apply R.pure; exact rfl; (apply Ok1.shl; exact rfl; exact rfl; omega; exact hb; exact rfl))) | (apply R.pure; exact rfl; first | (apply Ok1.move; exact rfl) | (apply Ok1.assign; exact rfl))) | apply R.nil | (apply T.is; first | apply T.seq | apply T.region | apply T.ret))
  (apply RetOk.t; exact rfl)
  rw [h]
theorem Keep.eq1 {b : Nat} {e : TypeId} {fz : Nat × Nat} {A B : List Value} (h : A = B) : Keep [(b, .cells ⟨A⟩ e fz)] [(b, .cells ⟨B⟩ e fz)] := by subst h; (focus ((repeat' (first | exact Keep.nil _ | exact Ext.one _ _ | apply Keep.cons)); done))
theorem number_ok (s : Nat) (n : Int) (hs : s = 0 ∨ s = 1 ∨ s = 2) (h0 : 0 ≤ n) (h1 : n ≤ 9223372036854775807) (w : World) : CallM Try.prog 107 [.int .i64 s, .int .i64 n] [] w fun v L => ∃ b, v = .slice (some ⟨b, 0, none⟩) (numI s n).length (numI s n).length ∧ L = [(b, .cells ⟨u8s (numI s n)⟩ 5 (0, 0))] := by
  have hc : IntKind.u64.wrap n = n := wrap_u64 h0 (by omega)
  rcases hs with rfl | rfl | rfl
  · refine enterK (tb := tb) Try.func107 rfl Try.ntmps107 rfl ?_
    repeat' (first | (apply R.is1; first | (apply R.make1 (n := 1); (iterate 9 exact rfl); omega; intro bt) | (apply R.isBin; (apply R.pure; exact rfl; first | (apply Ok1.shr; exact rfl; exact rfl; omega; exact Nat.le_of_ble_eq_true rfl; exact rfl) | (apply Ok1.add64; exact rfl; exact rfl; omega; omega) | (apply Ok1.sub64; exact rfl; exact rfl; omega; omega) | (apply Ok1.lss_t; exact rfl; exact rfl; omega) | (apply Ok1.lss_f; exact rfl; exact rfl; omega) | (apply Ok1.mul64; exact rfl; exact rfl; omega; omega))) | (apply R.isCall; first | apply R.callP rfl rfl rfl (width_ok 0 1 (by decide) (by decide) (by decide)) | (apply R.pure; exact rfl; (apply Ok1.lenS; (iterate 3 exact rfl)))) | (apply R.pure; exact rfl; first | (apply Ok1.move; exact rfl) | (apply Ok1.assign; exact rfl) | (apply Ok1.indexAddr; (iterate 5 exact rfl); omega; omega) | (apply Ok1.convU64; (iterate 5 exact rfl); omega; omega) | (apply Ok1.conv; (iterate 5 exact rfl)))) | (apply R.is0; (apply R.store; (iterate 6 exact rfl); exact Upd.head; exact rfl)) | apply R.nil | (apply T.is; first | apply T.rounds 2 | apply T.seq | apply T.region | apply T.block | apply T.skip | apply T.exit | apply T.ret | (apply T.cond_t; exact rfl) | (apply T.cond_f; exact rfl)))
    (apply RetOk.t; exact rfl)
    refine ⟨_, ?_, bt, rfl, rfl⟩
    simp only [u8_mod]
    apply Keep.eq1
    simp [numI, u8s, len4, pw]
  · refine enterK (tb := tb) Try.func107 rfl Try.ntmps107 rfl ?_
    repeat' (first | (apply R.is1; first | (apply R.make1 (n := 2); (iterate 9 exact rfl); omega; intro bt) | (apply R.isBin; (apply R.pure; exact rfl; first | (apply Ok1.shr; exact rfl; exact rfl; omega; exact Nat.le_of_ble_eq_true rfl; exact rfl) | (apply Ok1.add64; exact rfl; exact rfl; omega; omega) | (apply Ok1.sub64; exact rfl; exact rfl; omega; omega) | (apply Ok1.lss_t; exact rfl; exact rfl; omega) | (apply Ok1.lss_f; exact rfl; exact rfl; omega) | (apply Ok1.mul64; exact rfl; exact rfl; omega; omega))) | (apply R.isCall; first | apply R.callP rfl rfl rfl (width_ok 1 2 (by decide) (by decide) (by decide)) | (apply R.pure; exact rfl; (apply Ok1.lenS; (iterate 3 exact rfl)))) | (apply R.pure; exact rfl; first | (apply Ok1.move; exact rfl) | (apply Ok1.assign; exact rfl) | (apply Ok1.indexAddr; (iterate 5 exact rfl); omega; omega) | (apply Ok1.convU64; (iterate 5 exact rfl); omega; omega) | (apply Ok1.conv; (iterate 5 exact rfl)))) | (apply R.is0; (apply R.store; (iterate 6 exact rfl); exact Upd.head; exact rfl)) | apply R.nil | (apply T.is; first | apply T.rounds 3 | apply T.seq | apply T.region | apply T.block | apply T.skip | apply T.exit | apply T.ret | (apply T.cond_t; exact rfl) | (apply T.cond_f; exact rfl)))
    (apply RetOk.t; exact rfl)
    refine ⟨_, ?_, bt, rfl, rfl⟩
    simp only [u8_mod]
    apply Keep.eq1
    simp [numI, u8s, len4, pw]
  · refine enterK (tb := tb) Try.func107 rfl Try.ntmps107 rfl ?_
    repeat' (first | (apply R.is1; first | (apply R.make1 (n := 4); (iterate 9 exact rfl); omega; intro bt) | (apply R.isBin; (apply R.pure; exact rfl; first | (apply Ok1.shr; exact rfl; exact rfl; omega; exact Nat.le_of_ble_eq_true rfl; exact rfl) | (apply Ok1.add64; exact rfl; exact rfl; omega; omega) | (apply Ok1.sub64; exact rfl; exact rfl; omega; omega) | (apply Ok1.lss_t; exact rfl; exact rfl; omega) | (apply Ok1.lss_f; exact rfl; exact rfl; omega) | (apply Ok1.mul64; exact rfl; exact rfl; omega; omega))) | (apply R.isCall; first | apply R.callP rfl rfl rfl (width_ok 2 4 (by decide) (by decide) (by decide)) | (apply R.pure; exact rfl; (apply Ok1.lenS; (iterate 3 exact rfl)))) | (apply R.pure; exact rfl; first | (apply Ok1.move; exact rfl) | (apply Ok1.assign; exact rfl) | (apply Ok1.indexAddr; (iterate 5 exact rfl); omega; omega) | (apply Ok1.convU64; (iterate 5 exact rfl); omega; omega) | (apply Ok1.conv; (iterate 5 exact rfl)))) | (apply R.is0; (apply R.store; (iterate 6 exact rfl); exact Upd.head; exact rfl)) | apply R.nil | (apply T.is; first | apply T.rounds 5 | apply T.seq | apply T.region | apply T.block | apply T.skip | apply T.exit | apply T.ret | (apply T.cond_t; exact rfl) | (apply T.cond_f; exact rfl)))
    (apply RetOk.t; exact rfl)
    refine ⟨_, ?_, bt, rfl, rfl⟩
    simp only [u8_mod]
    apply Keep.eq1
    simp [numI, u8s, len4, pw]
end Go.Proofs.Ytiegdpmkgegbaaa
