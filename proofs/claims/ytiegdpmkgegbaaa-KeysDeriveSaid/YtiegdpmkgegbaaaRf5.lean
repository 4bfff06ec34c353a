/- The document's roots and its table. -/
import Derived.Test.YtiegdpmkgegbaaaRf4
set_option linter.unusedSimpArgs false
set_option linter.unusedVariables false
namespace Go.Proofs.Ytiegdpmkgegbaaa
open Go.RowKit Go.Shelf
set_option maxRecDepth 100000

def rootI (p n : Nat) : Nat → Nat → Nat
  | 0, x => x
  | k + 1, x => if (x + 2 ^ k) ^ n ≤ p * 65536 ^ (2 * n) then rootI p n k (x + 2 ^ k) else rootI p n k x
def rootR (p n : Nat) : Nat := rootI p n 36 0 % 4294967296
theorem root_ok (p n : Nat) (hn : n = 2 ∨ n = 3) (hp : p < 65536) : CallP Try.prog 43 [.int .u64 p, .int .u64 n] (.int .u32 (rootR p n)) := by
  refine enterP (tb := tb) Try.func43 rfl Try.ntmps43 rfl fun w => ?_
  obtain ⟨V, hV⟩ : ∃ V, V = rootI p n 36 0 := ⟨_, rfl⟩
  have hVr : rootR p n = V % 4294967296 := by rw [hV]; rfl
  rw [hVr]
  repeat' (first | (apply R.is1; (apply R.pure; exact rfl; (apply Ok1.assign; exact rfl))) | apply R.nil | (apply T.is; first | apply T.seq | apply T.region | apply T.block))
  apply T.loopK (α := Nat × Nat) (I := fun x => x.1 ≤ 36 ∧ x.2 + 2 ^ x.1 ≤ 68719476736 ∧ rootI p n x.1 x.2 = V) (σi := fun x => [(0, .int .u64 p), (1, .int .u64 n), (5, .int .u64 x.2), (6, .int .i64 ((x.1 : Int) - 1))]) (Li := fun _ => []) (μ := fun x => x.1) (i0 := (36, 0))
  · exact ⟨by simp only; omega, by simp only; omega, hV.symm⟩
  · exact ⟨rfl, rfl, rfl, rfl, trivial⟩
  · (focus ((repeat' (exact Keep.nil _)); done))
  · rintro ⟨k, x⟩ ⟨hk, hb, hr⟩
    simp only at hk hb hr ⊢
    cases k with
    | zero =>
      have hx : x = V := hr
      subst hx
      rw [Nat.pow_zero] at hb
      repeat' (first | (apply R.is1; first | (apply R.isBin; (apply R.pure; exact rfl; first | (apply Ok1.geq_f; exact rfl; exact rfl; omega) | (apply Ok1.remN; exact rfl; exact rfl; omega; omega))) | (apply R.pure; exact rfl; first | (apply Ok1.convU32; (iterate 5 exact rfl); omega; omega) | (apply Ok1.move; exact rfl) | (apply Ok1.assign; exact rfl))) | apply R.nil | (apply T.is; first | apply T.seq | apply T.region | apply T.exit | apply T.ret | (apply T.cond_f; exact rfl)))
      (apply RetOk.t; exact rfl)
      rw [Int.natCast_emod]
      rfl
    | succ k =>
      have hpw : 2 ^ (k + 1) = 2 * 2 ^ k := by rw [Nat.pow_succ, Nat.mul_comm]
      have hr2 : rootI p n (k + 1) x = if (x + 2 ^ k) ^ n ≤ p * 65536 ^ (2 * n) then rootI p n k (x + 2 ^ k) else rootI p n k x := rfl
      rw [hr] at hr2
      rw [hpw] at hb
      have hpos : 0 < 2 ^ k := Nat.pow_pos (by decide)
      have hsm := small_ok (x + 2 ^ k) n p (by omega) hn hp
      have hkn : (((k + 1 : Nat) : Int) - 1).toNat = k := by omega
      have hk0 : 0 ≤ ((k + 1 : Nat) : Int) - 1 := by omega
      have hk64 : (((k + 1 : Nat) : Int) - 1).toNat ≤ IntKind.u64.bits := by rw [hkn]; show k ≤ 64; omega
      have hpk : pw (((k + 1 : Nat) : Int) - 1).toNat = ((2 ^ k : Nat) : Int) := by rw [hkn, pw_eq, Int.natCast_pow]; rfl
      have hI : ∀ x', x' + 2 * 2 ^ k ≤ 68719476736 + 2 ^ k → x' + 2 ^ k ≤ 68719476736 := fun x' h => by omega
      have hx0 : x + 2 ^ k ≤ 68719476736 := by omega
      have hx1 : x + 2 ^ k + 2 ^ k ≤ 68719476736 := by omega
      have hnxt : ((k + 1 : Nat) : Int) - 1 - 1 = (k : Int) - 1 := by omega
      generalize hq : 2 ^ k = q at *
      have hwr : IntKind.u64.wrap (1 * (q : Int)) = (q : Int) := by rw [Int.one_mul]; exact wrap_u64 (by omega) (by omega)
      have hsum : (x : Int) + (q : Int) = ((x + q : Nat) : Int) := by omega
      rw [← hsum] at hsm
      by_cases hle : (x + q) ^ n ≤ p * 65536 ^ (2 * n)
      · rw [if_pos hle] at hr2
        rw [decide_eq_true hle] at hsm
        repeat' (first | (apply R.is1; first | (apply R.isBin; (apply R.pure; exact rfl; first | (apply Ok1.shlE; exact rfl; exact rfl; exact hk0; exact hk64; exact hpk; exact hwr) | (apply Ok1.addU; exact rfl; exact rfl; omega; omega) | (apply Ok1.sub64; exact rfl; exact rfl; omega; omega) | (apply Ok1.geq_t; exact rfl; exact rfl; omega))) | (apply R.isCall; apply R.callP rfl rfl rfl hsm) | (apply R.pure; exact rfl; first | (apply Ok1.move; exact rfl) | (apply Ok1.assign; exact rfl))) | apply R.nil | (apply T.is; first | apply T.seq | apply T.region | apply T.block | apply T.skip | (apply T.cond_t; exact rfl)))
        exact ⟨(k, x + q), ⟨by simp only; omega, by simp only [hq]; exact hx1, hr2.symm⟩, by simp only; omega, ⟨rfl, rfl, congrArg (fun z => some (Value.int .u64 z)) hsum, congrArg (fun z => some (Value.int .i64 z)) hnxt, trivial⟩, by (focus ((repeat' (exact Keep.nil _)); done))⟩
      · rw [if_neg hle] at hr2
        rw [decide_eq_false hle] at hsm
        repeat' (first | (apply R.is1; first | (apply R.isBin; (apply R.pure; exact rfl; first | (apply Ok1.shlE; exact rfl; exact rfl; exact hk0; exact hk64; exact hpk; exact hwr) | (apply Ok1.addU; exact rfl; exact rfl; omega; omega) | (apply Ok1.sub64; exact rfl; exact rfl; omega; omega) | (apply Ok1.geq_t; exact rfl; exact rfl; omega))) | (apply R.isCall; apply R.callP rfl rfl rfl hsm) | (apply R.pure; exact rfl; first | (apply Ok1.move; exact rfl) | (apply Ok1.assign; exact rfl))) | apply R.nil | (apply T.is; first | apply T.seq | apply T.region | apply T.block | apply T.skip | (apply T.cond_t; exact rfl) | (apply T.cond_f; exact rfl)))
        exact ⟨(k, x), ⟨by simp only; omega, by simp only [hq]; exact hx0, hr2.symm⟩, by simp only; omega, ⟨rfl, rfl, rfl, congrArg (fun z => some (Value.int .i64 z)) hnxt, trivial⟩, by (focus ((repeat' (exact Keep.nil _)); done))⟩
end Go.Proofs.Ytiegdpmkgegbaaa
