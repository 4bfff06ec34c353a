/- The document's roots and its table. -/
import Derived.Test.YtiegdpmkgegbaaaRf3
set_option linter.unusedSimpArgs false
set_option linter.unusedVariables false
namespace Go.Proofs.Ytiegdpmkgegbaaa
open Go.RowKit Go.Shelf
set_option maxRecDepth 100000

theorem dig_shift (n v : Nat) : dig (n + 1) (65536 * v) = 0 :: dig n v := by
  simp only [dig]
  rw [Nat.mul_mod_right, Nat.mul_div_cancel_left v (by decide)]
theorem dig_zero (n : Nat) : dig n 0 = List.replicate n 0 := by
  induction n with
  | zero => rfl
  | succ n ih => simp [dig, ih, List.replicate_succ]
theorem dig_one (n p : Nat) (h : p < 65536) : dig (n + 1) p = p :: List.replicate n 0 := by
  simp only [dig]
  rw [Nat.mod_eq_of_lt h, Nat.div_eq_of_lt h, dig_zero]
theorem top4 (p : Nat) (h : p < 65536) : dig 12 (p * 65536 ^ 4) = [0, 0, 0, 0, p, 0, 0, 0, 0, 0, 0, 0] := by
  rw [show p * 65536 ^ 4 = 65536 * (65536 * (65536 * (65536 * p))) by omega, dig_shift, dig_shift, dig_shift, dig_shift, dig_one _ _ h]
  rfl
theorem top6 (p : Nat) (h : p < 65536) : dig 12 (p * 65536 ^ 6) = [0, 0, 0, 0, 0, 0, p, 0, 0, 0, 0, 0] := by
  rw [show p * 65536 ^ 6 = 65536 * (65536 * (65536 * (65536 * (65536 * (65536 * p))))) by omega, dig_shift, dig_shift, dig_shift, dig_shift, dig_shift, dig_shift, dig_one _ _ h]
  rfl
theorem cmp_step {X T i : Nat} (h : X / 65536 ^ (i + 1) = T / 65536 ^ (i + 1)) :
    (X / 65536 ^ i % 65536 = T / 65536 ^ i % 65536 → X / 65536 ^ i = T / 65536 ^ i) ∧ (X / 65536 ^ i % 65536 < T / 65536 ^ i % 65536 → X ≤ T) ∧ (T / 65536 ^ i % 65536 < X / 65536 ^ i % 65536 → ¬ X ≤ T) := by
  rw [Nat.pow_succ, ← Nat.div_div_eq_div_mul, ← Nat.div_div_eq_div_mul] at h
  have hm : ∀ {a b : Nat}, a / 65536 ^ i < b / 65536 ^ i → a < b := by
    intro a b hab
    apply Nat.lt_of_not_le
    intro hba
    have := Nat.div_le_div_right (c := 65536 ^ i) hba
    omega
  refine ⟨fun e => by omega, fun e => Nat.le_of_lt (hm (by omega)), fun e => Nat.not_le_of_lt (hm (by omega))⟩
theorem small_2 (y p X TT : Nat) (hy : y < 137438953472) (hp : p < 65536) (hX : X = y * y) (hT : TT = p * 65536 ^ 4) : CallP Try.prog 55 [.int .u64 y, .int .u64 2, .int .u64 p] (.bool (decide (X ≤ TT))) := by
  refine enterP (tb := tb) Try.func55 rfl Try.ntmps55 rfl fun w => ?_
  obtain ⟨D, hD⟩ : ∃ D : Nat → List Value, D = fun v => u64n (dig 12 v) := ⟨_, rfl⟩
  have hpa : CallP Try.prog 70 [.int .u64 y] (.agg ⟨D y⟩) := by rw [hD]; exact parts_ok y (by omega)
  have hti : ∀ a b, CallP Try.prog 71 [.agg ⟨D a⟩, .agg ⟨D b⟩] (.agg ⟨D (a * b)⟩) := by intro a b; rw [hD]; exact times_ok a b
  have hDl : ∀ v, (D v).length = 12 := by intro v; rw [hD]; simp only [u64n_len, dig_len]
  have hDo : ∀ v, (D v).all Value.oneCell' = true := by intro v; rw [hD]; exact u64n_one _
  have hDg : ∀ (v i : Nat), i < 12 → ∀ j : Int, j = (i : Int) → (D v)[0 + j.toNat * 1]? = some (.int .u64 (v / 65536 ^ i % 65536 : Nat)) := by
    intro v i hi j hj
    subst hj
    rw [hD, ← dig_get 12 v i hi, show 0 + (i : Int).toNat * 1 = i by omega]; exact u64n_get (by rw [dig_len]; exact hi)
  have ht4 : setE [.int .u64 0, .int .u64 0, .int .u64 0, .int .u64 0, .int .u64 0, .int .u64 0, .int .u64 0, .int .u64 0, .int .u64 0, .int .u64 0, .int .u64 0, .int .u64 0] 4 [.int .u64 (p : Int)] = some (D TT) := by
    rw [hD, hT]; simp only [top4 p hp]; rfl
  have hb1 : y * y < 137438953472 * 137438953472 := Nat.mul_lt_mul'' hy hy
  have hb2 : y * y * y < 137438953472 * 137438953472 * 137438953472 := Nat.mul_lt_mul'' hb1 hy
  have hXb : X < 65536 ^ 12 := by rw [hX]; omega
  have hTb : TT < 65536 ^ 12 := by rw [hT]; omega
  have hti1 := hti y y
  rw [← hX] at hti1
  clear hD hti hT hX hb1 hb2
  repeat' (first | (apply R.is1; first | (apply R.isCall; apply R.callP rfl rfl rfl hpa) | (apply R.pure; exact rfl; first | (apply Ok1.move; exact rfl) | (apply Ok1.assign; exact rfl)) | (apply R.alloc; (iterate 3 exact rfl); intro)) | (apply R.is0; (apply R.store; (iterate 4 exact rfl); exact hDl _; exact hDo _; exact Upd.head; exact setE_all (hDl _))) | apply R.nil | (apply T.is; first | apply T.seq | apply T.region | apply T.block))
  apply T.rounds 3
  repeat' (first | (apply R.is1; first | (apply R.isBin; (apply R.pure; exact rfl; first | (apply Ok1.mulU; exact rfl; exact rfl; omega; omega) | (apply Ok1.addU; exact rfl; exact rfl; omega; omega) | (apply Ok1.lss_t; exact rfl; exact rfl; omega) | (apply Ok1.lss_f; exact rfl; exact rfl; omega))) | (apply R.pure; exact rfl; first | (apply Ok1.move; exact rfl) | (apply Ok1.assign; exact rfl) | (apply Ok1.indexAddrA; (iterate 5 exact rfl); omega; omega) | (apply Ok1.buildA; (iterate 6 exact rfl))) | (apply R.alloc; (iterate 3 exact rfl); intro)) | (apply R.is0; first | (apply R.store; (iterate 6 exact rfl); exact Upd.head; exact ht4) | (apply R.store; (iterate 6 exact rfl); exact Upd.head; exact rfl)) | apply R.nil | (apply T.is; first | (apply T.drawC (id := 5) [] (by decide); ((apply A.take 1; exact rfl; exact rfl; kernel_rfl; kernel_rfl; kernel_rfl; (apply Ok1.move; exact rfl)) <;> (apply A.call 2; exact rfl; exact rfl; kernel_rfl; kernel_rfl; kernel_rfl; exact rfl; exact rfl; (exact fun w1 _ => hpa.w w1)) <;> (apply A.one 0; kernel_rfl; exact rfl; (((apply R.pure; exact rfl; (apply Ok1.load; exact rfl; apply Ld.ownk; exact rfl; exact rfl; exact At.head; exact subE_all (hDl _))))); apply R.nil; refine ⟨?_, ?_⟩; (focus ((repeat' (exact trivial))))) <;> (apply A.call 3; exact rfl; exact rfl; kernel_rfl; kernel_rfl; kernel_rfl; exact rfl; exact rfl; (exact fun w1 _ => hti1.w w1)) <;> (apply A.one 4; kernel_rfl; exact rfl; (((apply R.store; (iterate 4 exact rfl); exact hDl _; exact hDo _; exact Upd.head; exact setE_all ((hDl _).trans (hDl _).symm)))); apply R.nil; refine ⟨?_, ?_⟩; (focus ((repeat' (exact trivial))))) <;> (apply A.done; kernel_rfl))) | apply T.seq | apply T.region | apply T.block | apply T.skip | apply T.exit | (apply T.cond_t; exact rfl) | (apply T.cond_f; exact rfl)))
  rename_i bX bT
  have hb0 : X / 65536 ^ 12 = TT / 65536 ^ 12 := by rw [Nat.div_eq_of_lt hXb, Nat.div_eq_of_lt hTb]
  apply T.loopK (α := Nat) (I := fun m => m ≤ 12 ∧ X / 65536 ^ m = TT / 65536 ^ m) (σi := fun m => [(7, .pointer (some ⟨bX, 0, none⟩)), (9, .pointer (some ⟨bT, 0, none⟩)), (10, .int .i64 ((m : Int) - 1))])
    (Li := fun _ => [(bT, .cells ⟨D TT⟩ 128 (0, 0)), (bX, .cells ⟨D X⟩ 128 (0, 0))]) (μ := fun m => m) (i0 := 12)
  · exact ⟨Nat.le_refl _, hb0⟩
  · exact ⟨rfl, rfl, rfl, trivial⟩
  · (focus ((repeat' (first | exact Keep.nil _ | exact Ext.one _ _ | apply Keep.cons)); done))
  · rintro m ⟨hm, hq⟩
    cases m with
    | zero =>
      repeat' (first | (apply R.is1; first | (apply R.isBin; (apply R.pure; exact rfl; (apply Ok1.geq_f; exact rfl; exact rfl; omega))) | (apply R.pure; exact rfl; first | (apply Ok1.move; exact rfl) | (apply Ok1.assign; exact rfl))) | apply R.nil | (apply T.is; first | apply T.seq | apply T.region | apply T.exit | apply T.ret | (apply T.cond_f; exact rfl)))
      (apply RetOk.t; exact rfl)
      simp only [Nat.pow_zero, Nat.div_one] at hq
      rw [decide_eq_true (Nat.le_of_eq hq)]
    | succ i =>
      obtain ⟨h1, h2, h3⟩ := cmp_step hq
      have gx := hDg X i (by omega) (((i + 1 : Nat) : Int) - 1) (by omega)
      have gt := hDg TT i (by omega) (((i + 1 : Nat) : Int) - 1) (by omega)
      generalize X / 65536 ^ i % 65536 = xi at *
      generalize TT / 65536 ^ i % 65536 = ti at *
      rcases Nat.lt_trichotomy xi ti with hc | hc | hc
      · repeat' (first | (apply R.is1; first | (apply R.isBin; (apply R.pure; exact rfl; (apply Ok1.geq_t; exact rfl; exact rfl; omega))) | (apply R.pure; exact rfl; (apply Ok1.move; exact rfl))) | apply R.nil | (apply T.is; first | (apply T.drawC (id := 11) [0,1] (by decide); ((apply A.take 0; exact rfl; exact rfl; kernel_rfl; kernel_rfl; kernel_rfl; (apply Ok1.move; exact rfl)) <;> (apply A.take 1; exact rfl; exact rfl; kernel_rfl; kernel_rfl; kernel_rfl; (apply Ok1.indexAddrA; (iterate 5 exact rfl); omega; omega)) <;> (apply A.take 2; exact rfl; exact rfl; kernel_rfl; kernel_rfl; kernel_rfl; (apply Ok1.load; exact rfl; apply Ld.own1; exact rfl; exact rfl; (focus ((repeat' (first | exact At.head | apply At.tail)); done)); with_reducible (exact gx))) <;> (apply A.take 3; exact rfl; exact rfl; kernel_rfl; kernel_rfl; kernel_rfl; (apply Ok1.move; exact rfl)) <;> (apply A.take 4; exact rfl; exact rfl; kernel_rfl; kernel_rfl; kernel_rfl; (apply Ok1.indexAddrA; (iterate 5 exact rfl); omega; omega)) <;> (apply A.take 5; exact rfl; exact rfl; kernel_rfl; kernel_rfl; kernel_rfl; (apply Ok1.load; exact rfl; apply Ld.own1; exact rfl; exact rfl; exact At.head; with_reducible (exact gt))) <;> ((apply A.take 6; exact rfl; exact rfl; kernel_rfl; kernel_rfl; kernel_rfl; (apply Ok1.neq_t; exact rfl; exact rfl; omega))) <;> (apply A.done; kernel_rfl))) | (apply T.drawC (id := 12) [0,1] (by decide); ((apply A.take 0; exact rfl; exact rfl; kernel_rfl; kernel_rfl; kernel_rfl; (apply Ok1.move; exact rfl)) <;> (apply A.take 1; exact rfl; exact rfl; kernel_rfl; kernel_rfl; kernel_rfl; (apply Ok1.indexAddrA; (iterate 5 exact rfl); omega; omega)) <;> (apply A.take 2; exact rfl; exact rfl; kernel_rfl; kernel_rfl; kernel_rfl; (apply Ok1.load; exact rfl; apply Ld.own1; exact rfl; exact rfl; (focus ((repeat' (first | exact At.head | apply At.tail)); done)); with_reducible (exact gx))) <;> (apply A.take 3; exact rfl; exact rfl; kernel_rfl; kernel_rfl; kernel_rfl; (apply Ok1.move; exact rfl)) <;> (apply A.take 4; exact rfl; exact rfl; kernel_rfl; kernel_rfl; kernel_rfl; (apply Ok1.indexAddrA; (iterate 5 exact rfl); omega; omega)) <;> (apply A.take 5; exact rfl; exact rfl; kernel_rfl; kernel_rfl; kernel_rfl; (apply Ok1.load; exact rfl; apply Ld.own1; exact rfl; exact rfl; exact At.head; with_reducible (exact gt))) <;> ((apply A.take 6; exact rfl; exact rfl; kernel_rfl; kernel_rfl; kernel_rfl; (apply Ok1.lss_t; exact rfl; exact rfl; omega))) <;> (apply A.take 7; exact rfl; exact rfl; kernel_rfl; kernel_rfl; kernel_rfl; (apply Ok1.assign; exact rfl)) <;> (apply A.done; kernel_rfl))) | apply T.seq | apply T.region | apply T.block | apply T.skip | apply T.ret | (apply T.cond_t; exact rfl)))
        (apply RetOk.t; exact rfl)
        rw [decide_eq_true (h2 hc)]
      · repeat' (first | (apply R.is1; first | (apply R.isBin; (apply R.pure; exact rfl; first | (apply Ok1.sub64; exact rfl; exact rfl; omega; omega) | (apply Ok1.geq_t; exact rfl; exact rfl; omega))) | (apply R.pure; exact rfl; first | (apply Ok1.move; exact rfl) | (apply Ok1.assign; exact rfl))) | apply R.nil | (apply T.is; first | (apply T.drawC (id := 11) [0,1] (by decide); ((apply A.take 0; exact rfl; exact rfl; kernel_rfl; kernel_rfl; kernel_rfl; (apply Ok1.move; exact rfl)) <;> (apply A.take 1; exact rfl; exact rfl; kernel_rfl; kernel_rfl; kernel_rfl; (apply Ok1.indexAddrA; (iterate 5 exact rfl); omega; omega)) <;> (apply A.take 2; exact rfl; exact rfl; kernel_rfl; kernel_rfl; kernel_rfl; (apply Ok1.load; exact rfl; apply Ld.own1; exact rfl; exact rfl; (focus ((repeat' (first | exact At.head | apply At.tail)); done)); with_reducible (exact gx))) <;> (apply A.take 3; exact rfl; exact rfl; kernel_rfl; kernel_rfl; kernel_rfl; (apply Ok1.move; exact rfl)) <;> (apply A.take 4; exact rfl; exact rfl; kernel_rfl; kernel_rfl; kernel_rfl; (apply Ok1.indexAddrA; (iterate 5 exact rfl); omega; omega)) <;> (apply A.take 5; exact rfl; exact rfl; kernel_rfl; kernel_rfl; kernel_rfl; (apply Ok1.load; exact rfl; apply Ld.own1; exact rfl; exact rfl; exact At.head; with_reducible (exact gt))) <;> ((apply A.take 6; exact rfl; exact rfl; kernel_rfl; kernel_rfl; kernel_rfl; (apply Ok1.neq_f; exact rfl; exact rfl; omega))) <;> (apply A.done; kernel_rfl))) | apply T.seq | apply T.region | apply T.block | apply T.skip | (apply T.cond_t; exact rfl) | (apply T.cond_f; exact rfl)))
        refine ⟨i, ⟨by omega, h1 hc⟩, by omega, ⟨rfl, rfl, ?_, trivial⟩, by (focus ((repeat' (first | exact Keep.nil _ | exact Ext.one _ _ | apply Keep.cons)); done))⟩
        exact congrArg (fun z => some (Value.int .i64 z)) (by omega)
      · repeat' (first | (apply R.is1; first | (apply R.isBin; (apply R.pure; exact rfl; (apply Ok1.geq_t; exact rfl; exact rfl; omega))) | (apply R.pure; exact rfl; (apply Ok1.move; exact rfl))) | apply R.nil | (apply T.is; first | (apply T.drawC (id := 11) [0,1] (by decide); ((apply A.take 0; exact rfl; exact rfl; kernel_rfl; kernel_rfl; kernel_rfl; (apply Ok1.move; exact rfl)) <;> (apply A.take 1; exact rfl; exact rfl; kernel_rfl; kernel_rfl; kernel_rfl; (apply Ok1.indexAddrA; (iterate 5 exact rfl); omega; omega)) <;> (apply A.take 2; exact rfl; exact rfl; kernel_rfl; kernel_rfl; kernel_rfl; (apply Ok1.load; exact rfl; apply Ld.own1; exact rfl; exact rfl; (focus ((repeat' (first | exact At.head | apply At.tail)); done)); with_reducible (exact gx))) <;> (apply A.take 3; exact rfl; exact rfl; kernel_rfl; kernel_rfl; kernel_rfl; (apply Ok1.move; exact rfl)) <;> (apply A.take 4; exact rfl; exact rfl; kernel_rfl; kernel_rfl; kernel_rfl; (apply Ok1.indexAddrA; (iterate 5 exact rfl); omega; omega)) <;> (apply A.take 5; exact rfl; exact rfl; kernel_rfl; kernel_rfl; kernel_rfl; (apply Ok1.load; exact rfl; apply Ld.own1; exact rfl; exact rfl; exact At.head; with_reducible (exact gt))) <;> ((apply A.take 6; exact rfl; exact rfl; kernel_rfl; kernel_rfl; kernel_rfl; (apply Ok1.neq_t; exact rfl; exact rfl; omega))) <;> (apply A.done; kernel_rfl))) | (apply T.drawC (id := 12) [0,1] (by decide); ((apply A.take 0; exact rfl; exact rfl; kernel_rfl; kernel_rfl; kernel_rfl; (apply Ok1.move; exact rfl)) <;> (apply A.take 1; exact rfl; exact rfl; kernel_rfl; kernel_rfl; kernel_rfl; (apply Ok1.indexAddrA; (iterate 5 exact rfl); omega; omega)) <;> (apply A.take 2; exact rfl; exact rfl; kernel_rfl; kernel_rfl; kernel_rfl; (apply Ok1.load; exact rfl; apply Ld.own1; exact rfl; exact rfl; (focus ((repeat' (first | exact At.head | apply At.tail)); done)); with_reducible (exact gx))) <;> (apply A.take 3; exact rfl; exact rfl; kernel_rfl; kernel_rfl; kernel_rfl; (apply Ok1.move; exact rfl)) <;> (apply A.take 4; exact rfl; exact rfl; kernel_rfl; kernel_rfl; kernel_rfl; (apply Ok1.indexAddrA; (iterate 5 exact rfl); omega; omega)) <;> (apply A.take 5; exact rfl; exact rfl; kernel_rfl; kernel_rfl; kernel_rfl; (apply Ok1.load; exact rfl; apply Ld.own1; exact rfl; exact rfl; exact At.head; with_reducible (exact gt))) <;> ((apply A.take 6; exact rfl; exact rfl; kernel_rfl; kernel_rfl; kernel_rfl; (apply Ok1.lss_f; exact rfl; exact rfl; omega))) <;> (apply A.take 7; exact rfl; exact rfl; kernel_rfl; kernel_rfl; kernel_rfl; (apply Ok1.assign; exact rfl)) <;> (apply A.done; kernel_rfl))) | apply T.seq | apply T.region | apply T.block | apply T.skip | apply T.ret | (apply T.cond_t; exact rfl)))
        (apply RetOk.t; exact rfl)
        rw [decide_eq_false (h3 hc)]
theorem small_3 (y p X TT : Nat) (hy : y < 137438953472) (hp : p < 65536) (hX : X = y * y * y) (hT : TT = p * 65536 ^ 6) : CallP Try.prog 55 [.int .u64 y, .int .u64 3, .int .u64 p] (.bool (decide (X ≤ TT))) := by
  refine enterP (tb := tb) Try.func55 rfl Try.ntmps55 rfl fun w => ?_
  obtain ⟨D, hD⟩ : ∃ D : Nat → List Value, D = fun v => u64n (dig 12 v) := ⟨_, rfl⟩
  have hpa : CallP Try.prog 70 [.int .u64 y] (.agg ⟨D y⟩) := by rw [hD]; exact parts_ok y (by omega)
  have hti : ∀ a b, CallP Try.prog 71 [.agg ⟨D a⟩, .agg ⟨D b⟩] (.agg ⟨D (a * b)⟩) := by intro a b; rw [hD]; exact times_ok a b
  have hDl : ∀ v, (D v).length = 12 := by intro v; rw [hD]; simp only [u64n_len, dig_len]
  have hDo : ∀ v, (D v).all Value.oneCell' = true := by intro v; rw [hD]; exact u64n_one _
  have hDg : ∀ (v i : Nat), i < 12 → ∀ j : Int, j = (i : Int) → (D v)[0 + j.toNat * 1]? = some (.int .u64 (v / 65536 ^ i % 65536 : Nat)) := by
    intro v i hi j hj
    subst hj
    rw [hD, ← dig_get 12 v i hi, show 0 + (i : Int).toNat * 1 = i by omega]; exact u64n_get (by rw [dig_len]; exact hi)
  have ht6 : setE [.int .u64 0, .int .u64 0, .int .u64 0, .int .u64 0, .int .u64 0, .int .u64 0, .int .u64 0, .int .u64 0, .int .u64 0, .int .u64 0, .int .u64 0, .int .u64 0] 6 [.int .u64 (p : Int)] = some (D TT) := by
    rw [hD, hT]; simp only [top6 p hp]; rfl
  have hb1 : y * y < 137438953472 * 137438953472 := Nat.mul_lt_mul'' hy hy
  have hb2 : y * y * y < 137438953472 * 137438953472 * 137438953472 := Nat.mul_lt_mul'' hb1 hy
  have hXb : X < 65536 ^ 12 := by rw [hX]; omega
  have hTb : TT < 65536 ^ 12 := by rw [hT]; omega
  have hti1 := hti y y
  have hti2 := hti (y * y) y
  rw [← hX] at hti2
  generalize y * y = yy at *
  clear hD hti hT hX hb1 hb2
  repeat' (first | (apply R.is1; first | (apply R.isCall; apply R.callP rfl rfl rfl hpa) | (apply R.pure; exact rfl; first | (apply Ok1.move; exact rfl) | (apply Ok1.assign; exact rfl)) | (apply R.alloc; (iterate 3 exact rfl); intro)) | (apply R.is0; (apply R.store; (iterate 4 exact rfl); exact hDl _; exact hDo _; exact Upd.head; exact setE_all (hDl _))) | apply R.nil | (apply T.is; first | apply T.seq | apply T.region | apply T.block))
  apply T.rounds 3
  repeat' (first | (apply R.is1; first | (apply R.isBin; (apply R.pure; exact rfl; first | (apply Ok1.mulU; exact rfl; exact rfl; omega; omega) | (apply Ok1.addU; exact rfl; exact rfl; omega; omega) | (apply Ok1.lss_t; exact rfl; exact rfl; omega) | (apply Ok1.lss_f; exact rfl; exact rfl; omega))) | (apply R.pure; exact rfl; first | (apply Ok1.move; exact rfl) | (apply Ok1.assign; exact rfl) | (apply Ok1.indexAddrA; (iterate 5 exact rfl); omega; omega) | (apply Ok1.buildA; (iterate 6 exact rfl))) | (apply R.alloc; (iterate 3 exact rfl); intro)) | (apply R.is0; first | (apply R.store; (iterate 6 exact rfl); exact Upd.head; exact ht6) | (apply R.store; (iterate 6 exact rfl); exact Upd.head; exact rfl)) | apply R.nil | (apply T.is; first | (apply T.drawC (id := 5) [] (by decide); ((apply A.take 1; exact rfl; exact rfl; kernel_rfl; kernel_rfl; kernel_rfl; (apply Ok1.move; exact rfl)) <;> (apply A.call 2; exact rfl; exact rfl; kernel_rfl; kernel_rfl; kernel_rfl; exact rfl; exact rfl; (exact fun w1 _ => hpa.w w1)) <;> (apply A.one 0; kernel_rfl; exact rfl; (((apply R.pure; exact rfl; (apply Ok1.load; exact rfl; apply Ld.ownk; exact rfl; exact rfl; exact At.head; exact subE_all (hDl _))))); apply R.nil; refine ⟨?_, ?_⟩; (focus ((repeat' (exact trivial))))) <;> (apply A.call 3; exact rfl; exact rfl; kernel_rfl; kernel_rfl; kernel_rfl; exact rfl; exact rfl; first | (exact fun w1 _ => hti1.w w1) | (exact fun w1 _ => hti2.w w1)) <;> (apply A.one 4; kernel_rfl; exact rfl; (((apply R.store; (iterate 4 exact rfl); exact hDl _; exact hDo _; exact Upd.head; exact setE_all ((hDl _).trans (hDl _).symm)))); apply R.nil; refine ⟨?_, ?_⟩; (focus ((repeat' (exact trivial))))) <;> (apply A.done; kernel_rfl))) | apply T.seq | apply T.region | apply T.block | apply T.skip | apply T.exit | (apply T.cond_t; exact rfl) | (apply T.cond_f; exact rfl)))
  rename_i bX bT
  have hb0 : X / 65536 ^ 12 = TT / 65536 ^ 12 := by rw [Nat.div_eq_of_lt hXb, Nat.div_eq_of_lt hTb]
  apply T.loopK (α := Nat) (I := fun m => m ≤ 12 ∧ X / 65536 ^ m = TT / 65536 ^ m) (σi := fun m => [(7, .pointer (some ⟨bX, 0, none⟩)), (9, .pointer (some ⟨bT, 0, none⟩)), (10, .int .i64 ((m : Int) - 1))])
    (Li := fun _ => [(bT, .cells ⟨D TT⟩ 128 (0, 0)), (bX, .cells ⟨D X⟩ 128 (0, 0))]) (μ := fun m => m) (i0 := 12)
  · exact ⟨Nat.le_refl _, hb0⟩
  · exact ⟨rfl, rfl, rfl, trivial⟩
  · (focus ((repeat' (first | exact Keep.nil _ | exact Ext.one _ _ | apply Keep.cons)); done))
  · rintro m ⟨hm, hq⟩
    cases m with
    | zero =>
      repeat' (first | (apply R.is1; first | (apply R.isBin; (apply R.pure; exact rfl; (apply Ok1.geq_f; exact rfl; exact rfl; omega))) | (apply R.pure; exact rfl; first | (apply Ok1.move; exact rfl) | (apply Ok1.assign; exact rfl))) | apply R.nil | (apply T.is; first | apply T.seq | apply T.region | apply T.exit | apply T.ret | (apply T.cond_f; exact rfl)))
      (apply RetOk.t; exact rfl)
      simp only [Nat.pow_zero, Nat.div_one] at hq
      rw [decide_eq_true (Nat.le_of_eq hq)]
    | succ i =>
      obtain ⟨h1, h2, h3⟩ := cmp_step hq
      have gx := hDg X i (by omega) (((i + 1 : Nat) : Int) - 1) (by omega)
      have gt := hDg TT i (by omega) (((i + 1 : Nat) : Int) - 1) (by omega)
      generalize X / 65536 ^ i % 65536 = xi at *
      generalize TT / 65536 ^ i % 65536 = ti at *
      rcases Nat.lt_trichotomy xi ti with hc | hc | hc
      · repeat' (first | (apply R.is1; first | (apply R.isBin; (apply R.pure; exact rfl; (apply Ok1.geq_t; exact rfl; exact rfl; omega))) | (apply R.pure; exact rfl; (apply Ok1.move; exact rfl))) | apply R.nil | (apply T.is; first | (apply T.drawC (id := 11) [0,1] (by decide); ((apply A.take 0; exact rfl; exact rfl; kernel_rfl; kernel_rfl; kernel_rfl; (apply Ok1.move; exact rfl)) <;> (apply A.take 1; exact rfl; exact rfl; kernel_rfl; kernel_rfl; kernel_rfl; (apply Ok1.indexAddrA; (iterate 5 exact rfl); omega; omega)) <;> (apply A.take 2; exact rfl; exact rfl; kernel_rfl; kernel_rfl; kernel_rfl; (apply Ok1.load; exact rfl; apply Ld.own1; exact rfl; exact rfl; (focus ((repeat' (first | exact At.head | apply At.tail)); done)); with_reducible (exact gx))) <;> (apply A.take 3; exact rfl; exact rfl; kernel_rfl; kernel_rfl; kernel_rfl; (apply Ok1.move; exact rfl)) <;> (apply A.take 4; exact rfl; exact rfl; kernel_rfl; kernel_rfl; kernel_rfl; (apply Ok1.indexAddrA; (iterate 5 exact rfl); omega; omega)) <;> (apply A.take 5; exact rfl; exact rfl; kernel_rfl; kernel_rfl; kernel_rfl; (apply Ok1.load; exact rfl; apply Ld.own1; exact rfl; exact rfl; exact At.head; with_reducible (exact gt))) <;> ((apply A.take 6; exact rfl; exact rfl; kernel_rfl; kernel_rfl; kernel_rfl; (apply Ok1.neq_t; exact rfl; exact rfl; omega))) <;> (apply A.done; kernel_rfl))) | (apply T.drawC (id := 12) [0,1] (by decide); ((apply A.take 0; exact rfl; exact rfl; kernel_rfl; kernel_rfl; kernel_rfl; (apply Ok1.move; exact rfl)) <;> (apply A.take 1; exact rfl; exact rfl; kernel_rfl; kernel_rfl; kernel_rfl; (apply Ok1.indexAddrA; (iterate 5 exact rfl); omega; omega)) <;> (apply A.take 2; exact rfl; exact rfl; kernel_rfl; kernel_rfl; kernel_rfl; (apply Ok1.load; exact rfl; apply Ld.own1; exact rfl; exact rfl; (focus ((repeat' (first | exact At.head | apply At.tail)); done)); with_reducible (exact gx))) <;> (apply A.take 3; exact rfl; exact rfl; kernel_rfl; kernel_rfl; kernel_rfl; (apply Ok1.move; exact rfl)) <;> (apply A.take 4; exact rfl; exact rfl; kernel_rfl; kernel_rfl; kernel_rfl; (apply Ok1.indexAddrA; (iterate 5 exact rfl); omega; omega)) <;> (apply A.take 5; exact rfl; exact rfl; kernel_rfl; kernel_rfl; kernel_rfl; (apply Ok1.load; exact rfl; apply Ld.own1; exact rfl; exact rfl; exact At.head; with_reducible (exact gt))) <;> ((apply A.take 6; exact rfl; exact rfl; kernel_rfl; kernel_rfl; kernel_rfl; (apply Ok1.lss_t; exact rfl; exact rfl; omega))) <;> (apply A.take 7; exact rfl; exact rfl; kernel_rfl; kernel_rfl; kernel_rfl; (apply Ok1.assign; exact rfl)) <;> (apply A.done; kernel_rfl))) | apply T.seq | apply T.region | apply T.block | apply T.skip | apply T.ret | (apply T.cond_t; exact rfl)))
        (apply RetOk.t; exact rfl)
        rw [decide_eq_true (h2 hc)]
      · repeat' (first | (apply R.is1; first | (apply R.isBin; (apply R.pure; exact rfl; first | (apply Ok1.sub64; exact rfl; exact rfl; omega; omega) | (apply Ok1.geq_t; exact rfl; exact rfl; omega))) | (apply R.pure; exact rfl; first | (apply Ok1.move; exact rfl) | (apply Ok1.assign; exact rfl))) | apply R.nil | (apply T.is; first | (apply T.drawC (id := 11) [0,1] (by decide); ((apply A.take 0; exact rfl; exact rfl; kernel_rfl; kernel_rfl; kernel_rfl; (apply Ok1.move; exact rfl)) <;> (apply A.take 1; exact rfl; exact rfl; kernel_rfl; kernel_rfl; kernel_rfl; (apply Ok1.indexAddrA; (iterate 5 exact rfl); omega; omega)) <;> (apply A.take 2; exact rfl; exact rfl; kernel_rfl; kernel_rfl; kernel_rfl; (apply Ok1.load; exact rfl; apply Ld.own1; exact rfl; exact rfl; (focus ((repeat' (first | exact At.head | apply At.tail)); done)); with_reducible (exact gx))) <;> (apply A.take 3; exact rfl; exact rfl; kernel_rfl; kernel_rfl; kernel_rfl; (apply Ok1.move; exact rfl)) <;> (apply A.take 4; exact rfl; exact rfl; kernel_rfl; kernel_rfl; kernel_rfl; (apply Ok1.indexAddrA; (iterate 5 exact rfl); omega; omega)) <;> (apply A.take 5; exact rfl; exact rfl; kernel_rfl; kernel_rfl; kernel_rfl; (apply Ok1.load; exact rfl; apply Ld.own1; exact rfl; exact rfl; exact At.head; with_reducible (exact gt))) <;> ((apply A.take 6; exact rfl; exact rfl; kernel_rfl; kernel_rfl; kernel_rfl; (apply Ok1.neq_f; exact rfl; exact rfl; omega))) <;> (apply A.done; kernel_rfl))) | apply T.seq | apply T.region | apply T.block | apply T.skip | (apply T.cond_t; exact rfl) | (apply T.cond_f; exact rfl)))
        refine ⟨i, ⟨by omega, h1 hc⟩, by omega, ⟨rfl, rfl, ?_, trivial⟩, by (focus ((repeat' (first | exact Keep.nil _ | exact Ext.one _ _ | apply Keep.cons)); done))⟩
        exact congrArg (fun z => some (Value.int .i64 z)) (by omega)
      · repeat' (first | (apply R.is1; first | (apply R.isBin; (apply R.pure; exact rfl; (apply Ok1.geq_t; exact rfl; exact rfl; omega))) | (apply R.pure; exact rfl; (apply Ok1.move; exact rfl))) | apply R.nil | (apply T.is; first | (apply T.drawC (id := 11) [0,1] (by decide); ((apply A.take 0; exact rfl; exact rfl; kernel_rfl; kernel_rfl; kernel_rfl; (apply Ok1.move; exact rfl)) <;> (apply A.take 1; exact rfl; exact rfl; kernel_rfl; kernel_rfl; kernel_rfl; (apply Ok1.indexAddrA; (iterate 5 exact rfl); omega; omega)) <;> (apply A.take 2; exact rfl; exact rfl; kernel_rfl; kernel_rfl; kernel_rfl; (apply Ok1.load; exact rfl; apply Ld.own1; exact rfl; exact rfl; (focus ((repeat' (first | exact At.head | apply At.tail)); done)); with_reducible (exact gx))) <;> (apply A.take 3; exact rfl; exact rfl; kernel_rfl; kernel_rfl; kernel_rfl; (apply Ok1.move; exact rfl)) <;> (apply A.take 4; exact rfl; exact rfl; kernel_rfl; kernel_rfl; kernel_rfl; (apply Ok1.indexAddrA; (iterate 5 exact rfl); omega; omega)) <;> (apply A.take 5; exact rfl; exact rfl; kernel_rfl; kernel_rfl; kernel_rfl; (apply Ok1.load; exact rfl; apply Ld.own1; exact rfl; exact rfl; exact At.head; with_reducible (exact gt))) <;> ((apply A.take 6; exact rfl; exact rfl; kernel_rfl; kernel_rfl; kernel_rfl; (apply Ok1.neq_t; exact rfl; exact rfl; omega))) <;> (apply A.done; kernel_rfl))) | (apply T.drawC (id := 12) [0,1] (by decide); ((apply A.take 0; exact rfl; exact rfl; kernel_rfl; kernel_rfl; kernel_rfl; (apply Ok1.move; exact rfl)) <;> (apply A.take 1; exact rfl; exact rfl; kernel_rfl; kernel_rfl; kernel_rfl; (apply Ok1.indexAddrA; (iterate 5 exact rfl); omega; omega)) <;> (apply A.take 2; exact rfl; exact rfl; kernel_rfl; kernel_rfl; kernel_rfl; (apply Ok1.load; exact rfl; apply Ld.own1; exact rfl; exact rfl; (focus ((repeat' (first | exact At.head | apply At.tail)); done)); with_reducible (exact gx))) <;> (apply A.take 3; exact rfl; exact rfl; kernel_rfl; kernel_rfl; kernel_rfl; (apply Ok1.move; exact rfl)) <;> (apply A.take 4; exact rfl; exact rfl; kernel_rfl; kernel_rfl; kernel_rfl; (apply Ok1.indexAddrA; (iterate 5 exact rfl); omega; omega)) <;> (apply A.take 5; exact rfl; exact rfl; kernel_rfl; kernel_rfl; kernel_rfl; (apply Ok1.load; exact rfl; apply Ld.own1; exact rfl; exact rfl; exact At.head; with_reducible (exact gt))) <;> ((apply A.take 6; exact rfl; exact rfl; kernel_rfl; kernel_rfl; kernel_rfl; (apply Ok1.lss_f; exact rfl; exact rfl; omega))) <;> (apply A.take 7; exact rfl; exact rfl; kernel_rfl; kernel_rfl; kernel_rfl; (apply Ok1.assign; exact rfl)) <;> (apply A.done; kernel_rfl))) | apply T.seq | apply T.region | apply T.block | apply T.skip | apply T.ret | (apply T.cond_t; exact rfl)))
        (apply RetOk.t; exact rfl)
        rw [decide_eq_false (h3 hc)]
theorem small_ok (y n p : Nat) (hy : y < 137438953472) (hn : n = 2 ∨ n = 3) (hp : p < 65536) : CallP Try.prog 55 [.int .u64 y, .int .u64 n, .int .u64 p] (.bool (decide (y ^ n ≤ p * 65536 ^ (2 * n)))) := by
  rcases hn with rfl | rfl
  · exact small_2 y p (y ^ 2) _ hy hp (Nat.pow_two y) rfl
  · exact small_3 y p (y ^ 3) _ hy hp (by rw [Nat.pow_succ, Nat.pow_two]) rfl
end Go.Proofs.Ytiegdpmkgegbaaa
