/- Texts of the proof: Rf6, Dd2, Tk1, Sy13, Sy18, Sy19, Sz2, Eng32, Sz3, Sz5, Ky1, Ky2, K1, Ch1, Ch2, Ch3, Ch4, Ch5, Ch6, Ch7, Ch8. -/
import Derived.Test.YtidjnjlejhoalaaGreatL16wb4
import Derived.Lib.MakeNoZero
import Derived.Laws.Externs
set_option linter.unusedSimpArgs false
set_option linter.unusedVariables false
namespace Go.Proofs.YtidjnjlejhoalaaGreat
open Go.RowKit Go.Shelf
set_option maxRecDepth 100000
def u64n (l : List Nat) : List Value := l.map fun (d : Nat) => .int .u64 (d : Int)
def dig : Nat → Nat → List Nat
  | 0, _ => []
  | n + 1, v => v % 65536 :: dig n (v / 65536)
def val : List Nat → Nat
  | [] => 0
  | d :: r => d + 65536 * val r
theorem dig_len (n v : Nat) : (dig n v).length = n := by
  induction n generalizing v with
  | zero => rfl
  | succ n ih => simp [dig, ih]
theorem dig_get (n v i : Nat) (h : i < n) : (dig n v).getD i 0 = v / 65536 ^ i % 65536 := by
  induction n generalizing v i with
  | zero => omega
  | succ n ih =>
    cases i with
    | zero => simp [dig]
    | succ i =>
      have := ih (v / 65536) i (by omega)
      simp only [dig, List.getD_cons_succ, this, Nat.div_div_eq_div_mul]
      rw [Nat.pow_succ, Nat.mul_comm]
theorem dig_val {l : List Nat} (h : ∀ d ∈ l, d < 65536) : dig l.length (val l) = l := by
  induction l with
  | nil => rfl
  | cons d l ih =>
    have h1 := ih fun x hx => h x (List.mem_cons_of_mem _ hx)
    have h2 := h d List.mem_cons_self
    simp only [val, List.length_cons, dig]
    rw [show (d + 65536 * val l) % 65536 = d by omega, show (d + 65536 * val l) / 65536 = val l by omega, h1]
theorem dig_mod (n v : Nat) : dig n (v % 65536 ^ n) = dig n v := by
  induction n generalizing v with
  | zero => rfl
  | succ n ih =>
    simp only [dig]
    have h1 : v % 65536 ^ (n + 1) % 65536 = v % 65536 := Nat.mod_mod_of_dvd v (by rw [Nat.pow_succ]; exact Nat.dvd_mul_left _ _)
    have h2 : v % 65536 ^ (n + 1) / 65536 = v / 65536 % 65536 ^ n := by
      rw [Nat.pow_succ, Nat.mul_comm, Nat.mod_mul_right_div_self]
    rw [h1, h2, ih]
theorem val_set (l : List Nat) (i x : Nat) (h : i < l.length) : val (l.set i x) + l.getD i 0 * 65536 ^ i = val l + x * 65536 ^ i := by
  induction l generalizing i with
  | nil => simp at h
  | cons d l ih =>
    cases i with
    | zero => simp [val]; omega
    | succ i =>
      have := ih i (by simpa using h)
      simp only [List.set_cons_succ, val, List.getD_cons_succ]
      rw [Nat.pow_succ, ← Nat.mul_assoc, ← Nat.mul_assoc]
      omega
theorem mod_step (A i : Nat) : A % 65536 ^ (i + 1) = A % 65536 ^ i + A / 65536 ^ i % 65536 * 65536 ^ i := by
  rw [Nat.pow_succ, Nat.mod_mul, Nat.mul_comm (65536 ^ i)]
/-- One step of the inner loop. -/
theorem inner_step {Z Z' Z0 ov a B z i k : Nat} (hset : Z' + z * 65536 ^ (i + k) = Z + (ov + z + a * (B / 65536 ^ k % 65536)) % 65536 * 65536 ^ (i + k))
    (h : Z + ov * 65536 ^ (i + k) = Z0 + a * (B % 65536 ^ k) * 65536 ^ i) :
    Z' + (ov + z + a * (B / 65536 ^ k % 65536)) / 65536 * 65536 ^ (i + (k + 1)) = Z0 + a * (B % 65536 ^ (k + 1)) * 65536 ^ i := by
  rw [mod_step B k]
  generalize B / 65536 ^ k % 65536 = b at *
  have e1 : a * (B % 65536 ^ k + b * 65536 ^ k) * 65536 ^ i = a * (B % 65536 ^ k) * 65536 ^ i + a * b * 65536 ^ (i + k) := by rw [Nat.mul_add a, Nat.add_mul, Nat.pow_add, ← Nat.mul_assoc a, Nat.mul_assoc (a * b), Nat.mul_comm (65536 ^ k)]
  rw [e1, ← Nat.add_assoc Z0, ← h, show i + (k + 1) = (i + k) + 1 by omega, Nat.pow_succ]
  generalize 65536 ^ (i + k) = P at *
  have h4 := Nat.div_add_mod (ov + z + a * b) 65536
  generalize (ov + z + a * b) / 65536 = q at *
  generalize (ov + z + a * b) % 65536 = m at *
  have h5 : (65536 * q + m) * P = (ov + z + a * b) * P := by rw [h4]
  rw [Nat.add_mul, Nat.add_mul, Nat.add_mul, Nat.mul_comm 65536 q, Nat.mul_assoc] at h5
  rw [Nat.mul_comm P 65536]
  generalize q * (65536 * P) = s1 at *
  generalize m * P = s2 at *
  generalize ov * P = s3 at *
  generalize z * P = s4 at *
  generalize a * b * P = s5 at *
  omega
theorem outer_step {Z Z0 ov A B i : Nat} (hi : i ≤ 12) (h0 : Z0 % 65536 ^ 12 = (A % 65536 ^ i * B) % 65536 ^ 12)
    (h : Z + ov * 65536 ^ 12 = Z0 + (A / 65536 ^ i % 65536) * (B % 65536 ^ (12 - i)) * 65536 ^ i) : Z % 65536 ^ 12 = (A % 65536 ^ (i + 1) * B) % 65536 ^ 12 := by
  have h1 : Z % 65536 ^ 12 = (Z + ov * 65536 ^ 12) % 65536 ^ 12 := by rw [Nat.add_mul_mod_self_right]
  rw [h1, h, mod_step A i, Nat.add_mul]
  generalize A / 65536 ^ i % 65536 = a
  have h2 : (a * (B % 65536 ^ (12 - i)) * 65536 ^ i) % 65536 ^ 12 = (a * 65536 ^ i * B) % 65536 ^ 12 := by
    have e : 65536 ^ 12 = 65536 ^ i * 65536 ^ (12 - i) := by rw [← Nat.pow_add]; congr 1; omega
    rw [Nat.mul_comm _ (65536 ^ i), Nat.mul_comm a (65536 ^ i), Nat.mul_assoc (65536 ^ i) a B, e, Nat.mul_mod_mul_left, Nat.mul_mod_mul_left]
    rw [Nat.mul_mod a (B % _), Nat.mod_mod, ← Nat.mul_mod]
  rw [Nat.add_mod, h0, h2, ← Nat.add_mod]
theorem parts_ok (y : Nat) (hy : y < 18446744073709551616) : CallP Tryz.prog 244 [.int .u64 y] (.agg ⟨u64n (dig 12 y)⟩) := by
  refine enterP (tb := tb) Tryz.func244 rfl Tryz.ntmps244 rfl fun w => ?_
  repeat' (first | (apply R.is1; first | (apply R.isBin; (apply R.pure; exact rfl; first | (apply Ok1.quoU; exact rfl; exact rfl; omega; omega; omega) | (apply Ok1.add64; exact rfl; exact rfl; omega; omega) | (apply Ok1.lss_t; exact rfl; exact rfl; omega) | (apply Ok1.lss_f; exact rfl; exact rfl; omega) | (apply Ok1.remN; exact rfl; exact rfl; omega; omega))) | (apply R.pure; exact rfl; first | (apply Ok1.move; exact rfl) | (apply Ok1.load; exact rfl; (apply Ld.ownk; exact rfl; exact rfl; exact At.head; exact rfl)) | (apply Ok1.assign; exact rfl) | (apply Ok1.indexAddrA; (iterate 5 exact rfl); omega; omega) | (apply Ok1.buildA; (iterate 6 exact rfl))) | (apply R.alloc; (iterate 3 exact rfl); intro)) | (apply R.is0; (apply R.store; (iterate 6 exact rfl); (focus ((repeat' (first | exact Upd.head | apply Upd.tail)); done)); exact rfl)) | apply R.nil | (apply T.is; first | apply T.rounds 5 | apply T.seq | apply T.region | apply T.block | apply T.skip | apply T.exit | apply T.ret | (apply T.cond_t; exact rfl) | (apply T.cond_f; exact rfl)))
  (apply RetOk.c; exact rfl; ((apply Ld.ownk; exact rfl; exact rfl; (focus ((repeat' (first | exact At.head | apply At.tail)); done)); exact rfl)))
  have h0 : y / 65536 / 65536 / 65536 / 65536 = 0 := by omega
  have h1 : ∀ n, dig n 0 = List.replicate n 0 := by
    intro n
    induction n with
    | zero => rfl
    | succ n ih => simp [dig, ih, List.replicate_succ]
  have h2 : dig 12 y = y % 65536 :: y / 65536 % 65536 :: y / 65536 / 65536 % 65536 :: y / 65536 / 65536 / 65536 % 65536 :: dig 8 (y / 65536 / 65536 / 65536 / 65536) := rfl
  rw [h2, h0, h1]
  simp only [u64n, List.map_cons, Int.natCast_emod, Int.natCast_ediv]
  rfl
theorem u64n_len (l : List Nat) : (u64n l).length = l.length := by simp [u64n]
theorem u64n_get {l : List Nat} {o : Nat} (h : o < l.length) : (u64n l)[o]? = some (.int .u64 (l.getD o 0 : Nat)) := by simp [u64n, h]
theorem u64n_one (l : List Nat) : (u64n l).all Value.oneCell' = true := by rw [List.all_eq_true]; intro x hx; obtain ⟨y, _, rfl⟩ := List.mem_map.1 hx; rfl
theorem u64n_set {l : List Nat} {o x : Nat} (h : o < l.length) : setE (u64n l) o [.int .u64 (x : Int)] = some (u64n (l.set o x)) := by
  rw [setE_one (by rw [u64n_len]; exact h)]
  simp [u64n, List.map_set]
theorem times_ok (U V : Nat) : CallP Tryz.prog 245 [.agg ⟨u64n (dig 12 U)⟩, .agg ⟨u64n (dig 12 V)⟩] (.agg ⟨u64n (dig 12 (U * V))⟩) := by
  refine enterP (tb := tb) Tryz.func245 rfl Tryz.ntmps245 rfl fun w => ?_
  have hla := dig_len 12 U
  have hlb := dig_len 12 V
  have hga : ∀ i : Nat, i < 12 → (u64n (dig 12 U))[0 + (i : Int).toNat * 1]? = some (.int .u64 (U / 65536 ^ i % 65536 : Nat)) := fun i hi => by rw [← dig_get 12 U i hi]; rw [show 0 + (i : Int).toNat * 1 = i by omega]; exact u64n_get (by omega)
  have hgb : ∀ i : Nat, i < 12 → (u64n (dig 12 V))[0 + (i : Int).toNat * 1]? = some (.int .u64 (V / 65536 ^ i % 65536 : Nat)) := fun i hi => by rw [← dig_get 12 V i hi]; rw [show 0 + (i : Int).toNat * 1 = i by omega]; exact u64n_get (by omega)
  have hca : cellsE (.agg ⟨u64n (dig 12 U)⟩) = some (u64n (dig 12 U)) := rfl
  generalize hAv : u64n (dig 12 U) = av at *
  generalize hBv : u64n (dig 12 V) = bv at *
  repeat' (first | (apply R.is1; first | (apply R.pure; exact rfl; first | (apply Ok1.assign; exact rfl) | (apply Ok1.buildA; (iterate 6 exact rfl))) | (apply R.box; (iterate 3 exact rfl); intro) | (apply R.alloc; (iterate 3 exact rfl); intro)) | (apply R.is0; (apply R.store; (iterate 6 exact rfl); exact Upd.head; exact rfl)) | apply R.nil | (apply T.is; first | apply T.seq | apply T.region | apply T.block))
  rename_i bA bB bO bZ
  apply T.loopK (α := Nat × List Nat) (I := fun x => x.1 ≤ 12 ∧ x.2.length = 12 ∧ (∀ d ∈ x.2, d < 65536) ∧ val x.2 % 65536 ^ 12 = (U % 65536 ^ x.1 * V) % 65536 ^ 12) (σi := fun x => [(2, .pointer (some ⟨bA, 0, none⟩)), (3, .pointer (some ⟨bB, 0, none⟩)), (4, .pointer (some ⟨bO, 0, none⟩)), (5, .pointer (some ⟨bZ, 0, none⟩)), (6, .int .i64 x.1)])
    (Li := fun x => [(bZ, .cells ⟨u64n x.2⟩ 396 (0, 0)), (bO, .cells ⟨List.replicate 12 (.int .u64 0)⟩ 396 (0, 0)), (bB, .cells ⟨bv⟩ 396 (0, 0)), (bA, .cells ⟨av⟩ 396 (0, 0))]) (μ := fun x => 12 - x.1) (i0 := (0, List.replicate 12 0))
  · refine ⟨by decide, rfl, ?_, ?_⟩
    · intro d hd; rw [List.eq_of_mem_replicate hd]; decide
    · simp only [Nat.pow_zero, Nat.mod_one, Nat.zero_mul]; rfl
  · exact ⟨rfl, rfl, rfl, rfl, rfl, trivial⟩
  · (focus ((repeat' (first | exact Keep.nil _ | exact Ext.one _ _ | apply Keep.cons)); done))
  · rintro ⟨i, z0⟩ ⟨hi, hz0, hd0, hv0⟩
    simp only at hi hz0 hd0 hv0 ⊢
    rcases Nat.lt_or_ge i 12 with hlt | hge
    · repeat' (first | (apply R.is1; first | (apply R.isBin; (apply R.pure; exact rfl; (apply Ok1.lss_t; exact rfl; exact rfl; omega))) | (apply R.pure; exact rfl; first | (apply Ok1.move; exact rfl) | (apply Ok1.assign; exact rfl))) | apply R.nil | (apply T.is; first | apply T.seq | apply T.region | apply T.block | apply T.skip | (apply T.cond_t; exact rfl)))
      have hai := hga i hlt
      have ha16 : U / 65536 ^ i % 65536 < 65536 := Nat.mod_lt _ (by decide)
      have hout := fun Z ov => @outer_step Z (val z0) ov U V i hi hv0
      generalize U / 65536 ^ i % 65536 = a at *
      apply T.loopK (α := Nat × Nat × List Nat) (I := fun x => i + x.1 ≤ 12 ∧ x.2.1 < 65536 ∧ x.2.2.length = 12 ∧ (∀ d ∈ x.2.2, d < 65536) ∧ val x.2.2 + x.2.1 * 65536 ^ (i + x.1) = val z0 + a * (V % 65536 ^ x.1) * 65536 ^ i) (σi := fun x => [(2, .pointer (some ⟨bA, 0, none⟩)), (3, .pointer (some ⟨bB, 0, none⟩)), (4, .pointer (some ⟨bO, 0, none⟩)), (5, .pointer (some ⟨bZ, 0, none⟩)), (6, .int .i64 i), (7, .int .u64 x.2.1), (8, .int .i64 x.1)])
        (Li := fun x => [(bZ, .cells ⟨u64n x.2.2⟩ 396 (0, 0)), (bO, .cells ⟨List.replicate 12 (.int .u64 0)⟩ 396 (0, 0)), (bB, .cells ⟨bv⟩ 396 (0, 0)), (bA, .cells ⟨av⟩ 396 (0, 0))]) (μ := fun x => 12 - x.1) (i0 := (0, 0, z0))
      · exact ⟨by omega, by simp only; omega, hz0, hd0, by simp [Nat.mod_one]⟩
      · exact ⟨rfl, rfl, rfl, rfl, rfl, rfl, rfl, trivial⟩
      · (focus ((repeat' (first | exact Keep.nil _ | exact Ext.one _ _ | apply Keep.cons)); done))
      · rintro ⟨k, ov, z⟩ ⟨hk, hov, hz, hd, hv⟩
        simp only at hk hov hz hd hv ⊢
        rcases Nat.lt_or_ge (i + k) 12 with hlt2 | hge2
        · have hbk := hgb k (by omega)
          have hb16 : V / 65536 ^ k % 65536 < 65536 := Nat.mod_lt _ (by decide)
          have hpos : 0 + ((i : Int) + (k : Int)).toNat * 1 = i + k := by omega
          have hzk : (u64n z)[0 + ((i : Int) + (k : Int)).toNat * 1]? = some (.int .u64 (z.getD (i + k) 0 : Nat)) := by rw [hpos]; exact u64n_get (by omega)
          have hzm : z.getD (i + k) 0 < 65536 := hd _ (by rw [List.getD_eq_getElem?_getD, List.getElem?_eq_getElem (by omega)]; exact List.getElem_mem _)
          have hvs := fun x => val_set z (i + k) x (by omega)
          have hstep := @inner_step (val z)
          generalize z.getD (i + k) 0 = zk at *
          have hst := fun Z' => @inner_step (val z) Z' (val z0) ov a V zk i k
          generalize V / 65536 ^ k % 65536 = b at *
          have hab : a * b ≤ 65535 * 65535 := Nat.mul_le_mul (by omega) (by omega)
          have hcast : ((a * b : Nat) : Int) = (a : Int) * (b : Int) := by push_cast; rfl
          have hab2 : (a : Int) * (b : Int) ≤ 4294836225 := by rw [← hcast]; omega
          have hab0 : 0 ≤ (a : Int) * (b : Int) := by rw [← hcast]; omega
          have hset : setE (u64n z) (0 + ((i : Int) + (k : Int)).toNat * 1) [.int .u64 (((ov : Int) + (zk : Int) + (a : Int) * (b : Int)) % 65536)] = some (u64n (z.set (i + k) ((ov + zk + a * b) % 65536))) := by
            rw [hpos, ← u64n_set (by omega)]
            congr 3
          have hdiv : ((ov : Int) + (zk : Int) + (a : Int) * (b : Int)) / 65536 = (((ov + zk + a * b) / 65536 : Nat) : Int) := by
            rw [Int.natCast_ediv, Int.natCast_add, Int.natCast_add, Int.natCast_mul]; rfl
          repeat' (first | (apply R.is1; first | (apply R.isBin; (apply R.pure; exact rfl; first | (apply Ok1.quoU; exact rfl; exact rfl; omega; omega; omega) | (apply Ok1.add64; exact rfl; exact rfl; omega; omega) | (apply Ok1.lss_t; exact rfl; exact rfl; omega) | (apply Ok1.remN; exact rfl; exact rfl; omega; omega))) | (apply R.pure; exact rfl; first | (apply Ok1.move; exact rfl) | (apply Ok1.assign; exact rfl) | (apply Ok1.indexAddrA; (iterate 5 exact rfl); omega; omega))) | (apply R.is0; (apply R.store; (iterate 6 exact rfl); exact Upd.head; exact hset)) | apply R.nil | (apply T.is; first | (apply T.drawC (id := 9) [0,2,3] (by decide); ((apply A.take 0; exact rfl; exact rfl; kernel_rfl; kernel_rfl; kernel_rfl; (apply Ok1.move; exact rfl)) <;> (apply A.take 1; exact rfl; exact rfl; kernel_rfl; kernel_rfl; kernel_rfl; (apply Ok1.move; exact rfl)) <;> (apply A.take 2; exact rfl; exact rfl; kernel_rfl; kernel_rfl; kernel_rfl; (apply Ok1.move; exact rfl)) <;> (apply A.take 3; exact rfl; exact rfl; kernel_rfl; kernel_rfl; kernel_rfl; (apply Ok1.add64; exact rfl; exact rfl; omega; omega)) <;> (apply A.take 4; exact rfl; exact rfl; kernel_rfl; kernel_rfl; kernel_rfl; (apply Ok1.indexAddrA; (iterate 5 exact rfl); omega; omega)) <;> (apply A.take 5; exact rfl; exact rfl; kernel_rfl; kernel_rfl; kernel_rfl; (apply Ok1.load; exact rfl; apply Ld.own1; exact rfl; exact rfl; exact At.head; with_reducible (exact hzk))) <;> (apply A.take 6; exact rfl; exact rfl; kernel_rfl; kernel_rfl; kernel_rfl; (apply Ok1.addU; exact rfl; exact rfl; omega; omega)) <;> (apply A.take 7; exact rfl; exact rfl; kernel_rfl; kernel_rfl; kernel_rfl; (apply Ok1.move; exact rfl)) <;> (apply A.take 8; exact rfl; exact rfl; kernel_rfl; kernel_rfl; kernel_rfl; (apply Ok1.indexAddrA; (iterate 5 exact rfl); omega; omega)) <;> (apply A.take 9; exact rfl; exact rfl; kernel_rfl; kernel_rfl; kernel_rfl; (apply Ok1.load; exact rfl; apply Ld.own1; exact rfl; exact rfl; (focus ((repeat' (first | exact At.head | apply At.tail)); done)); with_reducible (exact hai))) <;> (apply A.take 10; exact rfl; exact rfl; kernel_rfl; kernel_rfl; kernel_rfl; (apply Ok1.move; exact rfl)) <;> (apply A.take 11; exact rfl; exact rfl; kernel_rfl; kernel_rfl; kernel_rfl; (apply Ok1.indexAddrA; (iterate 5 exact rfl); omega; omega)) <;> (apply A.take 12; exact rfl; exact rfl; kernel_rfl; kernel_rfl; kernel_rfl; (apply Ok1.load; exact rfl; apply Ld.own1; exact rfl; exact rfl; (focus ((repeat' (first | exact At.head | apply At.tail)); done)); with_reducible (exact hbk))) <;> (apply A.take 13; exact rfl; exact rfl; kernel_rfl; kernel_rfl; kernel_rfl; (apply Ok1.mulU; exact rfl; exact rfl; omega; omega)) <;> (apply A.take 14; exact rfl; exact rfl; kernel_rfl; kernel_rfl; kernel_rfl; (apply Ok1.addU; exact rfl; exact rfl; omega; omega)) <;> (apply A.take 15; exact rfl; exact rfl; kernel_rfl; kernel_rfl; kernel_rfl; (apply Ok1.assign; exact rfl)) <;> (apply A.done; kernel_rfl))) | apply T.seq | apply T.region | apply T.block | apply T.skip | (apply T.cond_t; exact rfl)))
          refine ⟨(k + 1, (ov + zk + a * b) / 65536, z.set (i + k) ((ov + zk + a * b) % 65536)), ⟨by simp only; omega, by simp only; omega, by simp only [List.length_set]; exact hz, ?_, hst _ (hvs _) hv⟩, by simp only; omega, ⟨rfl, rfl, rfl, rfl, rfl, congrArg (fun z => some (Value.int .u64 z)) hdiv, rfl, trivial⟩, ?_⟩
          · intro d hdm
            rcases List.mem_or_eq_of_mem_set hdm with h | rfl
            · exact hd d h
            · exact Nat.mod_lt _ (by decide)
          · (focus ((repeat' (first | exact Keep.nil _ | exact Ext.one _ _ | apply Keep.cons)); done))
        · have he : i + k = 12 := by omega
          have hk2 : k = 12 - i := by omega
          rw [he, hk2] at hv
          have hv2 := hout _ _ hv
          repeat' (first | (apply R.is1; first | (apply R.isBin; (apply R.pure; exact rfl; first | (apply Ok1.add64; exact rfl; exact rfl; omega; omega) | (apply Ok1.lss_f; exact rfl; exact rfl; omega))) | (apply R.pure; exact rfl; first | (apply Ok1.move; exact rfl) | (apply Ok1.assign; exact rfl))) | apply R.nil | (apply T.is; first | apply T.seq | apply T.region | apply T.exit | (apply T.cond_f; exact rfl)))
          exact ⟨(i + 1, z), ⟨by simp only; omega, hz, hd, hv2⟩, by simp only; omega, ⟨rfl, rfl, rfl, rfl, rfl, trivial⟩, by (focus ((repeat' (first | exact Keep.nil _ | exact Ext.one _ _ | apply Keep.cons)); done))⟩
    · have he : i = 12 := by omega
      subst he
      have hfin : u64n z0 = u64n (dig 12 (U * V)) := by
        have h1 := dig_val hd0
        rw [hz0] at h1
        rw [← h1, ← dig_mod 12 (val z0), hv0, Nat.mod_mul_mod, dig_mod]
      rw [← hfin]
      have hl : (u64n z0).length = 12 := by rw [u64n_len, hz0]
      have ho := u64n_one z0
      repeat' (first | (apply R.is1; first | (apply R.isBin; (apply R.pure; exact rfl; (apply Ok1.lss_f; exact rfl; exact rfl; omega))) | (apply R.pure; exact rfl; first | (apply Ok1.load; exact rfl; apply Ld.ownk; exact rfl; exact rfl; exact At.head; exact subE_all hl) | (apply Ok1.move; exact rfl))) | (apply R.is0; (apply R.store; (iterate 4 exact rfl); exact hl; exact ho; (focus ((repeat' (first | exact Upd.head | apply Upd.tail)); done)); exact setE_all hl)) | apply R.nil | (apply T.is; first | apply T.seq | apply T.region | apply T.exit | apply T.ret | (apply T.cond_f; exact rfl)))
      apply RetOk.c
      exact rfl
      apply Ld.ownk
      exact rfl
      exact rfl
      (focus ((repeat' (first | exact At.head | apply At.tail)); done))
      exact subE_all hl
      rfl
end Go.Proofs.YtidjnjlejhoalaaGreat
set_option linter.unusedSimpArgs false
set_option linter.unusedVariables false
namespace Go.Proofs.YtidjnjlejhoalaaGreat
open Go.RowKit Go.Shelf
set_option maxRecDepth 100000
theorem dig_shift (n v : Nat) : dig (n + 1) (65536 * v) = 0 :: dig n v := by
  simp only [dig]
  rw [Nat.mul_mod_right, Nat.mul_div_cancel_left v (by decide)]
theorem dig_zero (n : Nat) : dig n 0 = List.replicate n 0 := by
  induction n with
  | zero => rfl
  | succ n ih => simp [dig, ih, List.replicate_succ]
theorem dig_one (n p : Nat) (h : p < 65536) : dig (n + 1) p = p :: List.replicate n 0 := by
  simp only [dig]
  rw [Nat.mod_eq_of_lt h, Nat.div_eq_of_lt h, dig_zero]
theorem top4 (p : Nat) (h : p < 65536) : dig 12 (p * 65536 ^ 4) = [0, 0, 0, 0, p, 0, 0, 0, 0, 0, 0, 0] := by
  rw [show p * 65536 ^ 4 = 65536 * (65536 * (65536 * (65536 * p))) by omega, dig_shift, dig_shift, dig_shift, dig_shift, dig_one _ _ h]
  rfl
theorem top6 (p : Nat) (h : p < 65536) : dig 12 (p * 65536 ^ 6) = [0, 0, 0, 0, 0, 0, p, 0, 0, 0, 0, 0] := by
  rw [show p * 65536 ^ 6 = 65536 * (65536 * (65536 * (65536 * (65536 * (65536 * p))))) by omega, dig_shift, dig_shift, dig_shift, dig_shift, dig_shift, dig_shift, dig_one _ _ h]
  rfl
theorem cmp_step {X T i : Nat} (h : X / 65536 ^ (i + 1) = T / 65536 ^ (i + 1)) :
    (X / 65536 ^ i % 65536 = T / 65536 ^ i % 65536 → X / 65536 ^ i = T / 65536 ^ i) ∧ (X / 65536 ^ i % 65536 < T / 65536 ^ i % 65536 → X ≤ T) ∧ (T / 65536 ^ i % 65536 < X / 65536 ^ i % 65536 → ¬ X ≤ T) := by
  rw [Nat.pow_succ, ← Nat.div_div_eq_div_mul, ← Nat.div_div_eq_div_mul] at h
  have hm : ∀ {a b : Nat}, a / 65536 ^ i < b / 65536 ^ i → a < b := by
    intro a b hab
    apply Nat.lt_of_not_le
    intro hba
    have := Nat.div_le_div_right (c := 65536 ^ i) hba
    omega
  refine ⟨fun e => by omega, fun e => Nat.le_of_lt (hm (by omega)), fun e => Nat.not_le_of_lt (hm (by omega))⟩
theorem small_2 (y p X TT : Nat) (hy : y < 137438953472) (hp : p < 65536) (hX : X = y * y) (hT : TT = p * 65536 ^ 4) : CallP Tryz.prog 181 [.int .u64 y, .int .u64 2, .int .u64 p] (.bool (decide (X ≤ TT))) := by
  refine enterP (tb := tb) Tryz.func181 rfl Tryz.ntmps181 rfl fun w => ?_
  obtain ⟨D, hD⟩ : ∃ D : Nat → List Value, D = fun v => u64n (dig 12 v) := ⟨_, rfl⟩
  have hpa : CallP Tryz.prog 244 [.int .u64 y] (.agg ⟨D y⟩) := by rw [hD]; exact parts_ok y (by omega)
  have hti : ∀ a b, CallP Tryz.prog 245 [.agg ⟨D a⟩, .agg ⟨D b⟩] (.agg ⟨D (a * b)⟩) := by intro a b; rw [hD]; exact times_ok a b
  have hDl : ∀ v, (D v).length = 12 := by intro v; rw [hD]; simp only [u64n_len, dig_len]
  have hDo : ∀ v, (D v).all Value.oneCell' = true := by intro v; rw [hD]; exact u64n_one _
  have hDg : ∀ (v i : Nat), i < 12 → ∀ j : Int, j = (i : Int) → (D v)[0 + j.toNat * 1]? = some (.int .u64 (v / 65536 ^ i % 65536 : Nat)) := by
    intro v i hi j hj
    subst hj
    rw [hD, ← dig_get 12 v i hi, show 0 + (i : Int).toNat * 1 = i by omega]; exact u64n_get (by rw [dig_len]; exact hi)
  have ht4 : setE [.int .u64 0, .int .u64 0, .int .u64 0, .int .u64 0, .int .u64 0, .int .u64 0, .int .u64 0, .int .u64 0, .int .u64 0, .int .u64 0, .int .u64 0, .int .u64 0] 4 [.int .u64 (p : Int)] = some (D TT) := by
    rw [hD, hT]; simp only [top4 p hp]; rfl
  have hb1 : y * y < 137438953472 * 137438953472 := Nat.mul_lt_mul'' hy hy
  have hb2 : y * y * y < 137438953472 * 137438953472 * 137438953472 := Nat.mul_lt_mul'' hb1 hy
  have hXb : X < 65536 ^ 12 := by rw [hX]; omega
  have hTb : TT < 65536 ^ 12 := by rw [hT]; omega
  have hti1 := hti y y
  rw [← hX] at hti1
  clear hD hti hT hX hb1 hb2
  repeat' (first | (apply R.is1; first | (apply R.isCall; apply R.callP rfl rfl rfl hpa) | (apply R.pure; exact rfl; first | (apply Ok1.move; exact rfl) | (apply Ok1.assign; exact rfl)) | (apply R.alloc; (iterate 3 exact rfl); intro)) | (apply R.is0; (apply R.store; (iterate 4 exact rfl); exact hDl _; exact hDo _; exact Upd.head; exact setE_all (hDl _))) | apply R.nil | (apply T.is; first | apply T.seq | apply T.region | apply T.block))
  apply T.rounds 3
  repeat' (first | (apply R.is1; first | (apply R.isBin; (apply R.pure; exact rfl; first | (apply Ok1.mulU; exact rfl; exact rfl; omega; omega) | (apply Ok1.addU; exact rfl; exact rfl; omega; omega) | (apply Ok1.lss_t; exact rfl; exact rfl; omega) | (apply Ok1.lss_f; exact rfl; exact rfl; omega))) | (apply R.pure; exact rfl; first | (apply Ok1.move; exact rfl) | (apply Ok1.assign; exact rfl) | (apply Ok1.indexAddrA; (iterate 5 exact rfl); omega; omega) | (apply Ok1.buildA; (iterate 6 exact rfl))) | (apply R.alloc; (iterate 3 exact rfl); intro)) | (apply R.is0; first | (apply R.store; (iterate 6 exact rfl); exact Upd.head; exact ht4) | (apply R.store; (iterate 6 exact rfl); exact Upd.head; exact rfl)) | apply R.nil | (apply T.is; first | (apply T.drawC (id := 5) [] (by decide); ((apply A.take 1; exact rfl; exact rfl; kernel_rfl; kernel_rfl; kernel_rfl; (apply Ok1.move; exact rfl)) <;> (apply A.call 2; exact rfl; exact rfl; kernel_rfl; kernel_rfl; kernel_rfl; exact rfl; exact rfl; (exact fun w1 _ => hpa.w w1)) <;> (apply A.one 0; kernel_rfl; exact rfl; (((apply R.pure; exact rfl; (apply Ok1.load; exact rfl; apply Ld.ownk; exact rfl; exact rfl; exact At.head; exact subE_all (hDl _))))); apply R.nil; refine ⟨?_, ?_⟩; (focus ((repeat' (exact trivial))))) <;> (apply A.call 3; exact rfl; exact rfl; kernel_rfl; kernel_rfl; kernel_rfl; exact rfl; exact rfl; (exact fun w1 _ => hti1.w w1)) <;> (apply A.one 4; kernel_rfl; exact rfl; (((apply R.store; (iterate 4 exact rfl); exact hDl _; exact hDo _; exact Upd.head; exact setE_all ((hDl _).trans (hDl _).symm)))); apply R.nil; refine ⟨?_, ?_⟩; (focus ((repeat' (exact trivial))))) <;> (apply A.done; kernel_rfl))) | apply T.seq | apply T.region | apply T.block | apply T.skip | apply T.exit | (apply T.cond_t; exact rfl) | (apply T.cond_f; exact rfl)))
  rename_i bX bT
  have hb0 : X / 65536 ^ 12 = TT / 65536 ^ 12 := by rw [Nat.div_eq_of_lt hXb, Nat.div_eq_of_lt hTb]
  apply T.loopK (α := Nat) (I := fun m => m ≤ 12 ∧ X / 65536 ^ m = TT / 65536 ^ m) (σi := fun m => [(7, .pointer (some ⟨bX, 0, none⟩)), (9, .pointer (some ⟨bT, 0, none⟩)), (10, .int .i64 ((m : Int) - 1))])
    (Li := fun _ => [(bT, .cells ⟨D TT⟩ 396 (0, 0)), (bX, .cells ⟨D X⟩ 396 (0, 0))]) (μ := fun m => m) (i0 := 12)
  · exact ⟨Nat.le_refl _, hb0⟩
  · exact ⟨rfl, rfl, rfl, trivial⟩
  · (focus ((repeat' (first | exact Keep.nil _ | exact Ext.one _ _ | apply Keep.cons)); done))
  · rintro m ⟨hm, hq⟩
    cases m with
    | zero =>
      repeat' (first | (apply R.is1; first | (apply R.isBin; (apply R.pure; exact rfl; (apply Ok1.geq_f; exact rfl; exact rfl; omega))) | (apply R.pure; exact rfl; first | (apply Ok1.move; exact rfl) | (apply Ok1.assign; exact rfl))) | apply R.nil | (apply T.is; first | apply T.seq | apply T.region | apply T.exit | apply T.ret | (apply T.cond_f; exact rfl)))
      (apply RetOk.t; exact rfl)
      simp only [Nat.pow_zero, Nat.div_one] at hq
      rw [decide_eq_true (Nat.le_of_eq hq)]
    | succ i =>
      obtain ⟨h1, h2, h3⟩ := cmp_step hq
      have gx := hDg X i (by omega) (((i + 1 : Nat) : Int) - 1) (by omega)
      have gt := hDg TT i (by omega) (((i + 1 : Nat) : Int) - 1) (by omega)
      generalize X / 65536 ^ i % 65536 = xi at *
      generalize TT / 65536 ^ i % 65536 = ti at *
      rcases Nat.lt_trichotomy xi ti with hc | hc | hc
      · repeat' (first | (apply R.is1; first | (apply R.isBin; (apply R.pure; exact rfl; (apply Ok1.geq_t; exact rfl; exact rfl; omega))) | (apply R.pure; exact rfl; (apply Ok1.move; exact rfl))) | apply R.nil | (apply T.is; first | (apply T.drawC (id := 11) [0,1] (by decide); ((apply A.take 0; exact rfl; exact rfl; kernel_rfl; kernel_rfl; kernel_rfl; (apply Ok1.move; exact rfl)) <;> (apply A.take 1; exact rfl; exact rfl; kernel_rfl; kernel_rfl; kernel_rfl; (apply Ok1.indexAddrA; (iterate 5 exact rfl); omega; omega)) <;> (apply A.take 2; exact rfl; exact rfl; kernel_rfl; kernel_rfl; kernel_rfl; (apply Ok1.load; exact rfl; apply Ld.own1; exact rfl; exact rfl; (focus ((repeat' (first | exact At.head | apply At.tail)); done)); with_reducible (exact gx))) <;> (apply A.take 3; exact rfl; exact rfl; kernel_rfl; kernel_rfl; kernel_rfl; (apply Ok1.move; exact rfl)) <;> (apply A.take 4; exact rfl; exact rfl; kernel_rfl; kernel_rfl; kernel_rfl; (apply Ok1.indexAddrA; (iterate 5 exact rfl); omega; omega)) <;> (apply A.take 5; exact rfl; exact rfl; kernel_rfl; kernel_rfl; kernel_rfl; (apply Ok1.load; exact rfl; apply Ld.own1; exact rfl; exact rfl; exact At.head; with_reducible (exact gt))) <;> ((apply A.take 6; exact rfl; exact rfl; kernel_rfl; kernel_rfl; kernel_rfl; (apply Ok1.neq_t; exact rfl; exact rfl; omega))) <;> (apply A.done; kernel_rfl))) | (apply T.drawC (id := 12) [0,1] (by decide); ((apply A.take 0; exact rfl; exact rfl; kernel_rfl; kernel_rfl; kernel_rfl; (apply Ok1.move; exact rfl)) <;> (apply A.take 1; exact rfl; exact rfl; kernel_rfl; kernel_rfl; kernel_rfl; (apply Ok1.indexAddrA; (iterate 5 exact rfl); omega; omega)) <;> (apply A.take 2; exact rfl; exact rfl; kernel_rfl; kernel_rfl; kernel_rfl; (apply Ok1.load; exact rfl; apply Ld.own1; exact rfl; exact rfl; (focus ((repeat' (first | exact At.head | apply At.tail)); done)); with_reducible (exact gx))) <;> (apply A.take 3; exact rfl; exact rfl; kernel_rfl; kernel_rfl; kernel_rfl; (apply Ok1.move; exact rfl)) <;> (apply A.take 4; exact rfl; exact rfl; kernel_rfl; kernel_rfl; kernel_rfl; (apply Ok1.indexAddrA; (iterate 5 exact rfl); omega; omega)) <;> (apply A.take 5; exact rfl; exact rfl; kernel_rfl; kernel_rfl; kernel_rfl; (apply Ok1.load; exact rfl; apply Ld.own1; exact rfl; exact rfl; exact At.head; with_reducible (exact gt))) <;> ((apply A.take 6; exact rfl; exact rfl; kernel_rfl; kernel_rfl; kernel_rfl; (apply Ok1.lss_t; exact rfl; exact rfl; omega))) <;> (apply A.take 7; exact rfl; exact rfl; kernel_rfl; kernel_rfl; kernel_rfl; (apply Ok1.assign; exact rfl)) <;> (apply A.done; kernel_rfl))) | apply T.seq | apply T.region | apply T.block | apply T.skip | apply T.ret | (apply T.cond_t; exact rfl)))
        (apply RetOk.t; exact rfl)
        rw [decide_eq_true (h2 hc)]
      · repeat' (first | (apply R.is1; first | (apply R.isBin; (apply R.pure; exact rfl; first | (apply Ok1.sub64; exact rfl; exact rfl; omega; omega) | (apply Ok1.geq_t; exact rfl; exact rfl; omega))) | (apply R.pure; exact rfl; first | (apply Ok1.move; exact rfl) | (apply Ok1.assign; exact rfl))) | apply R.nil | (apply T.is; first | (apply T.drawC (id := 11) [0,1] (by decide); ((apply A.take 0; exact rfl; exact rfl; kernel_rfl; kernel_rfl; kernel_rfl; (apply Ok1.move; exact rfl)) <;> (apply A.take 1; exact rfl; exact rfl; kernel_rfl; kernel_rfl; kernel_rfl; (apply Ok1.indexAddrA; (iterate 5 exact rfl); omega; omega)) <;> (apply A.take 2; exact rfl; exact rfl; kernel_rfl; kernel_rfl; kernel_rfl; (apply Ok1.load; exact rfl; apply Ld.own1; exact rfl; exact rfl; (focus ((repeat' (first | exact At.head | apply At.tail)); done)); with_reducible (exact gx))) <;> (apply A.take 3; exact rfl; exact rfl; kernel_rfl; kernel_rfl; kernel_rfl; (apply Ok1.move; exact rfl)) <;> (apply A.take 4; exact rfl; exact rfl; kernel_rfl; kernel_rfl; kernel_rfl; (apply Ok1.indexAddrA; (iterate 5 exact rfl); omega; omega)) <;> (apply A.take 5; exact rfl; exact rfl; kernel_rfl; kernel_rfl; kernel_rfl; (apply Ok1.load; exact rfl; apply Ld.own1; exact rfl; exact rfl; exact At.head; with_reducible (exact gt))) <;> ((apply A.take 6; exact rfl; exact rfl; kernel_rfl; kernel_rfl; kernel_rfl; (apply Ok1.neq_f; exact rfl; exact rfl; omega))) <;> (apply A.done; kernel_rfl))) | apply T.seq | apply T.region | apply T.block | apply T.skip | (apply T.cond_t; exact rfl) | (apply T.cond_f; exact rfl)))
        refine ⟨i, ⟨by omega, h1 hc⟩, by omega, ⟨rfl, rfl, ?_, trivial⟩, by (focus ((repeat' (first | exact Keep.nil _ | exact Ext.one _ _ | apply Keep.cons)); done))⟩
        exact congrArg (fun z => some (Value.int .i64 z)) (by omega)
      · repeat' (first | (apply R.is1; first | (apply R.isBin; (apply R.pure; exact rfl; (apply Ok1.geq_t; exact rfl; exact rfl; omega))) | (apply R.pure; exact rfl; (apply Ok1.move; exact rfl))) | apply R.nil | (apply T.is; first | (apply T.drawC (id := 11) [0,1] (by decide); ((apply A.take 0; exact rfl; exact rfl; kernel_rfl; kernel_rfl; kernel_rfl; (apply Ok1.move; exact rfl)) <;> (apply A.take 1; exact rfl; exact rfl; kernel_rfl; kernel_rfl; kernel_rfl; (apply Ok1.indexAddrA; (iterate 5 exact rfl); omega; omega)) <;> (apply A.take 2; exact rfl; exact rfl; kernel_rfl; kernel_rfl; kernel_rfl; (apply Ok1.load; exact rfl; apply Ld.own1; exact rfl; exact rfl; (focus ((repeat' (first | exact At.head | apply At.tail)); done)); with_reducible (exact gx))) <;> (apply A.take 3; exact rfl; exact rfl; kernel_rfl; kernel_rfl; kernel_rfl; (apply Ok1.move; exact rfl)) <;> (apply A.take 4; exact rfl; exact rfl; kernel_rfl; kernel_rfl; kernel_rfl; (apply Ok1.indexAddrA; (iterate 5 exact rfl); omega; omega)) <;> (apply A.take 5; exact rfl; exact rfl; kernel_rfl; kernel_rfl; kernel_rfl; (apply Ok1.load; exact rfl; apply Ld.own1; exact rfl; exact rfl; exact At.head; with_reducible (exact gt))) <;> ((apply A.take 6; exact rfl; exact rfl; kernel_rfl; kernel_rfl; kernel_rfl; (apply Ok1.neq_t; exact rfl; exact rfl; omega))) <;> (apply A.done; kernel_rfl))) | (apply T.drawC (id := 12) [0,1] (by decide); ((apply A.take 0; exact rfl; exact rfl; kernel_rfl; kernel_rfl; kernel_rfl; (apply Ok1.move; exact rfl)) <;> (apply A.take 1; exact rfl; exact rfl; kernel_rfl; kernel_rfl; kernel_rfl; (apply Ok1.indexAddrA; (iterate 5 exact rfl); omega; omega)) <;> (apply A.take 2; exact rfl; exact rfl; kernel_rfl; kernel_rfl; kernel_rfl; (apply Ok1.load; exact rfl; apply Ld.own1; exact rfl; exact rfl; (focus ((repeat' (first | exact At.head | apply At.tail)); done)); with_reducible (exact gx))) <;> (apply A.take 3; exact rfl; exact rfl; kernel_rfl; kernel_rfl; kernel_rfl; (apply Ok1.move; exact rfl)) <;> (apply A.take 4; exact rfl; exact rfl; kernel_rfl; kernel_rfl; kernel_rfl; (apply Ok1.indexAddrA; (iterate 5 exact rfl); omega; omega)) <;> (apply A.take 5; exact rfl; exact rfl; kernel_rfl; kernel_rfl; kernel_rfl; (apply Ok1.load; exact rfl; apply Ld.own1; exact rfl; exact rfl; exact At.head; with_reducible (exact gt))) <;> ((apply A.take 6; exact rfl; exact rfl; kernel_rfl; kernel_rfl; kernel_rfl; (apply Ok1.lss_f; exact rfl; exact rfl; omega))) <;> (apply A.take 7; exact rfl; exact rfl; kernel_rfl; kernel_rfl; kernel_rfl; (apply Ok1.assign; exact rfl)) <;> (apply A.done; kernel_rfl))) | apply T.seq | apply T.region | apply T.block | apply T.skip | apply T.ret | (apply T.cond_t; exact rfl)))
        (apply RetOk.t; exact rfl)
        rw [decide_eq_false (h3 hc)]
theorem small_3 (y p X TT : Nat) (hy : y < 137438953472) (hp : p < 65536) (hX : X = y * y * y) (hT : TT = p * 65536 ^ 6) : CallP Tryz.prog 181 [.int .u64 y, .int .u64 3, .int .u64 p] (.bool (decide (X ≤ TT))) := by
  refine enterP (tb := tb) Tryz.func181 rfl Tryz.ntmps181 rfl fun w => ?_
  obtain ⟨D, hD⟩ : ∃ D : Nat → List Value, D = fun v => u64n (dig 12 v) := ⟨_, rfl⟩
  have hpa : CallP Tryz.prog 244 [.int .u64 y] (.agg ⟨D y⟩) := by rw [hD]; exact parts_ok y (by omega)
  have hti : ∀ a b, CallP Tryz.prog 245 [.agg ⟨D a⟩, .agg ⟨D b⟩] (.agg ⟨D (a * b)⟩) := by intro a b; rw [hD]; exact times_ok a b
  have hDl : ∀ v, (D v).length = 12 := by intro v; rw [hD]; simp only [u64n_len, dig_len]
  have hDo : ∀ v, (D v).all Value.oneCell' = true := by intro v; rw [hD]; exact u64n_one _
  have hDg : ∀ (v i : Nat), i < 12 → ∀ j : Int, j = (i : Int) → (D v)[0 + j.toNat * 1]? = some (.int .u64 (v / 65536 ^ i % 65536 : Nat)) := by
    intro v i hi j hj
    subst hj
    rw [hD, ← dig_get 12 v i hi, show 0 + (i : Int).toNat * 1 = i by omega]; exact u64n_get (by rw [dig_len]; exact hi)
  have ht6 : setE [.int .u64 0, .int .u64 0, .int .u64 0, .int .u64 0, .int .u64 0, .int .u64 0, .int .u64 0, .int .u64 0, .int .u64 0, .int .u64 0, .int .u64 0, .int .u64 0] 6 [.int .u64 (p : Int)] = some (D TT) := by
    rw [hD, hT]; simp only [top6 p hp]; rfl
  have hb1 : y * y < 137438953472 * 137438953472 := Nat.mul_lt_mul'' hy hy
  have hb2 : y * y * y < 137438953472 * 137438953472 * 137438953472 := Nat.mul_lt_mul'' hb1 hy
  have hXb : X < 65536 ^ 12 := by rw [hX]; omega
  have hTb : TT < 65536 ^ 12 := by rw [hT]; omega
  have hti1 := hti y y
  have hti2 := hti (y * y) y
  rw [← hX] at hti2
  generalize y * y = yy at *
  clear hD hti hT hX hb1 hb2
  repeat' (first | (apply R.is1; first | (apply R.isCall; apply R.callP rfl rfl rfl hpa) | (apply R.pure; exact rfl; first | (apply Ok1.move; exact rfl) | (apply Ok1.assign; exact rfl)) | (apply R.alloc; (iterate 3 exact rfl); intro)) | (apply R.is0; (apply R.store; (iterate 4 exact rfl); exact hDl _; exact hDo _; exact Upd.head; exact setE_all (hDl _))) | apply R.nil | (apply T.is; first | apply T.seq | apply T.region | apply T.block))
  apply T.rounds 3
  repeat' (first | (apply R.is1; first | (apply R.isBin; (apply R.pure; exact rfl; first | (apply Ok1.mulU; exact rfl; exact rfl; omega; omega) | (apply Ok1.addU; exact rfl; exact rfl; omega; omega) | (apply Ok1.lss_t; exact rfl; exact rfl; omega) | (apply Ok1.lss_f; exact rfl; exact rfl; omega))) | (apply R.pure; exact rfl; first | (apply Ok1.move; exact rfl) | (apply Ok1.assign; exact rfl) | (apply Ok1.indexAddrA; (iterate 5 exact rfl); omega; omega) | (apply Ok1.buildA; (iterate 6 exact rfl))) | (apply R.alloc; (iterate 3 exact rfl); intro)) | (apply R.is0; first | (apply R.store; (iterate 6 exact rfl); exact Upd.head; exact ht6) | (apply R.store; (iterate 6 exact rfl); exact Upd.head; exact rfl)) | apply R.nil | (apply T.is; first | (apply T.drawC (id := 5) [] (by decide); ((apply A.take 1; exact rfl; exact rfl; kernel_rfl; kernel_rfl; kernel_rfl; (apply Ok1.move; exact rfl)) <;> (apply A.call 2; exact rfl; exact rfl; kernel_rfl; kernel_rfl; kernel_rfl; exact rfl; exact rfl; (exact fun w1 _ => hpa.w w1)) <;> (apply A.one 0; kernel_rfl; exact rfl; (((apply R.pure; exact rfl; (apply Ok1.load; exact rfl; apply Ld.ownk; exact rfl; exact rfl; exact At.head; exact subE_all (hDl _))))); apply R.nil; refine ⟨?_, ?_⟩; (focus ((repeat' (exact trivial))))) <;> (apply A.call 3; exact rfl; exact rfl; kernel_rfl; kernel_rfl; kernel_rfl; exact rfl; exact rfl; first | (exact fun w1 _ => hti1.w w1) | (exact fun w1 _ => hti2.w w1)) <;> (apply A.one 4; kernel_rfl; exact rfl; (((apply R.store; (iterate 4 exact rfl); exact hDl _; exact hDo _; exact Upd.head; exact setE_all ((hDl _).trans (hDl _).symm)))); apply R.nil; refine ⟨?_, ?_⟩; (focus ((repeat' (exact trivial))))) <;> (apply A.done; kernel_rfl))) | apply T.seq | apply T.region | apply T.block | apply T.skip | apply T.exit | (apply T.cond_t; exact rfl) | (apply T.cond_f; exact rfl)))
  rename_i bX bT
  have hb0 : X / 65536 ^ 12 = TT / 65536 ^ 12 := by rw [Nat.div_eq_of_lt hXb, Nat.div_eq_of_lt hTb]
  apply T.loopK (α := Nat) (I := fun m => m ≤ 12 ∧ X / 65536 ^ m = TT / 65536 ^ m) (σi := fun m => [(7, .pointer (some ⟨bX, 0, none⟩)), (9, .pointer (some ⟨bT, 0, none⟩)), (10, .int .i64 ((m : Int) - 1))])
    (Li := fun _ => [(bT, .cells ⟨D TT⟩ 396 (0, 0)), (bX, .cells ⟨D X⟩ 396 (0, 0))]) (μ := fun m => m) (i0 := 12)
  · exact ⟨Nat.le_refl _, hb0⟩
  · exact ⟨rfl, rfl, rfl, trivial⟩
  · (focus ((repeat' (first | exact Keep.nil _ | exact Ext.one _ _ | apply Keep.cons)); done))
  · rintro m ⟨hm, hq⟩
    cases m with
    | zero =>
      repeat' (first | (apply R.is1; first | (apply R.isBin; (apply R.pure; exact rfl; (apply Ok1.geq_f; exact rfl; exact rfl; omega))) | (apply R.pure; exact rfl; first | (apply Ok1.move; exact rfl) | (apply Ok1.assign; exact rfl))) | apply R.nil | (apply T.is; first | apply T.seq | apply T.region | apply T.exit | apply T.ret | (apply T.cond_f; exact rfl)))
      (apply RetOk.t; exact rfl)
      simp only [Nat.pow_zero, Nat.div_one] at hq
      rw [decide_eq_true (Nat.le_of_eq hq)]
    | succ i =>
      obtain ⟨h1, h2, h3⟩ := cmp_step hq
      have gx := hDg X i (by omega) (((i + 1 : Nat) : Int) - 1) (by omega)
      have gt := hDg TT i (by omega) (((i + 1 : Nat) : Int) - 1) (by omega)
      generalize X / 65536 ^ i % 65536 = xi at *
      generalize TT / 65536 ^ i % 65536 = ti at *
      rcases Nat.lt_trichotomy xi ti with hc | hc | hc
      · repeat' (first | (apply R.is1; first | (apply R.isBin; (apply R.pure; exact rfl; (apply Ok1.geq_t; exact rfl; exact rfl; omega))) | (apply R.pure; exact rfl; (apply Ok1.move; exact rfl))) | apply R.nil | (apply T.is; first | (apply T.drawC (id := 11) [0,1] (by decide); ((apply A.take 0; exact rfl; exact rfl; kernel_rfl; kernel_rfl; kernel_rfl; (apply Ok1.move; exact rfl)) <;> (apply A.take 1; exact rfl; exact rfl; kernel_rfl; kernel_rfl; kernel_rfl; (apply Ok1.indexAddrA; (iterate 5 exact rfl); omega; omega)) <;> (apply A.take 2; exact rfl; exact rfl; kernel_rfl; kernel_rfl; kernel_rfl; (apply Ok1.load; exact rfl; apply Ld.own1; exact rfl; exact rfl; (focus ((repeat' (first | exact At.head | apply At.tail)); done)); with_reducible (exact gx))) <;> (apply A.take 3; exact rfl; exact rfl; kernel_rfl; kernel_rfl; kernel_rfl; (apply Ok1.move; exact rfl)) <;> (apply A.take 4; exact rfl; exact rfl; kernel_rfl; kernel_rfl; kernel_rfl; (apply Ok1.indexAddrA; (iterate 5 exact rfl); omega; omega)) <;> (apply A.take 5; exact rfl; exact rfl; kernel_rfl; kernel_rfl; kernel_rfl; (apply Ok1.load; exact rfl; apply Ld.own1; exact rfl; exact rfl; exact At.head; with_reducible (exact gt))) <;> ((apply A.take 6; exact rfl; exact rfl; kernel_rfl; kernel_rfl; kernel_rfl; (apply Ok1.neq_t; exact rfl; exact rfl; omega))) <;> (apply A.done; kernel_rfl))) | (apply T.drawC (id := 12) [0,1] (by decide); ((apply A.take 0; exact rfl; exact rfl; kernel_rfl; kernel_rfl; kernel_rfl; (apply Ok1.move; exact rfl)) <;> (apply A.take 1; exact rfl; exact rfl; kernel_rfl; kernel_rfl; kernel_rfl; (apply Ok1.indexAddrA; (iterate 5 exact rfl); omega; omega)) <;> (apply A.take 2; exact rfl; exact rfl; kernel_rfl; kernel_rfl; kernel_rfl; (apply Ok1.load; exact rfl; apply Ld.own1; exact rfl; exact rfl; (focus ((repeat' (first | exact At.head | apply At.tail)); done)); with_reducible (exact gx))) <;> (apply A.take 3; exact rfl; exact rfl; kernel_rfl; kernel_rfl; kernel_rfl; (apply Ok1.move; exact rfl)) <;> (apply A.take 4; exact rfl; exact rfl; kernel_rfl; kernel_rfl; kernel_rfl; (apply Ok1.indexAddrA; (iterate 5 exact rfl); omega; omega)) <;> (apply A.take 5; exact rfl; exact rfl; kernel_rfl; kernel_rfl; kernel_rfl; (apply Ok1.load; exact rfl; apply Ld.own1; exact rfl; exact rfl; exact At.head; with_reducible (exact gt))) <;> ((apply A.take 6; exact rfl; exact rfl; kernel_rfl; kernel_rfl; kernel_rfl; (apply Ok1.lss_t; exact rfl; exact rfl; omega))) <;> (apply A.take 7; exact rfl; exact rfl; kernel_rfl; kernel_rfl; kernel_rfl; (apply Ok1.assign; exact rfl)) <;> (apply A.done; kernel_rfl))) | apply T.seq | apply T.region | apply T.block | apply T.skip | apply T.ret | (apply T.cond_t; exact rfl)))
        (apply RetOk.t; exact rfl)
        rw [decide_eq_true (h2 hc)]
      · repeat' (first | (apply R.is1; first | (apply R.isBin; (apply R.pure; exact rfl; first | (apply Ok1.sub64; exact rfl; exact rfl; omega; omega) | (apply Ok1.geq_t; exact rfl; exact rfl; omega))) | (apply R.pure; exact rfl; first | (apply Ok1.move; exact rfl) | (apply Ok1.assign; exact rfl))) | apply R.nil | (apply T.is; first | (apply T.drawC (id := 11) [0,1] (by decide); ((apply A.take 0; exact rfl; exact rfl; kernel_rfl; kernel_rfl; kernel_rfl; (apply Ok1.move; exact rfl)) <;> (apply A.take 1; exact rfl; exact rfl; kernel_rfl; kernel_rfl; kernel_rfl; (apply Ok1.indexAddrA; (iterate 5 exact rfl); omega; omega)) <;> (apply A.take 2; exact rfl; exact rfl; kernel_rfl; kernel_rfl; kernel_rfl; (apply Ok1.load; exact rfl; apply Ld.own1; exact rfl; exact rfl; (focus ((repeat' (first | exact At.head | apply At.tail)); done)); with_reducible (exact gx))) <;> (apply A.take 3; exact rfl; exact rfl; kernel_rfl; kernel_rfl; kernel_rfl; (apply Ok1.move; exact rfl)) <;> (apply A.take 4; exact rfl; exact rfl; kernel_rfl; kernel_rfl; kernel_rfl; (apply Ok1.indexAddrA; (iterate 5 exact rfl); omega; omega)) <;> (apply A.take 5; exact rfl; exact rfl; kernel_rfl; kernel_rfl; kernel_rfl; (apply Ok1.load; exact rfl; apply Ld.own1; exact rfl; exact rfl; exact At.head; with_reducible (exact gt))) <;> ((apply A.take 6; exact rfl; exact rfl; kernel_rfl; kernel_rfl; kernel_rfl; (apply Ok1.neq_f; exact rfl; exact rfl; omega))) <;> (apply A.done; kernel_rfl))) | apply T.seq | apply T.region | apply T.block | apply T.skip | (apply T.cond_t; exact rfl) | (apply T.cond_f; exact rfl)))
        refine ⟨i, ⟨by omega, h1 hc⟩, by omega, ⟨rfl, rfl, ?_, trivial⟩, by (focus ((repeat' (first | exact Keep.nil _ | exact Ext.one _ _ | apply Keep.cons)); done))⟩
        exact congrArg (fun z => some (Value.int .i64 z)) (by omega)
      · repeat' (first | (apply R.is1; first | (apply R.isBin; (apply R.pure; exact rfl; (apply Ok1.geq_t; exact rfl; exact rfl; omega))) | (apply R.pure; exact rfl; (apply Ok1.move; exact rfl))) | apply R.nil | (apply T.is; first | (apply T.drawC (id := 11) [0,1] (by decide); ((apply A.take 0; exact rfl; exact rfl; kernel_rfl; kernel_rfl; kernel_rfl; (apply Ok1.move; exact rfl)) <;> (apply A.take 1; exact rfl; exact rfl; kernel_rfl; kernel_rfl; kernel_rfl; (apply Ok1.indexAddrA; (iterate 5 exact rfl); omega; omega)) <;> (apply A.take 2; exact rfl; exact rfl; kernel_rfl; kernel_rfl; kernel_rfl; (apply Ok1.load; exact rfl; apply Ld.own1; exact rfl; exact rfl; (focus ((repeat' (first | exact At.head | apply At.tail)); done)); with_reducible (exact gx))) <;> (apply A.take 3; exact rfl; exact rfl; kernel_rfl; kernel_rfl; kernel_rfl; (apply Ok1.move; exact rfl)) <;> (apply A.take 4; exact rfl; exact rfl; kernel_rfl; kernel_rfl; kernel_rfl; (apply Ok1.indexAddrA; (iterate 5 exact rfl); omega; omega)) <;> (apply A.take 5; exact rfl; exact rfl; kernel_rfl; kernel_rfl; kernel_rfl; (apply Ok1.load; exact rfl; apply Ld.own1; exact rfl; exact rfl; exact At.head; with_reducible (exact gt))) <;> ((apply A.take 6; exact rfl; exact rfl; kernel_rfl; kernel_rfl; kernel_rfl; (apply Ok1.neq_t; exact rfl; exact rfl; omega))) <;> (apply A.done; kernel_rfl))) | (apply T.drawC (id := 12) [0,1] (by decide); ((apply A.take 0; exact rfl; exact rfl; kernel_rfl; kernel_rfl; kernel_rfl; (apply Ok1.move; exact rfl)) <;> (apply A.take 1; exact rfl; exact rfl; kernel_rfl; kernel_rfl; kernel_rfl; (apply Ok1.indexAddrA; (iterate 5 exact rfl); omega; omega)) <;> (apply A.take 2; exact rfl; exact rfl; kernel_rfl; kernel_rfl; kernel_rfl; (apply Ok1.load; exact rfl; apply Ld.own1; exact rfl; exact rfl; (focus ((repeat' (first | exact At.head | apply At.tail)); done)); with_reducible (exact gx))) <;> (apply A.take 3; exact rfl; exact rfl; kernel_rfl; kernel_rfl; kernel_rfl; (apply Ok1.move; exact rfl)) <;> (apply A.take 4; exact rfl; exact rfl; kernel_rfl; kernel_rfl; kernel_rfl; (apply Ok1.indexAddrA; (iterate 5 exact rfl); omega; omega)) <;> (apply A.take 5; exact rfl; exact rfl; kernel_rfl; kernel_rfl; kernel_rfl; (apply Ok1.load; exact rfl; apply Ld.own1; exact rfl; exact rfl; exact At.head; with_reducible (exact gt))) <;> ((apply A.take 6; exact rfl; exact rfl; kernel_rfl; kernel_rfl; kernel_rfl; (apply Ok1.lss_f; exact rfl; exact rfl; omega))) <;> (apply A.take 7; exact rfl; exact rfl; kernel_rfl; kernel_rfl; kernel_rfl; (apply Ok1.assign; exact rfl)) <;> (apply A.done; kernel_rfl))) | apply T.seq | apply T.region | apply T.block | apply T.skip | apply T.ret | (apply T.cond_t; exact rfl)))
        (apply RetOk.t; exact rfl)
        rw [decide_eq_false (h3 hc)]
theorem small_ok (y n p : Nat) (hy : y < 137438953472) (hn : n = 2 ∨ n = 3) (hp : p < 65536) : CallP Tryz.prog 181 [.int .u64 y, .int .u64 n, .int .u64 p] (.bool (decide (y ^ n ≤ p * 65536 ^ (2 * n)))) := by
  rcases hn with rfl | rfl
  · exact small_2 y p (y ^ 2) _ hy hp (Nat.pow_two y) rfl
  · exact small_3 y p (y ^ 3) _ hy hp (by rw [Nat.pow_succ, Nat.pow_two]) rfl
end Go.Proofs.YtidjnjlejhoalaaGreat
set_option linter.unusedSimpArgs false
set_option linter.unusedVariables false
namespace Go.Proofs.YtidjnjlejhoalaaGreat
open Go.RowKit Go.Shelf
set_option maxRecDepth 100000
def rootI (p n : Nat) : Nat → Nat → Nat
  | 0, x => x
  | k + 1, x => if (x + 2 ^ k) ^ n ≤ p * 65536 ^ (2 * n) then rootI p n k (x + 2 ^ k) else rootI p n k x
def rootR (p n : Nat) : Nat := rootI p n 36 0 % 4294967296
theorem root_ok (p n : Nat) (hn : n = 2 ∨ n = 3) (hp : p < 65536) : CallP Tryz.prog 89 [.int .u64 p, .int .u64 n] (.int .u32 (rootR p n)) := by
  refine enterP (tb := tb) Tryz.func89 rfl Tryz.ntmps89 rfl fun w => ?_
  obtain ⟨V, hV⟩ : ∃ V, V = rootI p n 36 0 := ⟨_, rfl⟩
  have hVr : rootR p n = V % 4294967296 := by rw [hV]; rfl
  rw [hVr]
  repeat' (first | (apply R.is1; (apply R.pure; exact rfl; (apply Ok1.assign; exact rfl))) | apply R.nil | (apply T.is; first | apply T.seq | apply T.region | apply T.block))
  apply T.loopK (α := Nat × Nat) (I := fun x => x.1 ≤ 36 ∧ x.2 + 2 ^ x.1 ≤ 68719476736 ∧ rootI p n x.1 x.2 = V) (σi := fun x => [(0, .int .u64 p), (1, .int .u64 n), (5, .int .u64 x.2), (6, .int .i64 ((x.1 : Int) - 1))]) (Li := fun _ => []) (μ := fun x => x.1) (i0 := (36, 0))
  · exact ⟨by simp only; omega, by simp only; omega, hV.symm⟩
  · exact ⟨rfl, rfl, rfl, rfl, trivial⟩
  · (focus ((repeat' (exact Keep.nil _)); done))
  · rintro ⟨k, x⟩ ⟨hk, hb, hr⟩
    simp only at hk hb hr ⊢
    cases k with
    | zero =>
      have hx : x = V := hr
      subst hx
      rw [Nat.pow_zero] at hb
      repeat' (first | (apply R.is1; first | (apply R.isBin; (apply R.pure; exact rfl; first | (apply Ok1.geq_f; exact rfl; exact rfl; omega) | (apply Ok1.remN; exact rfl; exact rfl; omega; omega))) | (apply R.pure; exact rfl; first | (apply Ok1.convU32; (iterate 5 exact rfl); omega; omega) | (apply Ok1.move; exact rfl) | (apply Ok1.assign; exact rfl))) | apply R.nil | (apply T.is; first | apply T.seq | apply T.region | apply T.exit | apply T.ret | (apply T.cond_f; exact rfl)))
      (apply RetOk.t; exact rfl)
      rw [Int.natCast_emod]
      rfl
    | succ k =>
      have hpw : 2 ^ (k + 1) = 2 * 2 ^ k := by rw [Nat.pow_succ, Nat.mul_comm]
      have hr2 : rootI p n (k + 1) x = if (x + 2 ^ k) ^ n ≤ p * 65536 ^ (2 * n) then rootI p n k (x + 2 ^ k) else rootI p n k x := rfl
      rw [hr] at hr2
      rw [hpw] at hb
      have hpos : 0 < 2 ^ k := Nat.pow_pos (by decide)
      have hsm := small_ok (x + 2 ^ k) n p (by omega) hn hp
      have hkn : (((k + 1 : Nat) : Int) - 1).toNat = k := by omega
      have hk0 : 0 ≤ ((k + 1 : Nat) : Int) - 1 := by omega
      have hk64 : (((k + 1 : Nat) : Int) - 1).toNat ≤ IntKind.u64.bits := by rw [hkn]; show k ≤ 64; omega
      have hpk : pw (((k + 1 : Nat) : Int) - 1).toNat = ((2 ^ k : Nat) : Int) := by rw [hkn, pw_eq, Int.natCast_pow]; rfl
      have hI : ∀ x', x' + 2 * 2 ^ k ≤ 68719476736 + 2 ^ k → x' + 2 ^ k ≤ 68719476736 := fun x' h => by omega
      have hx0 : x + 2 ^ k ≤ 68719476736 := by omega
      have hx1 : x + 2 ^ k + 2 ^ k ≤ 68719476736 := by omega
      have hnxt : ((k + 1 : Nat) : Int) - 1 - 1 = (k : Int) - 1 := by omega
      generalize hq : 2 ^ k = q at *
      have hwr : IntKind.u64.wrap (1 * (q : Int)) = (q : Int) := by rw [Int.one_mul]; exact wrap_u64 (by omega) (by omega)
      have hsum : (x : Int) + (q : Int) = ((x + q : Nat) : Int) := by omega
      rw [← hsum] at hsm
      by_cases hle : (x + q) ^ n ≤ p * 65536 ^ (2 * n)
      · rw [if_pos hle] at hr2
        rw [decide_eq_true hle] at hsm
        repeat' (first | (apply R.is1; first | (apply R.isBin; (apply R.pure; exact rfl; first | (apply Ok1.shlE; exact rfl; exact rfl; exact hk0; exact hk64; exact hpk; exact hwr) | (apply Ok1.addU; exact rfl; exact rfl; omega; omega) | (apply Ok1.sub64; exact rfl; exact rfl; omega; omega) | (apply Ok1.geq_t; exact rfl; exact rfl; omega))) | (apply R.isCall; apply R.callP rfl rfl rfl hsm) | (apply R.pure; exact rfl; first | (apply Ok1.move; exact rfl) | (apply Ok1.assign; exact rfl))) | apply R.nil | (apply T.is; first | apply T.seq | apply T.region | apply T.block | apply T.skip | (apply T.cond_t; exact rfl)))
        exact ⟨(k, x + q), ⟨by simp only; omega, by simp only [hq]; exact hx1, hr2.symm⟩, by simp only; omega, ⟨rfl, rfl, congrArg (fun z => some (Value.int .u64 z)) hsum, congrArg (fun z => some (Value.int .i64 z)) hnxt, trivial⟩, by (focus ((repeat' (exact Keep.nil _)); done))⟩
      · rw [if_neg hle] at hr2
        rw [decide_eq_false hle] at hsm
        repeat' (first | (apply R.is1; first | (apply R.isBin; (apply R.pure; exact rfl; first | (apply Ok1.shlE; exact rfl; exact rfl; exact hk0; exact hk64; exact hpk; exact hwr) | (apply Ok1.addU; exact rfl; exact rfl; omega; omega) | (apply Ok1.sub64; exact rfl; exact rfl; omega; omega) | (apply Ok1.geq_t; exact rfl; exact rfl; omega))) | (apply R.isCall; apply R.callP rfl rfl rfl hsm) | (apply R.pure; exact rfl; first | (apply Ok1.move; exact rfl) | (apply Ok1.assign; exact rfl))) | apply R.nil | (apply T.is; first | apply T.seq | apply T.region | apply T.block | apply T.skip | (apply T.cond_t; exact rfl) | (apply T.cond_f; exact rfl)))
        exact ⟨(k, x), ⟨by simp only; omega, by simp only [hq]; exact hx0, hr2.symm⟩, by simp only; omega, ⟨rfl, rfl, rfl, congrArg (fun z => some (Value.int .i64 z)) hnxt, trivial⟩, by (focus ((repeat' (exact Keep.nil _)); done))⟩
end Go.Proofs.YtidjnjlejhoalaaGreat
set_option linter.unusedSimpArgs false
set_option linter.unusedVariables false
namespace Go.Proofs.YtidjnjlejhoalaaGreat
open Go.RowKit Go.Shelf
set_option maxRecDepth 100000
def pl (p : Nat) : Nat → Nat → Bool → Bool
  | 0, _, b => b
  | f + 1, q, b => if q * q ≤ p then pl p f (q + 1) (b && !decide (p % q = 0)) else b
def isP (p : Nat) : Bool := pl p 18 2 true
def PL : List Nat := [2, 3, 5, 7, 11, 13, 17, 19, 23, 29, 31, 37, 41, 43, 47, 53, 59, 61, 67, 71, 73, 79, 83, 89, 97, 101, 103, 107, 109, 113, 127, 131, 137, 139, 149, 151, 157, 163, 167, 173, 179, 181, 191, 193, 197, 199, 211, 223, 227, 229, 233, 239, 241, 251, 257, 263, 269, 271, 277, 281, 283, 293, 307, 311]
def Fp (p : Nat) : List Nat := PL.filter fun x => Nat.blt x p
theorem Fp_step : ∀ p, p < 312 → 2 ≤ p → Fp (p + 1) = (if isP p then Fp p ++ [p] else Fp p) ∧ (Fp p).length < 64 := by decide +kernel
theorem Fp_end : Fp 312 = PL := by decide +kernel
theorem roots3 : PL.map (fun p => ((rootR p 3 : Nat) : Int)) = kI := by decide +kernel
theorem roots2 : (PL.take 8).map (fun p => ((rootR p 2 : Nat) : Int)) = h0I.l := by decide +kernel
def zs (n : Nat) : List Value := List.replicate n (.int .u32 0)
def tbC (l : List Nat) : List Value := u32s (l.map fun p => ((rootR p 3 : Nat) : Int)) ++ (zs (64 - l.length) ++ (u32s ((l.take 8).map fun p => ((rootR p 2 : Nat) : Int)) ++ zs (8 - l.length)))
theorem tbC_end : tbC PL = tabV := by
  unfold tbC
  rw [roots3, roots2]
  rfl
theorem put_mid {o : List Value} {n k i : Nat} {x z : Value} {r : List Value} (hl : o.length = n) (hi : i = n) : setE (o ++ (List.replicate (k + 1) z ++ r)) i [x] = some (o ++ [x] ++ (List.replicate k z ++ r)) := by
  subst hl hi
  rw [setE_mid o (by simp; omega)]
  simp [List.replicate_succ]
theorem tb_put {l : List Nat} {p : Nat} (h : l.length < 64) (h8 : ¬ l.length < 8) : setE (tbC l) l.length [.int .u32 ((rootR p 3 : Nat) : Int)] = some (tbC (l ++ [p])) := by
  unfold tbC zs
  obtain ⟨k, hk⟩ : ∃ k, 64 - l.length = k + 1 := ⟨63 - l.length, by omega⟩
  rw [hk, put_mid (by rw [u32s_len, List.length_map]) rfl, List.map_append, u32s_app, List.length_append, List.length_singleton, show 64 - (l.length + 1) = k by omega, List.take_append_of_le_length (by omega), show 8 - (l.length + 1) = 8 - l.length by omega]
  rfl
def tbM (l : List Nat) (p : Nat) : List Value := u32s ((l ++ [p]).map fun p => ((rootR p 3 : Nat) : Int)) ++ (zs (64 - (l.length + 1)) ++ (u32s ((l.take 8).map fun p => ((rootR p 2 : Nat) : Int)) ++ zs (8 - l.length)))
theorem tb_put1 {l : List Nat} {p : Nat} (h : l.length < 8) : setE (tbC l) l.length [.int .u32 ((rootR p 3 : Nat) : Int)] = some (tbM l p) := by
  unfold tbC tbM zs
  obtain ⟨k, hk⟩ : ∃ k, 64 - l.length = k + 1 := ⟨63 - l.length, by omega⟩
  rw [hk, put_mid (by rw [u32s_len, List.length_map]) rfl, List.map_append, u32s_app, show 64 - (l.length + 1) = k by omega]
  rfl
theorem tb_put2 {l : List Nat} {p : Nat} (h : l.length < 8) : setE (tbM l p) (64 + l.length) [.int .u32 ((rootR p 2 : Nat) : Int)] = some (tbC (l ++ [p])) := by
  unfold tbC tbM zs
  obtain ⟨k, hk⟩ : ∃ k, 8 - l.length = k + 1 := ⟨7 - l.length, by omega⟩
  rw [hk, ← List.append_assoc, ← List.append_assoc]
  have h1 := put_mid (k := k) (z := .int .u32 0) (x := .int .u32 ((rootR p 2 : Nat) : Int)) (r := []) (i := 64 + l.length) (n := 64 + l.length) (o := u32s ((l ++ [p]).map fun p => ((rootR p 3 : Nat) : Int)) ++ List.replicate (64 - (l.length + 1)) (.int .u32 0) ++ u32s ((l.take 8).map fun p => ((rootR p 2 : Nat) : Int))) (by
    simp only [List.length_append, u32s_len, List.length_map, List.length_replicate, List.length_take, List.length_singleton]; omega) rfl
  rw [List.append_nil, List.append_nil] at h1
  rw [h1, List.length_append, List.length_singleton, List.take_of_length_le (by omega : l.length ≤ 8), List.take_of_length_le (by rw [List.length_append, List.length_singleton]; omega), List.map_append (f := fun p => ((rootR p 2 : Nat) : Int)), u32s_app (List.map (fun p => ((rootR p 2 : Nat) : Int)) l), show 8 - (l.length + 1) = k by omega]
  simp only [List.append_assoc]
  rfl
theorem tb_len {l : List Nat} (h : l.length ≤ 64) : (tbC l).length = 72 := by
  unfold tbC zs
  simp only [List.length_append, u32s_len, List.length_map, List.length_replicate, List.length_take]; omega
theorem tb_one (l : List Nat) : (tbC l).all Value.oneCell' = true := by
  have hz : ∀ n, (zs n).all Value.oneCell' = true := by intro n; rw [List.all_eq_true]; intro x hx; rw [List.eq_of_mem_replicate hx]; rfl
  unfold tbC
  simp only [List.all_append, u32s_one, hz, Bool.and_true]
theorem vmake_ok : CallP Tryz.prog 13 [] (.agg ⟨tabV⟩) := by
  refine enterP (tb := tb) Tryz.func13 rfl Tryz.ntmps13 rfl fun w => ?_
  repeat' (first | (apply R.is1; first | (apply R.pure; exact rfl; first | (apply Ok1.assign; exact rfl) | (apply Ok1.build; (iterate 5 exact rfl))) | (apply R.alloc; (iterate 3 exact rfl); intro)) | (apply R.is0; (apply R.store; (iterate 6 exact rfl); exact Upd.head; exact rfl)) | apply R.nil | (apply T.is; first | apply T.seq | apply T.region | apply T.block))
  rename_i bR bT
  apply T.loopK (α := Nat) (I := fun p => 2 ≤ p ∧ p ≤ 312) (σi := fun p => [(0, .pointer (some ⟨bR, 0, none⟩)), (1, .pointer (some ⟨bT, 0, none⟩)), (2, .int .i64 ((Fp p).length : Nat)), (3, .int .u64 p)])
    (Li := fun p => [(bT, .cells ⟨tbC (Fp p)⟩ 31 (0, 0)), (bR, .cells ⟨List.replicate 72 (.int .u32 0)⟩ 31 (0, 0))]) (μ := fun p => 312 - p) (i0 := 2)
  · exact ⟨by decide, by decide⟩
  · exact ⟨rfl, rfl, rfl, rfl, trivial⟩
  · (focus ((repeat' (first | exact Keep.nil _ | exact Ext.one _ _ | apply Keep.cons)); done))
  · rintro p ⟨h2, h3⟩
    rcases Nat.lt_or_ge p 312 with hlt | hge
    · obtain ⟨hst, h64⟩ := Fp_step p hlt h2
      have hr3 := root_ok p 3 (.inr rfl) (by omega)
      have hr2 := root_ok p 2 (.inl rfl) (by omega)
      generalize Fp p = l at *
      repeat' (first | (apply R.is1; first | (apply R.isBin; (apply R.pure; exact rfl; (apply Ok1.lss_t; exact rfl; exact rfl; omega))) | (apply R.pure; exact rfl; first | (apply Ok1.move; exact rfl) | (apply Ok1.assign; exact rfl))) | apply R.nil | (apply T.is; first | apply T.seq | apply T.region | apply T.block | apply T.skip | (apply T.cond_t; exact rfl)))
      apply T.loopK (α := Nat × Bool) (I := fun x => 2 ≤ x.1 ∧ x.1 ≤ 20 ∧ pl p (20 - x.1) x.1 x.2 = isP p) (σi := fun x => [(0, .pointer (some ⟨bR, 0, none⟩)), (1, .pointer (some ⟨bT, 0, none⟩)), (2, .int .i64 (l.length : Nat)), (3, .int .u64 p), (4, .bool x.2), (5, .int .u64 x.1)])
        (Li := fun _ => [(bT, .cells ⟨tbC l⟩ 31 (0, 0)), (bR, .cells ⟨List.replicate 72 (.int .u32 0)⟩ 31 (0, 0))]) (μ := fun x => 20 - x.1) (i0 := (2, true))
      · exact ⟨by decide, by decide, rfl⟩
      · exact ⟨rfl, rfl, rfl, rfl, rfl, rfl, trivial⟩
      · (focus ((repeat' (first | exact Keep.nil _ | exact Ext.one _ _ | apply Keep.cons)); done))
      · rintro ⟨q, b⟩ ⟨hq2, hq20, hpl⟩
        simp only at hq2 hq20 hpl ⊢
        have hqq : ((q * q : Nat) : Int) = (q : Int) * (q : Int) := by rw [Int.natCast_mul]
        have hqb : q * q ≤ 20 * 20 := Nat.mul_le_mul hq20 hq20
        have hpq : ((p % q : Nat) : Int) = (p : Int) % (q : Int) := Int.natCast_emod p q
        rcases Nat.lt_or_ge p (q * q) with hgt | hle
        · have hb : b = isP p := by
            rw [← hpl]
            cases hf : 20 - q with
            | zero => rfl
            | succ f => simp only [pl]; rw [if_neg (by omega)]
          rw [← hb] at hst
          cases b with
          | false =>
            repeat' (first | (apply R.is1; first | (apply R.isBin; (apply R.pure; exact rfl; first | (apply Ok1.mulU; exact rfl; exact rfl; omega; omega) | (apply Ok1.addU; exact rfl; exact rfl; omega; omega) | (apply Ok1.leq_f; exact rfl; exact rfl; omega))) | (apply R.pure; exact rfl; first | (apply Ok1.move; exact rfl) | (apply Ok1.assign; exact rfl) | (apply Ok1.not_f; exact rfl))) | apply R.nil | (apply T.is; first | apply T.seq | apply T.region | apply T.exit | (apply T.cond_t; exact rfl) | (apply T.cond_f; exact rfl)))
            refine ⟨p + 1, ⟨by omega, by omega⟩, by omega, ⟨rfl, rfl, ?_, rfl, trivial⟩, ?_⟩
            · rw [hst]; rfl
            · rw [hst]; (focus ((repeat' (first | exact Keep.nil _ | exact Ext.one _ _ | apply Keep.cons)); done))
          | true =>
            have hst2 : Fp (p + 1) = l ++ [p] := hst
            have hn1 : ((l.length : Nat) : Int) + 1 = (((l ++ [p]).length : Nat) : Int) := by simp
            have ho1 : (0 + 0) + ((l.length : Nat) : Int).toNat * 1 = l.length := by omega
            have ho2 : (0 + 64) + ((l.length : Nat) : Int).toNat * 1 = 64 + l.length := by omega
            by_cases h8 : l.length < 8
            · have hp1 := tb_put1 (p := p) h8
              have hp2 := tb_put2 (p := p) h8
              rw [← ho1] at hp1
              rw [← ho2] at hp2
              repeat' (first | (apply R.is1; first | (apply R.isBin; (apply R.pure; exact rfl; first | (apply Ok1.mulU; exact rfl; exact rfl; omega; omega) | (apply Ok1.addU; exact rfl; exact rfl; omega; omega) | (apply Ok1.add64; exact rfl; exact rfl; omega; omega) | (apply Ok1.lss_t; exact rfl; exact rfl; omega) | (apply Ok1.leq_f; exact rfl; exact rfl; omega))) | (apply R.isCall; first | apply R.callP rfl rfl rfl hr3 | apply R.callP rfl rfl rfl hr2) | (apply R.pure; exact rfl; first | (apply Ok1.move; exact rfl) | (apply Ok1.fieldAddr; (iterate 5 exact rfl)) | (apply Ok1.assign; exact rfl) | (apply Ok1.indexAddrA; (iterate 5 exact rfl); omega; omega) | (apply Ok1.not_t; exact rfl))) | (apply R.is0; (apply R.store; (iterate 6 exact rfl); exact Upd.head; first | exact hp1 | exact hp2)) | apply R.nil | (apply T.is; first | apply T.seq | apply T.region | apply T.skip | apply T.exit | (apply T.cond_t; exact rfl) | (apply T.cond_f; exact rfl)))
              refine ⟨p + 1, ⟨by omega, by omega⟩, by omega, ⟨rfl, rfl, ?_, rfl, trivial⟩, ?_⟩
              · rw [hst2]; exact congrArg (fun z => some (Value.int .i64 z)) hn1
              · rw [hst2]; (focus ((repeat' (first | exact Keep.nil _ | exact Ext.one _ _ | apply Keep.cons)); done))
            · have hp1 := tb_put (p := p) h64 h8
              rw [← ho1] at hp1
              repeat' (first | (apply R.is1; first | (apply R.isBin; (apply R.pure; exact rfl; first | (apply Ok1.mulU; exact rfl; exact rfl; omega; omega) | (apply Ok1.addU; exact rfl; exact rfl; omega; omega) | (apply Ok1.add64; exact rfl; exact rfl; omega; omega) | (apply Ok1.lss_f; exact rfl; exact rfl; omega) | (apply Ok1.leq_f; exact rfl; exact rfl; omega))) | (apply R.isCall; apply R.callP rfl rfl rfl hr3) | (apply R.pure; exact rfl; first | (apply Ok1.move; exact rfl) | (apply Ok1.fieldAddr; (iterate 5 exact rfl)) | (apply Ok1.assign; exact rfl) | (apply Ok1.indexAddrA; (iterate 5 exact rfl); omega; omega) | (apply Ok1.not_t; exact rfl))) | (apply R.is0; (apply R.store; (iterate 6 exact rfl); exact Upd.head; exact hp1)) | apply R.nil | (apply T.is; first | apply T.seq | apply T.region | apply T.skip | apply T.exit | (apply T.cond_f; exact rfl)))
              refine ⟨p + 1, ⟨by omega, by omega⟩, by omega, ⟨rfl, rfl, ?_, rfl, trivial⟩, ?_⟩
              · rw [hst2]; exact congrArg (fun z => some (Value.int .i64 z)) hn1
              · rw [hst2]; (focus ((repeat' (first | exact Keep.nil _ | exact Ext.one _ _ | apply Keep.cons)); done))
        · have hq19 : q < 20 := by
            rcases Nat.lt_or_ge q 20 with h | h
            · exact h
            · have : q = 20 := by omega
              subst this; omega
          have hpl2 : pl p (20 - (q + 1)) (q + 1) (b && !decide (p % q = 0)) = isP p := by
            rw [← hpl, show 20 - q = (20 - (q + 1)) + 1 by omega]
            simp only [pl]
            rw [if_pos hle]
          cases b with
          | false =>
            repeat' (first | (apply R.is1; first | (apply R.isBin; (apply R.pure; exact rfl; first | (apply Ok1.mulU; exact rfl; exact rfl; omega; omega) | (apply Ok1.addU; exact rfl; exact rfl; omega; omega) | (apply Ok1.leq_t; exact rfl; exact rfl; omega))) | (apply R.pure; exact rfl; first | (apply Ok1.move; exact rfl) | (apply Ok1.assign; exact rfl) | (apply Ok1.pick_f; exact rfl; exact rfl))) | (apply R.isG; (apply R.guard_not; (iterate 3 exact rfl))) | apply R.nil | (apply T.is; first | apply T.seq | apply T.region | apply T.block | apply T.skip | (apply T.cond_t; exact rfl)))
            exact ⟨(q + 1, false), ⟨by simp only; omega, by simp only; omega, hpl2⟩, by simp only; omega, ⟨rfl, rfl, rfl, rfl, rfl, rfl, trivial⟩, by (focus ((repeat' (first | exact Keep.nil _ | exact Ext.one _ _ | apply Keep.cons)); done))⟩
          | true =>
            by_cases hz : p % q = 0
            · rw [decide_eq_true hz] at hpl2
              have hz2 : (p : Int) % (q : Int) = 0 := by omega
              repeat' (first | (apply R.is1; first | (apply R.isBin; (apply R.pure; exact rfl; first | (apply Ok1.mulU; exact rfl; exact rfl; omega; omega) | (apply Ok1.addU; exact rfl; exact rfl; omega; omega) | (apply Ok1.leq_t; exact rfl; exact rfl; omega) | (apply Ok1.neq_f; exact rfl; exact rfl; omega) | (apply Ok1.remN; exact rfl; exact rfl; omega; omega))) | (apply R.pure; exact rfl; first | (apply Ok1.move; exact rfl) | (apply Ok1.assign; exact rfl) | (apply Ok1.pick_t; exact rfl; exact rfl))) | (apply R.isG; (apply R.guard_run; exact rfl; exact rfl)) | apply R.nil | (apply T.is; first | apply T.seq | apply T.region | apply T.block | apply T.skip | (apply T.cond_t; exact rfl)))
              exact ⟨(q + 1, false), ⟨by simp only; omega, by simp only; omega, hpl2⟩, by simp only; omega, ⟨rfl, rfl, rfl, rfl, rfl, rfl, trivial⟩, by (focus ((repeat' (first | exact Keep.nil _ | exact Ext.one _ _ | apply Keep.cons)); done))⟩
            · rw [decide_eq_false hz] at hpl2
              have hz2 : (p : Int) % (q : Int) ≠ 0 := by omega
              repeat' (first | (apply R.is1; first | (apply R.isBin; (apply R.pure; exact rfl; first | (apply Ok1.mulU; exact rfl; exact rfl; omega; omega) | (apply Ok1.addU; exact rfl; exact rfl; omega; omega) | (apply Ok1.leq_t; exact rfl; exact rfl; omega) | (apply Ok1.neq_t; exact rfl; exact rfl; omega) | (apply Ok1.remN; exact rfl; exact rfl; omega; omega))) | (apply R.pure; exact rfl; first | (apply Ok1.move; exact rfl) | (apply Ok1.assign; exact rfl) | (apply Ok1.pick_t; exact rfl; exact rfl))) | (apply R.isG; (apply R.guard_run; exact rfl; exact rfl)) | apply R.nil | (apply T.is; first | apply T.seq | apply T.region | apply T.block | apply T.skip | (apply T.cond_t; exact rfl)))
              exact ⟨(q + 1, true), ⟨by simp only; omega, by simp only; omega, hpl2⟩, by simp only; omega, ⟨rfl, rfl, rfl, rfl, rfl, rfl, trivial⟩, by (focus ((repeat' (first | exact Keep.nil _ | exact Ext.one _ _ | apply Keep.cons)); done))⟩
    · have he : p = 312 := by omega
      subst he
      have hl : (tbC PL).length = 72 := tb_len (by decide)
      have ho := tb_one PL
      have h64 : (Fp 312).length = 64 := by rw [Fp_end]; rfl
      rw [h64, Fp_end]
      have hend := tbC_end
      generalize tbC PL = tv at *
      repeat' (first | (apply R.is1; first | (apply R.isBin; (apply R.pure; exact rfl; (apply Ok1.lss_f; exact rfl; exact rfl; omega))) | (apply R.pure; exact rfl; first | (apply Ok1.load; exact rfl; apply Ld.ownk; exact rfl; exact rfl; exact At.head; exact subE_all hl) | (apply Ok1.move; exact rfl))) | (apply R.is0; (apply R.store; (iterate 4 exact rfl); exact hl; exact ho; (focus ((repeat' (first | exact Upd.head | apply Upd.tail)); done)); exact setE_all hl)) | apply R.nil | (apply T.is; first | apply T.seq | apply T.region | apply T.exit | apply T.ret | (apply T.cond_f; exact rfl)))
      apply RetOk.c
      exact rfl
      apply Ld.ownk
      exact rfl
      exact rfl
      (focus ((repeat' (first | exact At.head | apply At.tail)); done))
      exact subE_all hl
      rw [hend]
end Go.Proofs.YtidjnjlejhoalaaGreat
set_option linter.unusedSimpArgs false
set_option linter.unusedVariables false
namespace Go.Proofs.YtidjnjlejhoalaaGreat
open Go.RowKit Go.Shelf
set_option maxRecDepth 100000
theorem Rs.ok.fail {s : Rs} {br : Nat} {w : World} (h : s.ok br w) (e : Int) : (s.fail e).ok br w := by
  unfold Rs.fail
  split
  · exact ⟨.inl rfl, Nat.le_refl _, (fun h => absurd rfl h), (fun y hy => by cases hy), Nat.zero_le _⟩
  · exact h
theorem Rs.ok.drop {s : Rs} {br : Nat} {w : World} (h : s.ok br w) {k : Nat} (hk : k ≤ s.xs.length) : (s.drop k).ok br w := by
  refine ⟨h.rd.suf u8V_len hk h.cap, ?_, fun hne => ?_, fun y hy => h.byt y (List.mem_of_mem_drop hy), ?_⟩
  · have := h.cap; simp only [Rs.drop, List.length_drop]; omega
  · exact (h.off (by intro h0; apply hne; simp [Rs.drop, h0])).suf _ _ _
  · have := h.big; simp only [Rs.drop, List.length_drop]; omega
theorem Rs.ok.num {s : Rs} {br : Nat} {w : World} (h : s.ok br w) (k : Nat) : (s.num k).2.2.ok br w := by
  unfold Rs.num
  split
  · exact h.fail 4
  · rename_i hn
    have hk : k ≤ s.xs.length := Nat.le_of_not_lt fun h1 => hn (.inr h1)
    split
    · exact h.drop hk
    · exact (h.drop hk).fail 3
theorem Rs.ok.chg {s : Rs} {br : Nat} {w w1 : World} (h : s.ok br w) {S : List Nat} (hc : Chg S w w1) (hS : S = [br]) : s.ok br w1 := ⟨h.rd.chg' hc (fun h9 => hS ▸ h.off h9), h.cap, h.off, h.byt, h.big⟩
theorem rL_blk (s : Rs) (br : Nat) : blks (s.L br) = [br] := rfl
theorem Ext.memI9 {L s L1 : Lst} {x : Nat × Obj} (hm : x ∈ s) (h : Ext L s L1) : x ∈ L := h.mem x hm
end Go.Proofs.YtidjnjlejhoalaaGreat
set_option linter.unusedSimpArgs false
set_option linter.unusedVariables false
namespace Go.Proofs.YtidjnjlejhoalaaGreat
open Go.RowKit Go.Shelf
set_option maxRecDepth 100000
def sTok : ByteArray := ⟨#[116, 111, 107, 101, 110]⟩
def secretI (k : List Int) (c : Cl) : List Int := deriveI k sTok [clI c]
def clC (c : Cl) : List Value := [.int .i64 c.id, .int .i64 c.roles, .int .i64 c.exp, .int .i64 c.ser]
def tkC (c : Cl) (s : List Int) : List Value := clC c ++ u8s s
def zI (n : Nat) : List Int := List.replicate n 0
theorem clBytes_bad (c : Cl) (hr : ¬ c.right) : CallP Tryz.prog 91 [kvC c] (.tuple #[.slice none 0 0, .int .i64 10]) := by
  have hck := check_ok c.id c.roles c.exp c.ser
  rw [if_neg hr] at hck
  refine enterP (tb := tb) Tryz.func91 rfl Tryz.ntmps91 rfl fun w0 => ?_
  simp only [kvC]
  repeat' (first | (apply R.is1; first | (apply R.isBin; (apply R.pure; exact rfl; (apply Ok1.neq_t; exact rfl; exact rfl; omega))) | (apply R.isCall; apply R.callP rfl rfl rfl hck) | (apply R.pure; exact rfl; first | (apply Ok1.move; exact rfl) | (apply Ok1.load; exact rfl; (apply Ld.ownk; exact rfl; exact rfl; exact At.head; exact rfl)) | (apply Ok1.assign; exact rfl)) | (apply R.box; (iterate 3 exact rfl); intro)) | apply R.nil | (apply T.is; first | apply T.seq | apply T.region | apply T.ret | (apply T.cond_t; exact rfl)))
  all_goals (apply RetOk.tt; exact rfl; exact rfl)
  all_goals rfl
theorem make_bad (c : Cl) (hr : ¬ c.right) (bk : Nat) : CallP Tryz.prog 68 [.pointer (some ⟨bk, 0, none⟩), kvC c] (.tuple #[.agg ⟨tkC ⟨0, 0, 0, 0⟩ (zI 32)⟩, .int .i64 10]) := by
  have hb := clBytes_bad c hr
  refine enterP (tb := tb) Tryz.func68 rfl Tryz.ntmps68 rfl fun w0 => ?_
  simp only [kvC] at hb ⊢
  repeat' (first | (apply R.is1; first | (apply R.isBin; (apply R.pure; exact rfl; first | (apply Ok1.neq_t; exact rfl; exact rfl; omega) | (apply Ok1.eqlP; (iterate 5 exact rfl)))) | (apply R.isCall; apply R.callP rfl rfl rfl hb) | (apply R.pure; exact rfl; first | (apply Ok1.move; exact rfl) | (apply Ok1.load; exact rfl; (apply Ld.ownk; exact rfl; exact rfl; (focus ((repeat' (first | exact At.head | apply At.tail)); done)); exact rfl)) | (apply Ok1.assign; exact rfl) | (apply Ok1.build; (iterate 5 exact rfl)) | (apply Ok1.extract; exact rfl; exact rfl)) | (apply R.box; (iterate 3 exact rfl); intro) | (apply R.alloc; (iterate 3 exact rfl); intro)) | (apply R.is0; (apply R.store; (iterate 6 exact rfl); exact Upd.head; exact rfl)) | apply R.nil | (apply T.is; first | apply T.seq | apply T.region | apply T.skip | apply T.ret | (apply T.cond_t; exact rfl) | (apply T.cond_f; exact rfl)))
  all_goals (apply RetOk.ct; exact rfl; ((apply Ld.ownk; exact rfl; exact rfl; exact At.head; exact rfl)); exact rfl)
  all_goals rfl
theorem list32 {α : Type} : ∀ (l : List α), l.length = 32 → ∃ x0 x1 x2 x3 x4 x5 x6 x7 x8 x9 x10 x11 x12 x13 x14 x15 x16 x17 x18 x19 x20 x21 x22 x23 x24 x25 x26 x27 x28 x29 x30 x31, l = [x0, x1, x2, x3, x4, x5, x6, x7, x8, x9, x10, x11, x12, x13, x14, x15, x16, x17, x18, x19, x20, x21, x22, x23, x24, x25, x26, x27, x28, x29, x30, x31] := by
  intro l h
  match l, h with
  | [x0, x1, x2, x3, x4, x5, x6, x7, x8, x9, x10, x11, x12, x13, x14, x15, x16, x17, x18, x19, x20, x21, x22, x23, x24, x25, x26, x27, x28, x29, x30, x31], _ => exact ⟨x0, x1, x2, x3, x4, x5, x6, x7, x8, x9, x10, x11, x12, x13, x14, x15, x16, x17, x18, x19, x20, x21, x22, x23, x24, x25, x26, x27, x28, x29, x30, x31, rfl⟩
theorem fill_tk (a b : Nat) (c : Cl) (d : List Int) (hd : d.length = 32) : fillE (fldPl [(a, 0, 4), (b, 4, 32)]) (tkC ⟨0, 0, 0, 0⟩ (zI 32)) [(0, .agg ⟨clC c⟩), (1, .agg ⟨u8s d⟩)] = some (tkC c d) := by
  obtain ⟨x0, x1, x2, x3, x4, x5, x6, x7, x8, x9, x10, x11, x12, x13, x14, x15, x16, x17, x18, x19, x20, x21, x22, x23, x24, x25, x26, x27, x28, x29, x30, x31, rfl⟩ := list32 d hd
  rfl
theorem secret_len (k : List Int) (c : Cl) : (secretI k c).length = 32 := derive_len _ _ _
theorem secret_byt (k : List Int) (c : Cl) : Byt (secretI k c) := derive_byt _ _ _
theorem make_ok (c : Cl) (hr : c.right) (bk : Nat) (k : List Int) (hkl : k.length ≤ 999999000) (hkb : Byt k) (w : World) (hk : KeyR w bk k) : CallW Tryz.prog 68 [.pointer (some ⟨bk, 0, none⟩), kvC c] w fun v _ => v = .tuple #[.agg ⟨tkC c (secretI k c)⟩, .int .i64 0] := by
  have hcb := clBytes_ok c hr
  have hdl := secret_len k c
  have hdd : secretI k c = deriveI k sTok [clI c] := rfl
  have hcl := clI_len c
  have hcy := clI_byt c
  have hfl : (frameI [strI sTok, clI c]).length = 22 := rfl
  have hst : sTok.size = 5 := rfl
  generalize hsec : secretI k c = d at *
  generalize clI c = cb at *
  have hls : (u8s d).length = 32 := by rw [u8s_len, hdl]
  have htl : (tkC c d).length = 36 := by simp [tkC, clC, hls]
  have hto : (tkC c d).all Value.oneCell' = true := by simp only [tkC, List.all_append, u8s_one, Bool.and_true]; rfl
  have hfill := fun a b => fill_tk a b c d hdl
  refine enterW (tb := tb) Tryz.func68 rfl Tryz.ntmps68 rfl ?_
  simp only [kvC]
  repeat' (first | (apply R.is1; first | (apply R.isBin; (apply R.pure; exact rfl; first | (apply Ok1.neq_f; exact rfl; exact rfl; omega) | (apply Ok1.eqlP; (iterate 5 exact rfl)))) | (apply R.isCall; (apply R.callE (vs := [.agg ⟨[.int .i64 c.id, .int .i64 c.roles, .int .i64 c.exp, .int .i64 c.ser]⟩]); (iterate 3 exact rfl); exact Ext.none _; intro w1 hw1; exact hcb w1; rintro v Lo ⟨ov, hov, rfl, rfl⟩; rw [slV_eq hov]; obtain ⟨b9, j9, k9, rfl⟩ := ovsome hov (by decide); simp only [blkL, List.cons_append, List.nil_append])) | (apply R.pure; exact rfl; first | (apply Ok1.move; exact rfl) | (apply Ok1.load; exact rfl; (apply Ld.ownk; exact rfl; exact rfl; (focus ((repeat' (first | exact At.head | apply At.tail)); done)); exact rfl)) | (apply Ok1.assign; exact rfl) | (apply Ok1.extract; exact rfl; exact rfl)) | (apply R.box; (iterate 3 exact rfl); intro) | (apply R.alloc; (iterate 3 exact rfl); intro)) | apply R.nil | (apply T.is; first | apply T.seq | apply T.region | apply T.skip | (apply T.cond_f; exact rfl)))
  simp only [ovp, ovc]
  apply T.drawC (id := 6) [2] (by decide)
  (apply A.take 0; exact rfl; exact rfl; kernel_rfl; kernel_rfl; kernel_rfl; (apply Ok1.load; exact rfl; (apply Ld.ownk; exact rfl; exact rfl; exact At.head; exact rfl)))
    <;> (apply A.take 1; exact rfl; exact rfl; kernel_rfl; kernel_rfl; kernel_rfl; (apply Ok1.move; exact rfl))
    <;> (apply A.take 2; exact rfl; exact rfl; kernel_rfl; kernel_rfl; kernel_rfl; (apply Ok1.move; exact rfl))
    <;> (apply A.one 3; kernel_rfl; exact rfl; (((apply R.buildSlice; (iterate 12 exact rfl); intro))); apply R.nil; refine ⟨?_, ?_⟩; (focus ((repeat' (first | exact trivial | (refine ⟨?_, ?_⟩; (focus ((repeat' (first | exact At.head | apply At.tail)); done))))))))
    <;> (apply A.one 4; kernel_rfl; exact rfl; (((apply R.callE (vs := [.pointer (some ⟨bk, 0, none⟩), .string sTok, .slice (some ⟨_, 0, none⟩) 1 1]); (iterate 3 exact rfl); exact Ext.none _; intro w1 hw1; exact derive_ok bk k hkl hkb sTok (by rw [hst]; decide) _ 1 1 [⟨some ⟨b9, 0, none⟩, 9 + j9, cb⟩] rfl (by decide) (by intro x hx; cases List.mem_singleton.1 hx; exact hcy) (by rw [List.map_cons, List.map_nil, hfl]; decide) (by intro x hx; cases List.mem_singleton.1 hx; rw [hcl]; decide) w1 (hk.chg hw1.chg) (RdSl.of (junk := []) hw1 (by exact At.head) (by simp [fl, Pt.v, hcl])) (by intro x hx; cases List.mem_singleton.1 hx; exact RdSl.of (junk := k9) hw1 (by (focus ((repeat' (first | exact At.head | apply At.tail)); done))) (by rw [fl_u8])); rw [List.map_cons, List.map_nil, ← hdd]; rintro v Lo ⟨bk2, ov2, rfl, hov2, rfl⟩))); apply R.nil; refine ⟨?_, ?_⟩; (focus ((repeat' (first | exact trivial | (refine ⟨?_, ?_⟩; (focus ((repeat' (first | exact At.head | apply At.tail | apply At.right)); done))))))))
    <;> (apply A.one 5; kernel_rfl; exact rfl; (((apply R.callE (vs := [.pointer (some ⟨bk2, 0, none⟩)]); (iterate 3 exact rfl); exact Ext.none _; intro w1 hw1; exact bytes_ok bk2 d (by rw [hdl]; decide) w1 (KeyR.of (by rw [hdl]; exact hov2) hw1 (Ext.mem (by (focus ((repeat' (exact Ext.here _ _)); done))))); rw [hdl]; rintro v Lo ⟨ov3, hov3, rfl, rfl⟩; rw [slV_eq hov3]; obtain ⟨b3, j3, k3, rfl⟩ := ovsome hov3 (by decide); simp only [ovp, ovc, blkL, List.cons_append, List.nil_append]))); apply R.nil; refine ⟨?_, ?_⟩; (focus ((repeat' (first | exact trivial | (refine ⟨?_, ?_⟩; (focus ((repeat' (first | exact At.head | apply At.tail | apply At.right)); done))))))))
    <;> (apply A.take 6; exact rfl; exact rfl; kernel_rfl; kernel_rfl; kernel_rfl; (apply Ok1.arrPtr; (iterate 3 exact rfl); omega))
    <;> (apply A.one 7; kernel_rfl; exact rfl; (((apply R.pure; exact rfl; (apply Ok1.load; exact rfl; apply Ld.ownk; exact rfl; exact rfl; exact At.head; exact subE_app _ _ hls)))); apply R.nil; refine ⟨?_, ?_⟩; (focus ((repeat' (first | exact trivial | (refine ⟨?_, ?_⟩; (focus ((repeat' (first | exact At.head | apply At.tail | apply At.right)); done))))))))
    <;> (apply A.take 8; exact rfl; exact rfl; kernel_rfl; kernel_rfl; kernel_rfl; (apply Ok1.build; (iterate 4 exact rfl); exact hfill _ _))
    <;> (apply A.one 9; kernel_rfl; exact rfl; (((apply R.store; (iterate 4 exact rfl); exact htl; exact hto; (focus ((repeat' (first | exact Upd.head | apply Upd.tail | apply Upd.right)); done)); exact setE_all htl))); apply R.nil; refine ⟨?_, ?_⟩; (focus ((repeat' (first | exact trivial | (refine ⟨?_, ?_⟩; (focus ((repeat' (first | exact At.head | apply At.tail | apply At.right)); done))))))))
    <;> (apply A.take 10; exact rfl; exact rfl; kernel_rfl; kernel_rfl; kernel_rfl; (apply Ok1.assign; exact rfl))
    <;> (apply A.done; kernel_rfl)
  repeat' ((apply T.is; apply T.ret))
  all_goals apply RetOk.ct
  all_goals first | exact rfl | skip
  all_goals (apply Ld.ownk; exact rfl; exact rfl; (focus ((repeat' (first | exact At.head | apply At.tail | apply At.right)); done)); exact subE_all htl)
theorem RdSl.mid {w0 w : World} {S : List Nat} {L : Lst} {b : Nat} {e : TypeId} {fz : Nat × Nat} {pre junk : List Value} {xs : List Int} (hw : Hp w0 S L w) (hat : At L b (.cells ⟨pre ++ u8s xs ++ junk⟩ e fz)) {o : Nat} (ho : o = pre.length) : RdSl w (some ⟨b, o, none⟩) u8V xs := by
  subst ho
  right
  refine ⟨b, pre.length, rfl, fun k hk => ?_⟩
  have h1 := hw.get b _ hat.mem
  rw [fl_u8] at hk ⊢
  simp only [World.cell?, h1]
  simp only [List.append_assoc, List.getElem?_toArray]
  rw [List.getElem?_append_right (by omega), List.getElem?_append_left (by omega), Nat.add_sub_cancel_left]
  rfl
theorem key_ok (c : Cl) (s : List Int) (hs : s.length = 32) : ∀ w, CallM Tryz.prog 169 [.agg ⟨tkC c s⟩] [] w fun v L => ∃ bk ov, v = .pointer (some ⟨bk, 0, none⟩) ∧ OvOk 1 ov 32 (u8s s) ∧ L = KL bk ov s := by
  intro w
  refine enterK (tb := tb) Tryz.func169 rfl Tryz.ntmps169 rfl ?_
  have hls : (u8s s).length = 32 := by rw [u8s_len, hs]
  have htl : (tkC c s).length = 36 := by simp [tkC, clC, hls]
  repeat' (first | (apply R.is1; first | (apply R.isCall; (apply R.callE; (iterate 3 exact rfl); exact Ext.none _; intro w1 hw1; exact new_ok (some ⟨_, 4, none⟩) 32 32 s hs.symm (by decide) w1 (RdSl.mid (pre := clC c) (junk := []) hw1 (by rw [List.append_nil]; exact At.head) rfl); rintro v Lo ⟨bk2, ov2, rfl, hov2, _, rfl⟩)) | (apply R.pure; exact rfl; first | (apply Ok1.sliceArr; (iterate 4 exact rfl)) | (apply Ok1.fieldAddr; (iterate 5 exact rfl)) | (apply Ok1.assign; exact rfl)) | (apply R.box; (iterate 3 exact rfl); intro)) | apply R.nil | (apply T.is; first | apply T.seq | apply T.region | apply T.ret))
  (apply RetOk.t; exact rfl)
  rw [hs] at hov2
  refine ⟨_, ?_, bk2, ov2, rfl, hov2, rfl⟩
  (focus ((repeat' (first | exact Ext.one _ _ | exact Ext.here _ _ | apply Keep.cons | apply Keep.last)); done))
end Go.Proofs.YtidjnjlejhoalaaGreat
set_option linter.unusedSimpArgs false
set_option linter.unusedVariables false
namespace Go.Proofs.YtidjnjlejhoalaaGreat
open Go.RowKit Go.Shelf
set_option maxRecDepth 100000
def Rs.cA (s : Rs) : Rs := (s.num 2).2.2
def Rs.cB (s : Rs) : Rs := (s.cA.num 1).2.2
def Rs.cD (s : Rs) : Rs := (s.cB.num 4).2.2
def Rs.c4 (s : Rs) : Rs := (s.cD.num 2).2.2
def Rs.cv (s : Rs) : Cl := ⟨(s.num 2).1, (s.cA.num 1).1, (s.cB.num 4).1, (s.cD.num 2).1⟩
def cl0 : Cl := ⟨0, 0, 0, 0⟩
def rdC (s : Rs) : Cl × Int := if s.c4.e ≠ 0 then (cl0, s.c4.e) else if s.cv.right then (s.cv, 0) else (cl0, 3)
theorem cread_ok (br : Nat) (s : Rs) (w : World) (hs : s.ok br w) : CallM Tryz.prog 143 [.pointer (some ⟨br, 0, none⟩)] (s.L br) w fun v L => v = .tuple #[kvC (rdC s).1, .int .i64 (rdC s).2] ∧ L = s.c4.L br := by
  have hbl0 := rL_blk s br
  have oA : s.cA.ok br w := hs.num 2
  have oB : s.cB.ok br w := oA.num 1
  have oD : s.cD.ok br w := oB.num 4
  have h1 : ∀ w1, s.ok br w1 → CallM Tryz.prog 112 [.pointer (some ⟨br, 0, none⟩), .int .i64 1] (s.L br) w1 fun v L => v = .int .i64 s.cv.id ∧ L = s.cA.L br := fun w1 h => rnum_ok br s 1 2 (by decide) rfl w1 h
  have h2 : ∀ w1, s.cA.ok br w1 → CallM Tryz.prog 112 [.pointer (some ⟨br, 0, none⟩), .int .i64 0] (s.cA.L br) w1 fun v L => v = .int .i64 s.cv.roles ∧ L = s.cB.L br := fun w1 h => rnum_ok br s.cA 0 1 (by decide) rfl w1 h
  have h3 : ∀ w1, s.cB.ok br w1 → CallM Tryz.prog 112 [.pointer (some ⟨br, 0, none⟩), .int .i64 2] (s.cB.L br) w1 fun v L => v = .int .i64 s.cv.exp ∧ L = s.cD.L br := fun w1 h => rnum_ok br s.cB 2 4 (by decide) rfl w1 h
  have h4 : ∀ w1, s.cD.ok br w1 → CallM Tryz.prog 112 [.pointer (some ⟨br, 0, none⟩), .int .i64 1] (s.cD.L br) w1 fun v L => v = .int .i64 s.cv.ser ∧ L = s.c4.L br := fun w1 h => rnum_ok br s.cD 1 2 (by decide) rfl w1 h
  have hre := fun w1 h => rerr_ok br s.c4 w1 h
  have hck := check_ok s.cv.id s.cv.roles s.cv.exp s.cv.ser
  have hD : rdC s = if s.c4.e ≠ 0 then (cl0, s.c4.e) else if s.cv.right then (s.cv, 0) else (cl0, 3) := rfl
  have hm3 : (br, Obj.cells ⟨[.slice s.c4.q s.c4.xs.length s.c4.cap, .int .i64 s.c4.e]⟩ 249 (0, 0)) ∈ s.c4.L br := by simp [Rs.L]
  generalize hL4 : s.c4.L br = L4 at *
  generalize s.c4 = s4 at *
  generalize hLD : s.cD.L br = LD at *
  generalize s.cD = sD at *
  generalize hLB : s.cB.L br = LB at *
  generalize s.cB = sB at *
  generalize hLA : s.cA.L br = LA at *
  generalize s.cA = sA at *
  generalize s.cv = c at *
  generalize rdC s = rd at *
  generalize hLS : s.L br = LS at *
  refine enterK (tb := tb) Tryz.func143 rfl Tryz.ntmps143 rfl ?_
  by_cases he : s4.e = 0
  · rw [if_neg (fun h => h he)] at hD
    rw [he] at hre hm3
    by_cases hr : c.right
    · rw [if_pos hr] at hD hck
      subst hD
      repeat' (first | (apply R.is1; first | (apply R.isBin; (apply R.pure; exact rfl; (apply Ok1.neq_f; exact rfl; exact rfl; omega))) | (apply R.isCall; first | (apply R.callE (Li := LS) (vs := [.pointer (some ⟨br, 0, none⟩), .int .i64 1]); (iterate 3 exact rfl); (focus ((repeat' (first | exact Ext.all _ | apply Ext.cons | apply Ext.app)); done)); intro w1 hw1; exact h1 w1 (hs.chg hw1.chg hbl0); rintro v Lo ⟨rfl, hq⟩; rw [hq]; clear hq) | (apply R.callE (Li := LA) (vs := [.pointer (some ⟨br, 0, none⟩), .int .i64 0]); (iterate 3 exact rfl); (focus ((repeat' (exact Ext.here _ _)); done)); intro w1 hw1; exact h2 w1 (oA.chg hw1.chg hbl0); rintro v Lo ⟨rfl, hq⟩; rw [hq]; clear hq) | (apply R.callE (Li := LB) (vs := [.pointer (some ⟨br, 0, none⟩), .int .i64 2]); (iterate 3 exact rfl); (focus ((repeat' (exact Ext.here _ _)); done)); intro w1 hw1; exact h3 w1 (oB.chg hw1.chg hbl0); rintro v Lo ⟨rfl, hq⟩; rw [hq]; clear hq) | (apply R.callE (Li := LD) (vs := [.pointer (some ⟨br, 0, none⟩), .int .i64 1]); (iterate 3 exact rfl); (focus ((repeat' (exact Ext.here _ _)); done)); intro w1 hw1; exact h4 w1 (oD.chg hw1.chg hbl0); rintro v Lo ⟨rfl, hq⟩; rw [hq]; clear hq) | (apply R.callV (vs := [.pointer (some ⟨br, 0, none⟩)]); (iterate 3 exact rfl); intro w1 hw1; (apply hre w1; apply hw1.get; apply Ext.memI9 hm3; (focus ((repeat' (first | exact Ext.here _ _ | apply Ext.cons)); done)))) | apply R.callP rfl rfl rfl hck) | (apply R.pure; exact rfl; first | (apply Ok1.move; exact rfl) | (apply Ok1.load; exact rfl; (apply Ld.ownk; exact rfl; exact rfl; exact At.head; exact rfl)) | (apply Ok1.assign; exact rfl) | (apply Ok1.build; (iterate 5 exact rfl))) | (apply R.alloc; (iterate 3 exact rfl); intro)) | (apply R.is0; (apply R.store; (iterate 6 exact rfl); (focus ((repeat' (first | exact Upd.head | apply Upd.tail | apply Upd.right)); done)); exact rfl)) | apply R.nil | (apply T.is; first | apply T.seq | apply T.region | apply T.skip | apply T.ret | (apply T.cond_f; exact rfl)))
      (apply RetOk.ct; exact rfl; ((apply Ld.ownk; exact rfl; exact rfl; (focus ((repeat' (first | exact At.head | apply At.tail | apply At.right)); done)); exact rfl)); exact rfl)
      exact ⟨_, by (focus ((repeat' (first | exact Ext.here _ _ | apply Keep.last | apply Ext.cons)); done)), rfl, rfl⟩
    · rw [if_neg hr] at hD hck
      subst hD
      repeat' (first | (apply R.is1; first | (apply R.isBin; (apply R.pure; exact rfl; first | (apply Ok1.neq_t; exact rfl; exact rfl; omega) | (apply Ok1.neq_f; exact rfl; exact rfl; omega))) | (apply R.isCall; first | (apply R.callE (Li := LS) (vs := [.pointer (some ⟨br, 0, none⟩), .int .i64 1]); (iterate 3 exact rfl); (focus ((repeat' (first | exact Ext.all _ | apply Ext.cons | apply Ext.app)); done)); intro w1 hw1; exact h1 w1 (hs.chg hw1.chg hbl0); rintro v Lo ⟨rfl, hq⟩; rw [hq]; clear hq) | (apply R.callE (Li := LA) (vs := [.pointer (some ⟨br, 0, none⟩), .int .i64 0]); (iterate 3 exact rfl); (focus ((repeat' (exact Ext.here _ _)); done)); intro w1 hw1; exact h2 w1 (oA.chg hw1.chg hbl0); rintro v Lo ⟨rfl, hq⟩; rw [hq]; clear hq) | (apply R.callE (Li := LB) (vs := [.pointer (some ⟨br, 0, none⟩), .int .i64 2]); (iterate 3 exact rfl); (focus ((repeat' (exact Ext.here _ _)); done)); intro w1 hw1; exact h3 w1 (oB.chg hw1.chg hbl0); rintro v Lo ⟨rfl, hq⟩; rw [hq]; clear hq) | (apply R.callE (Li := LD) (vs := [.pointer (some ⟨br, 0, none⟩), .int .i64 1]); (iterate 3 exact rfl); (focus ((repeat' (exact Ext.here _ _)); done)); intro w1 hw1; exact h4 w1 (oD.chg hw1.chg hbl0); rintro v Lo ⟨rfl, hq⟩; rw [hq]; clear hq) | (apply R.callV (vs := [.pointer (some ⟨br, 0, none⟩)]); (iterate 3 exact rfl); intro w1 hw1; (apply hre w1; apply hw1.get; apply Ext.memI9 hm3; (focus ((repeat' (first | exact Ext.here _ _ | apply Ext.cons)); done)))) | apply R.callP rfl rfl rfl hck) | (apply R.pure; exact rfl; first | (apply Ok1.move; exact rfl) | (apply Ok1.load; exact rfl; (apply Ld.ownk; exact rfl; exact rfl; exact At.head; exact rfl)) | (apply Ok1.assign; exact rfl) | (apply Ok1.build; (iterate 5 exact rfl))) | (apply R.alloc; (iterate 3 exact rfl); intro)) | (apply R.is0; (apply R.store; (iterate 6 exact rfl); (focus ((repeat' (first | exact Upd.head | apply Upd.tail | apply Upd.right)); done)); exact rfl)) | apply R.nil | (apply T.is; first | apply T.seq | apply T.region | apply T.skip | apply T.ret | (apply T.cond_t; exact rfl) | (apply T.cond_f; exact rfl)))
      (apply RetOk.ct; exact rfl; ((apply Ld.ownk; exact rfl; exact rfl; (focus ((repeat' (first | exact At.head | apply At.tail | apply At.right)); done)); exact rfl)); exact rfl)
      exact ⟨_, by (focus ((repeat' (first | exact Ext.here _ _ | apply Keep.last | apply Ext.cons)); done)), rfl, rfl⟩
  · rw [if_pos he] at hD
    subst hD
    repeat' (first | (apply R.is1; first | (apply R.isBin; (apply R.pure; exact rfl; (apply Ok1.neq_t; exact rfl; exact rfl; omega))) | (apply R.isCall; first | (apply R.callE (Li := LS) (vs := [.pointer (some ⟨br, 0, none⟩), .int .i64 1]); (iterate 3 exact rfl); (focus ((repeat' (first | exact Ext.all _ | apply Ext.cons | apply Ext.app)); done)); intro w1 hw1; exact h1 w1 (hs.chg hw1.chg hbl0); rintro v Lo ⟨rfl, hq⟩; rw [hq]; clear hq) | (apply R.callE (Li := LA) (vs := [.pointer (some ⟨br, 0, none⟩), .int .i64 0]); (iterate 3 exact rfl); (focus ((repeat' (exact Ext.here _ _)); done)); intro w1 hw1; exact h2 w1 (oA.chg hw1.chg hbl0); rintro v Lo ⟨rfl, hq⟩; rw [hq]; clear hq) | (apply R.callE (Li := LB) (vs := [.pointer (some ⟨br, 0, none⟩), .int .i64 2]); (iterate 3 exact rfl); (focus ((repeat' (exact Ext.here _ _)); done)); intro w1 hw1; exact h3 w1 (oB.chg hw1.chg hbl0); rintro v Lo ⟨rfl, hq⟩; rw [hq]; clear hq) | (apply R.callE (Li := LD) (vs := [.pointer (some ⟨br, 0, none⟩), .int .i64 1]); (iterate 3 exact rfl); (focus ((repeat' (exact Ext.here _ _)); done)); intro w1 hw1; exact h4 w1 (oD.chg hw1.chg hbl0); rintro v Lo ⟨rfl, hq⟩; rw [hq]; clear hq) | (apply R.callV (vs := [.pointer (some ⟨br, 0, none⟩)]); (iterate 3 exact rfl); intro w1 hw1; (apply hre w1; apply hw1.get; apply Ext.memI9 hm3; (focus ((repeat' (first | exact Ext.here _ _ | apply Ext.cons)); done))))) | (apply R.pure; exact rfl; first | (apply Ok1.move; exact rfl) | (apply Ok1.assign; exact rfl) | (apply Ok1.build; (iterate 5 exact rfl))) | (apply R.alloc; (iterate 3 exact rfl); intro)) | (apply R.is0; (apply R.store; (iterate 6 exact rfl); (focus ((repeat' (first | exact Upd.head | apply Upd.tail | apply Upd.right)); done)); exact rfl)) | apply R.nil | (apply T.is; first | apply T.seq | apply T.region | apply T.ret | (apply T.cond_t; exact rfl)))
    all_goals (apply RetOk.ct; exact rfl; ((apply Ld.ownk; exact rfl; exact rfl; (focus ((repeat' (first | exact At.head | apply At.tail | apply At.right)); done)); exact rfl)); exact rfl)
    all_goals exact ⟨_, by (focus ((repeat' (first | exact Ext.here _ _ | apply Keep.last | apply Ext.cons)); done)), rfl, rfl⟩
end Go.Proofs.YtidjnjlejhoalaaGreat
set_option linter.unusedSimpArgs false
set_option linter.unusedVariables false
namespace Go.Proofs.YtidjnjlejhoalaaGreat
open Go.RowKit Go.Shelf
set_option maxRecDepth 100000
section
variable {X : Cx} {σ : Env} {L : Lst} {Rp : Value → Lst → Prop} {a b c' ta tb : Nat} {u v z : Value} {p q : Addr}
end
def NR (a b : Int) : Prop := 1 ≤ a ∧ a ≤ 65535 ∧ 1 ≤ b ∧ b ≤ 2147483647
instance (a b : Int) : Decidable (NR a b) := by unfold NR; infer_instance
theorem nonce_ok (a b : Int) : CallP Tryz.prog 184 [.agg ⟨[.int .i64 a, .int .i64 b]⟩] (.int .i64 (if NR a b then 0 else 10)) := by
  refine enterP (tb := tb) Tryz.func184 rfl Tryz.ntmps184 rfl fun w => ?_
  repeat' (first | (apply R.is1; first | (apply R.isBin; first | (apply R.lss rfl rfl rfl <;> intro) | (apply R.gtr rfl rfl rfl <;> intro)) | (apply R.pure; exact rfl; first | (apply Ok1.move; exact rfl) | (apply Ok1.fieldAddr; (iterate 5 exact rfl)) | (apply Ok1.load; exact rfl; (apply Ld.own1; exact rfl; exact rfl; exact At.head; exact rfl)) | (apply Ok1.assign; exact rfl) | (apply Ok1.pick_t; exact rfl; exact rfl) | (apply Ok1.pick_f; exact rfl; exact rfl)) | (apply R.box; (iterate 3 exact rfl); intro)) | (apply R.isG; first | (apply R.guard_run; exact rfl; exact rfl) | (apply R.guard_not; (iterate 3 exact rfl))) | apply R.nil | (apply T.is; first | apply T.seq | apply T.region | apply T.skip | apply T.ret | (apply T.cond_t; exact rfl) | (apply T.cond_f; exact rfl)))
  all_goals (apply RetOk.t; exact rfl)
  all_goals first
    | (rw [if_pos (by unfold NR; omega)]; done)
    | (rw [if_neg (by unfold NR; omega)]; done)
theorem Rs.num_many {s : Rs} {k : Nat} (he : s.e = 0) (h : k ≤ s.xs.length) (hv : beN (s.xs.take k) ≤ 9223372036854775807) : s.num k = (beN (s.xs.take k), true, s.drop k) := by
  unfold Rs.num
  rw [if_neg (by omega), if_pos hv]
end Go.Proofs.YtidjnjlejhoalaaGreat
set_option linter.unusedSimpArgs false
set_option linter.unusedVariables false
namespace Go.Proofs.YtidjnjlejhoalaaGreat
open Go.RowKit Go.Shelf
set_option maxRecDepth 100000
def ZK (z k : Nat) : Prop := z = 0 ∧ k = 1 ∨ z = 1 ∧ k = 2 ∨ z = 2 ∧ k = 4
end Go.Proofs.YtidjnjlejhoalaaGreat
set_option linter.unusedSimpArgs false
set_option linter.unusedVariables false
namespace Go.Proofs.YtidjnjlejhoalaaGreat
open Go.RowKit Go.Shelf
set_option maxRecDepth 100000
theorem be_numI {z k : Nat} (hz : ZK z k) {v : Int} (h0 : 0 ≤ v) (h1 : k = 1 → v ≤ 255) (h2 : k = 2 → v ≤ 65535) (h4 : v ≤ 4294967295) : beN (numI z v) = v ∧ (numI z v).length = k := by
  rcases hz with ⟨rfl, rfl⟩ | ⟨rfl, rfl⟩ | ⟨rfl, rfl⟩
  · have := h1 rfl
    refine ⟨?_, rfl⟩
    simp only [numI, beN, List.foldl]
    omega
  · have := h2 rfl
    refine ⟨?_, rfl⟩
    simp only [numI, beN, List.foldl]
    omega
  · refine ⟨?_, rfl⟩
    simp only [numI, len4, beN, List.foldl]
    omega
theorem Rs.num_fwd {s : Rs} {z k : Nat} {v : Int} {rest : List Int} (hz : ZK z k) (h0 : 0 ≤ v) (h1 : k = 1 → v ≤ 255) (h2 : k = 2 → v ≤ 65535) (h4 : v ≤ 4294967295) (hs : s.xs = numI z v ++ rest) (he : s.e = 0) :
    (s.num k).1 = v ∧ (s.num k).2.2.xs = rest ∧ (s.num k).2.2.e = 0 := by
  obtain ⟨g1, g2⟩ := be_numI hz h0 h1 h2 h4
  have ht : s.xs.take k = numI z v := by rw [hs, ← g2, List.take_left]
  have hd : s.xs.drop k = rest := by rw [hs, ← g2, List.drop_left]
  have hl : k ≤ s.xs.length := by rw [hs, List.length_append, g2]; omega
  rw [Rs.num_many he hl (by rw [ht, g1]; omega), ht, g1]
  exact ⟨rfl, hd, he⟩
theorem Rs.c4_fwd {s : Rs} {c : Cl} {rest : List Int} (hr : c.right) (hs : s.xs = clI c ++ rest) (he : s.e = 0) : s.cv = c ∧ s.c4.xs = rest ∧ s.c4.e = 0 := by
  unfold Cl.right at hr
  simp only [clI, List.nil_append, List.append_assoc] at hs
  obtain ⟨a1, a2, a3⟩ := Rs.num_fwd (z := 1) (k := 2) (.inr (.inl ⟨rfl, rfl⟩)) (by omega) (by omega) (by omega) (by omega) hs he
  obtain ⟨b1, b2, b3⟩ := Rs.num_fwd (s := s.cA) (z := 0) (k := 1) (.inl ⟨rfl, rfl⟩) (by omega) (by omega) (by omega) (by omega) a2 a3
  obtain ⟨c1, c2, c3⟩ := Rs.num_fwd (s := s.cB) (z := 2) (k := 4) (.inr (.inr ⟨rfl, rfl⟩)) (by omega) (by omega) (by omega) (by omega) b2 b3
  obtain ⟨d1, d2, d3⟩ := Rs.num_fwd (s := s.cD) (z := 1) (k := 2) (.inr (.inl ⟨rfl, rfl⟩)) (by omega) (by omega) (by omega) (by omega) c2 c3
  refine ⟨?_, d2, d3⟩
  simp only [Rs.cv, a1, b1, c1, d1]
theorem rdC_fwd {s : Rs} {c : Cl} {rest : List Int} (hr : c.right) (hs : s.xs = clI c ++ rest) (he : s.e = 0) : rdC s = (c, 0) := by
  obtain ⟨h1, h2, h3⟩ := Rs.c4_fwd hr hs he
  unfold rdC
  rw [if_neg (fun h => h h3), h1, if_pos hr]
end Go.Proofs.YtidjnjlejhoalaaGreat
set_option linter.unusedSimpArgs false
set_option linter.unusedVariables false
namespace Go.Proofs.YtidjnjlejhoalaaGreat
open Go.RowKit Go.Shelf
section
variable {X : Cx} {σ : Env} {L L' : Lst} {dd : Nat} {ty : TypeId} {pos : String} {af : Array Edge} {x y : Operand} {t t2 e : TypeId} {r r2 re : TRow}
variable {all : Array Oper} {rest : List Oper} {K : Env → Lst → Prop} {p : Option Addr} {n m cap b o : Nat}
theorem copy_runO {α : Type} {v : α → List Value} {xs : List α} {P : Program} (tb : Tb P) (ht : tb.row t = some r) (hk : r.k = .slice e) (he : tb.row e = some re) (hs : re.size = 1) (hv : ∀ a, (v a).length = 1) {w : World} {dn dcap : Nat} {cs cs' : List Value} {te : TypeId}
    (hp : RdSl w p v xs) (h1 : (fl v xs).all Value.oneCell' = true) (hb : w.heap[b]? = some (.cells ⟨cs⟩ te (0, 0))) (hc : setE cs o (fl v (xs.take dn)) = some cs') :
    ∃ w', (Builtin.copy_ #[t, t2] ty #[.slice (some ⟨b, o, none⟩) dn dcap, .slice p xs.length cap]).run P w = .ok (.int .i64 (min xs.length dn : Nat)) w' ∧ w'.heap[b]? = some (.cells ⟨cs'⟩ te (0, 0)) ∧ Chg [b] w w' := by
  have hu : P.underlying t = some (.slice e) := by have := (tb.get ht).is; rw [hk] at this; exact this
  have hone : (fl v (xs.take dn)).all Value.oneCell' = true := by
    rw [List.all_eq_true] at h1 ⊢
    intro z hz
    rw [← fl_takeG hv] at hz
    exact h1 z (List.mem_of_mem_take hz)
  obtain ⟨w', g1, g2, g3⟩ := run_stores P ⟨b, o, none⟩ rfl te (fl v (xs.take dn)) 0 w cs cs' hone hb hc
  have hf : (Builtin.firstCells 1 (min xs.length dn) (.slice p xs.length cap)).run P w = .ok ⟨fl v (xs.take dn)⟩ w := by
    by_cases hx : xs.take dn = []
    · have h9 : (xs.take dn).length = 0 := by rw [hx]; rfl
      have h0 : min xs.length dn = 0 := by
        rw [List.length_take] at h9
        omega
      rw [hx, h0]
      cases p <;> simp [Builtin.firstCells, loadCells, loadCellsFrom, fl]
    · refine first_run ((hp.pre hv dn).holds hx) ?_
      rw [fl_len hv, List.length_take, Nat.min_comm]
  refine ⟨w', ?_, g2, g3⟩
  unfold Builtin.copy_
  simp only [List.getElem?_toArray, List.getElem?_cons_zero, List.getElem?_cons_succ, Sem.run_bind, run_underlying hu, Result.andThen_ok, (tb.get he).size, hs, Sem.run_pure, Builtin.lenOf, show Nat.min xs.length dn = min xs.length dn from rfl, hf, g1, goInt]
theorem R.copyOff {α : Type} {v : α → List Value} {xs : List α} {dn dcap : Nat} {cs cs' : List Value} {te : TypeId} {k : Nat} (hn : Nat.blt dd X.n = true) (ht : X.tb.row t = some r) (hk : r.k = .slice e) (he : X.tb.row e = some re) (hs : re.size = 1)
    (hx : ev σ x = some (.slice (some ⟨b, o, none⟩) dn dcap)) (hy : ev σ y = some (.slice p m cap)) (hm : m = xs.length) (hv : ∀ a, (v a).length = 1) (hh : ∀ w, Hp X.w0 X.S L w → RdSl w p v xs) (h1 : (fl v xs).all Value.oneCell' = true)
    (hu : Upd L b (.cells ⟨cs⟩ te (0, 0)) (.cells ⟨cs'⟩ te (0, 0)) L') (hc : setE cs o (fl v (xs.take dn)) = some cs') (hmin : min m dn = k) (h : R X all rest K ((dd, .int .i64 (k : Nat)) :: σ) L') :
    R X all (⟨some dd, .call { callee := .builtin .copy, args := #[x, y], argTypes := #[t, t2] }, ty, pos, af, none⟩ :: rest) K σ L :=
  R.value rfl rfl hn fun a w ha hw => by
    subst hm
    subst hmin
    obtain ⟨w', g1, g2, g3⟩ := copy_runO (ty := ty) (t2 := t2) (dcap := dcap) (cap := cap) X.tb ht hk he hs hv (hh w hw) h1 (hw.get _ _ hu.mem) hc
    refine ⟨_, w', L', ?_, hw.upd hu g3 g2, h⟩
    simp [execOp, resolve, ha.ev hx, ha.ev hy, invoke, builtin, g1]
/-- All of what is read is copied. -/
theorem R.copyAll {α : Type} {v : α → List Value} {xs : List α} {dn dcap o' : Nat} {cs cs' : List Value} {te : TypeId} (hn : Nat.blt dd X.n = true) (ht : X.tb.row t = some r) (hk : r.k = .slice e) (he : X.tb.row e = some re) (hs : re.size = 1)
    (hx : ev σ x = some (.slice (some ⟨b, o, none⟩) dn dcap)) (hy : ev σ y = some (.slice p m cap)) (hm : m = xs.length) (hv : ∀ a, (v a).length = 1) (hh : ∀ w, Hp X.w0 X.S L w → RdSl w p v xs) (h1 : (fl v xs).all Value.oneCell' = true)
    (hdn : xs.length ≤ dn) (ho : o = o') (hu : Upd L b (.cells ⟨cs⟩ te (0, 0)) (.cells ⟨cs'⟩ te (0, 0)) L') (hc : setE cs o' (fl v xs) = some cs') (h : R X all rest K ((dd, .int .i64 (m : Nat)) :: σ) L') :
    R X all (⟨some dd, .call { callee := .builtin .copy, args := #[x, y], argTypes := #[t, t2] }, ty, pos, af, none⟩ :: rest) K σ L :=
  R.copyOff hn ht hk he hs hx hy hm hv hh h1 hu (by rw [List.take_of_length_le hdn, ho]; exact hc) (Nat.min_eq_left (by omega)) h
theorem setE_off (pre vs cs : List Value) (h : vs.length ≤ cs.length) : setE (pre ++ cs) pre.length vs = some (pre ++ (vs ++ cs.drop vs.length)) := by
  rw [setE_mid _ h, List.append_assoc]
/-- What bytealg.MakeNoZero does: a new row of some bytes. -/
def NoZero (P : Program) (f : FuncId) (e : TypeId) : Prop := ∀ (n : Nat) (w : World), n ≤ 1000000000 → ∃ cs : List Value, (callFunc f #[.int .i64 n]).run P w = .ok (.value (.slice (some ⟨w.heap.size, 0, none⟩) n cs.length)) (w.drew.drew.alloc (.cells ⟨cs⟩ e)) ∧ n ≤ cs.length
theorem NoZero.of {P : Program} {f : FuncId} {fn : Func} {ps : Array TypeId} {t e : TypeId} (hf : P.funcs[f]? = some fn) (hname : (fn.name == "runtime.NumGoroutine") = false) (hb : fn.body.isNone = true) (hn : Extern.findNext fn = none) (he : Extern.find fn = some (Extern.BytealgMakeNoZero.makeNoZero ps #[t])) (ht : P.underlying t = some (.slice e)) : NoZero P f e := by
  intro n w hn9
  obtain ⟨cs, h1, h2, _⟩ := Lib.run_makeNoZero (P := P) w ps t e ht n (by omega)
  refine ⟨cs.toList, ?_, by simpa using h2⟩
  rw [run_callFunc_extern hf hname hb hn he, h1]
  simp
theorem R.noZero {f : FuncId} {xs : List Operand} {ats : Array TypeId} (hz : NoZero X.P f e) (hx : evs σ xs = some [.int .i64 (n : Nat)]) (hl : n ≤ 1000000000) (hn : Nat.blt dd X.n = true)
    (h : ∀ b cs, n ≤ cs.length → R X all rest K ((dd, .slice (some ⟨b, 0, none⟩) n cs.length) :: σ) ((b, .cells ⟨cs⟩ e (0, 0)) :: L)) :
    R X all (⟨some dd, .call { callee := .value (.func f), args := xs.toArray, argTypes := ats }, ty, pos, af, none⟩ :: rest) K σ L :=
  R.value rfl rfl hn fun a w ha hw => by
    obtain ⟨cs, h1, h2⟩ := hz n w hl
    have hw2 : Hp X.w0 X.S L w.drew.drew := (hw.step (Chg.drew [] w)).step (Chg.drew [] w.drew)
    have hs : w.drew.drew.heap.size = w.heap.size := rfl
    refine ⟨_, _, _, ?_, hw2.alloc (.cells ⟨cs⟩ e (0, 0)), h _ cs h2⟩
    have hargs : xs.map a.eval = [.int .i64 (n : Nat)] := evs_map ha hx
    simp only [execOp, resolve, Act.eval, List.map_toArray, hargs, Deferred.ofValue, Sem.run_bind, Sem.run_pure, Result.andThen_ok, invoke, hs]
    simpa using h1
end
end Go.Proofs.YtidjnjlejhoalaaGreat
set_option linter.unusedSimpArgs false
set_option linter.unusedVariables false
namespace Go.Proofs.YtidjnjlejhoalaaGreat
open Go.RowKit Go.Shelf
set_option maxRecDepth 100000
theorem nozero_ok : NoZero Tryz.prog 305 5 := NoZero.of (ps := #[3]) (t := 22) Tryz.func305 (by kernel_rfl) (by kernel_rfl) (by kernel_rfl) (by kernel_rfl) (by have := (tb.get (t := 22) rfl).is; exact this)
theorem setE_nilO (cs : List Value) (o : Nat) : setE cs o [] = some cs := by simp [setE]
end Go.Proofs.YtidjnjlejhoalaaGreat
set_option linter.unusedSimpArgs false
set_option linter.unusedVariables false
namespace Go.Proofs.YtidjnjlejhoalaaGreat
open Go.RowKit Go.Shelf
set_option maxRecDepth 100000
def nbI (a b : Int) : List Int := ([] ++ numI 1 a) ++ numI 2 b
theorem wnbytes_ok (a b : Int) (hr : NR a b) (w : World) : CallM Tryz.prog 92 [.agg ⟨[.int .i64 a, .int .i64 b]⟩] [] w fun v L => ∃ ov, OvOk 1 ov 6 (u8s (nbI a b)) ∧ v = .tuple #[slV ov 6, .int .i64 0] ∧ L = blkL 5 ov (u8s (nbI a b)) := by
  have hck := nonce_ok a b
  rw [if_pos hr] at hck
  have hf1 : Fits 1 a := by unfold NR at hr; unfold Fits; omega
  have hf2 : Fits 2 b := by unfold NR at hr; unfold Fits; omega
  refine enterK (tb := tb) Tryz.func92 rfl Tryz.ntmps92 rfl ?_
  repeat' (first | (apply R.is1; first | (apply R.isBin; (apply R.pure; exact rfl; (apply Ok1.neq_f; exact rfl; exact rfl; omega))) | (apply R.isCall; apply R.callP rfl rfl rfl hck) | (apply R.pure; exact rfl; first | (apply Ok1.move; exact rfl) | (apply Ok1.load; exact rfl; (apply Ld.ownk; exact rfl; exact rfl; exact At.head; exact rfl)) | (apply Ok1.assign; exact rfl)) | (apply R.box; (iterate 3 exact rfl); intro) | (apply R.alloc; (iterate 3 exact rfl); intro)) | apply R.nil | (apply T.is; first | apply T.seq | apply T.region | apply T.skip | (apply T.cond_f; exact rfl)))
  rename_i bc bw
  obtain ⟨B0, hB0⟩ : ∃ B : List Int, B = [] := ⟨_, rfl⟩
  obtain ⟨B1, hB1⟩ : ∃ B, B = B0 ++ numI 1 a := ⟨_, rfl⟩
  obtain ⟨B2, hB2⟩ : ∃ B, B = B1 ++ numI 2 b := ⟨_, rfl⟩
  have hl0 : B0.length ≤ 1000 := by rw [hB0]; decide
  have hl1 : B1.length ≤ 1000 := by rw [hB1, hB0]; exact Nat.le_of_ble_eq_true rfl
  have hB : B2 = nbI a b := by rw [hB2, hB1, hB0]; rfl
  have hBl : B2.length = 6 := by rw [hB]; rfl
  have hw0 : OvOk 1 none B0.length (u8s B0) := by rw [hB0]; exact OvOk.start 1
  apply T.drawC (id := 5) [1] (by decide)
  (apply A.take 0; exact rfl; exact rfl; kernel_rfl; kernel_rfl; kernel_rfl; (apply Ok1.fieldAddr; (iterate 5 exact rfl))) <;> (apply A.take 1; exact rfl; exact rfl; kernel_rfl; kernel_rfl; kernel_rfl; (apply Ok1.load; exact rfl; (apply Ld.own1; exact rfl; exact rfl; exact At.head; exact rfl))) <;> (apply A.take 4; exact rfl; exact rfl; kernel_rfl; kernel_rfl; kernel_rfl; (apply Ok1.fieldAddr; (iterate 5 exact rfl))) <;> (apply A.take 5; exact rfl; exact rfl; kernel_rfl; kernel_rfl; kernel_rfl; (apply Ok1.load; exact rfl; (apply Ld.own1; exact rfl; exact rfl; exact At.head; exact rfl)))
  refine A.merge (fun σ L => ∃ (ov : Ov), OvOk 1 ov B2.length (u8s B2) ∧ Sub [(5, .pointer (some ⟨bw, 0, none⟩)), (12, .int .i64 a), (16, .int .i64 b), (18, .pointer (some ⟨bw, 0, none⟩))] σ ∧ Keep L (WL bw ov B2 ++ [(bc, .cells ⟨[.int .i64 a, .int .i64 b]⟩ 38 (0, 0))])) 5 #[true, true, true, true, true, true, true, true, false, false, false, false, false] ?_ ?_
  rotate_left 1
  focus
    intro H2_
    refine A.merge (fun σ L => ∃ (ov : Ov) (b1 : Nat), OvOk 1 ov B1.length (u8s B1) ∧ Sub [(5, .pointer (some ⟨bw, 0, none⟩)), (12, .int .i64 a), (16, .int .i64 b), (14, .pointer (some ⟨bw, 0, none⟩)), (17, .slice (some ⟨b1, 0, none⟩) 1 1)] σ ∧ Keep L (WL bw ov B1 ++ [(bc, .cells ⟨[.int .i64 a, .int .i64 b]⟩ 38 (0, 0)), (b1, .cells ⟨[.int .i64 b]⟩ 3 (0, 0))])) 6 #[true, true, true, true, true, true, true, false, false, false, false, false, false] ?_ ?_
    · rintro σ L ⟨ov, b1, hov, hs, hk⟩
      refine A.weak ?_ hs hk
      refine A.multi [7] (by kernel_rfl) (by decide) ⟨⟨_, rfl, ?_⟩, trivial⟩
      · (apply R.callE (Li := WL bw ov B1); (iterate 3 exact rfl); (focus ((repeat' (exact Ext.here _ _)); done)); intro w1 hw1; have h9 := number1_ok bw ov B1 hov 2 b hf2 hl1 b1 _ _ w1 (hw1.get _ _ (At.mem (by (focus ((repeat' (first | exact At.head | apply At.tail | apply At.right)); done))))) (RdSl.off hw1 (by (focus ((repeat' (exact Ext.here _ _)); done))) (At.mem (by (focus ((repeat' (first | exact At.head | apply At.tail)); done))))); rw [← hB2] at h9; exact h9; rintro v Lo ⟨ov1, rfl, hov1, rfl⟩); apply R.nil; refine ⟨(by (focus ((repeat' (first | exact trivial | (refine ⟨?_, ?_⟩; (focus ((repeat' (first | exact At.head | apply At.tail | apply At.right)); done)))))))), A.cast (by kernel_rfl) (H2_ _ _ ⟨ov1, hov1, ⟨rfl, rfl, rfl, rfl, trivial⟩, (by (focus ((repeat' (first | exact Keep.nil _ | exact Ext.one _ _ | exact Ext.here _ _ | apply Keep.cons | apply Keep.app)); done)))⟩)⟩
    intro H1_1
    refine A.merge (fun σ L => ∃ (ov : Ov), OvOk 1 ov B1.length (u8s B1) ∧ Sub [(5, .pointer (some ⟨bw, 0, none⟩)), (12, .int .i64 a), (16, .int .i64 b), (14, .pointer (some ⟨bw, 0, none⟩))] σ ∧ Keep L (WL bw ov B1 ++ [(bc, .cells ⟨[.int .i64 a, .int .i64 b]⟩ 38 (0, 0))])) 7 #[true, true, true, true, true, true, false, false, false, false, false, false, false] ?_ ?_
    · rintro σ L ⟨ov, hov, hs, hk⟩
      refine A.weak ?_ hs hk
      refine A.multi [6] (by kernel_rfl) (by decide) ⟨⟨_, rfl, ?_⟩, trivial⟩
      · (((apply R.buildSlice; (iterate 12 exact rfl); intro))); rename_i b1; apply R.nil; refine ⟨(by (focus ((repeat' (first | exact trivial | (refine ⟨?_, ?_⟩; (focus ((repeat' (first | exact At.head | apply At.tail | apply At.right)); done)))))))), A.cast (by kernel_rfl) (H1_1 _ _ ⟨ov, b1, hov, ⟨rfl, rfl, rfl, rfl, rfl, trivial⟩, (by (focus ((repeat' (first | exact Keep.nil _ | exact Ext.one _ _ | exact Ext.here _ _ | apply Keep.cons | apply Keep.app | apply Ext.cons)); done)))⟩)⟩
    intro H1_
    refine A.merge (fun σ L => ∃ (ov : Ov) (b0 : Nat) (b1 : Nat), OvOk 1 ov B0.length (u8s B0) ∧ Sub [(5, .pointer (some ⟨bw, 0, none⟩)), (12, .int .i64 a), (16, .int .i64 b), (13, .slice (some ⟨b0, 0, none⟩) 1 1), (17, .slice (some ⟨b1, 0, none⟩) 1 1)] σ ∧ Keep L (WL bw ov B0 ++ [(bc, .cells ⟨[.int .i64 a, .int .i64 b]⟩ 38 (0, 0)), (b0, .cells ⟨[.int .i64 a]⟩ 3 (0, 0)), (b1, .cells ⟨[.int .i64 b]⟩ 3 (0, 0))])) 7 #[true, true, true, false, true, true, true, false, false, false, false, false, false] ?_ ?_
    · rintro σ L ⟨ov, b0, b1, hov, hs, hk⟩
      refine A.weak ?_ hs hk
      refine A.multi [3] (by kernel_rfl) (by decide) ⟨⟨_, rfl, ?_⟩, trivial⟩
      · (apply R.callE (Li := WL bw ov B0); (iterate 3 exact rfl); (focus ((repeat' (exact Ext.here _ _)); done)); intro w1 hw1; have h9 := number1_ok bw ov B0 hov 1 a hf1 hl0 b0 _ _ w1 (hw1.get _ _ (At.mem (by (focus ((repeat' (first | exact At.head | apply At.tail | apply At.right)); done))))) (RdSl.off hw1 (by (focus ((repeat' (exact Ext.here _ _)); done))) (At.mem (by (focus ((repeat' (first | exact At.head | apply At.tail)); done))))); rw [← hB1] at h9; exact h9; rintro v Lo ⟨ov1, rfl, hov1, rfl⟩); apply R.nil; refine ⟨(by (focus ((repeat' (first | exact trivial | (refine ⟨?_, ?_⟩; (focus ((repeat' (first | exact At.head | apply At.tail | apply At.right)); done)))))))), A.cast (by kernel_rfl) (H1_1 _ _ ⟨ov1, b1, hov1, ⟨rfl, rfl, rfl, rfl, rfl, trivial⟩, (by (focus ((repeat' (first | exact Keep.nil _ | exact Ext.one _ _ | exact Ext.here _ _ | apply Keep.cons | apply Keep.app | apply Ext.cons)); done)))⟩)⟩
    intro H0_01
    refine A.merge (fun σ L => ∃ (ov : Ov) (b0 : Nat), OvOk 1 ov B0.length (u8s B0) ∧ Sub [(5, .pointer (some ⟨bw, 0, none⟩)), (12, .int .i64 a), (16, .int .i64 b), (13, .slice (some ⟨b0, 0, none⟩) 1 1)] σ ∧ Keep L (WL bw ov B0 ++ [(bc, .cells ⟨[.int .i64 a, .int .i64 b]⟩ 38 (0, 0)), (b0, .cells ⟨[.int .i64 a]⟩ 3 (0, 0))])) 8 #[true, true, true, false, true, true, false, false, false, false, false, false, false] ?_ ?_
    · rintro σ L ⟨ov, b0, hov, hs, hk⟩
      refine A.weak ?_ hs hk
      refine A.multi [3, 6] (by kernel_rfl) (by decide) ⟨⟨_, rfl, ?_⟩, ⟨_, rfl, ?_⟩, trivial⟩
      · (apply R.callE (Li := WL bw ov B0); (iterate 3 exact rfl); (focus ((repeat' (exact Ext.here _ _)); done)); intro w1 hw1; have h9 := number1_ok bw ov B0 hov 1 a hf1 hl0 b0 _ _ w1 (hw1.get _ _ (At.mem (by (focus ((repeat' (first | exact At.head | apply At.tail | apply At.right)); done))))) (RdSl.off hw1 (by (focus ((repeat' (exact Ext.here _ _)); done))) (At.mem (by (focus ((repeat' (first | exact At.head | apply At.tail)); done))))); rw [← hB1] at h9; exact h9; rintro v Lo ⟨ov1, rfl, hov1, rfl⟩); apply R.nil; refine ⟨(by (focus ((repeat' (first | exact trivial | (refine ⟨?_, ?_⟩; (focus ((repeat' (first | exact At.head | apply At.tail | apply At.right)); done)))))))), A.cast (by kernel_rfl) (H1_ _ _ ⟨ov1, hov1, ⟨rfl, rfl, rfl, rfl, trivial⟩, (by (focus ((repeat' (first | exact Keep.nil _ | exact Ext.one _ _ | exact Ext.here _ _ | apply Keep.cons | apply Keep.app)); done)))⟩)⟩
      · (((apply R.buildSlice; (iterate 12 exact rfl); intro))); rename_i b1; apply R.nil; refine ⟨(by (focus ((repeat' (first | exact trivial | (refine ⟨?_, ?_⟩; (focus ((repeat' (first | exact At.head | apply At.tail | apply At.right)); done)))))))), A.cast (by kernel_rfl) (H0_01 _ _ ⟨ov, b0, b1, hov, ⟨rfl, rfl, rfl, rfl, rfl, trivial⟩, (by (focus ((repeat' (first | exact Keep.nil _ | exact Ext.one _ _ | exact Ext.here _ _ | apply Keep.cons | apply Keep.app | apply Ext.cons)); done)))⟩)⟩
    intro H0_0
    refine A.merge (fun σ L => ∃ (ov : Ov) (b1 : Nat), OvOk 1 ov B0.length (u8s B0) ∧ Sub [(5, .pointer (some ⟨bw, 0, none⟩)), (12, .int .i64 a), (16, .int .i64 b), (17, .slice (some ⟨b1, 0, none⟩) 1 1)] σ ∧ Keep L (WL bw ov B0 ++ [(bc, .cells ⟨[.int .i64 a, .int .i64 b]⟩ 38 (0, 0)), (b1, .cells ⟨[.int .i64 b]⟩ 3 (0, 0))])) 8 #[true, true, false, false, true, true, true, false, false, false, false, false, false] ?_ ?_
    · rintro σ L ⟨ov, b1, hov, hs, hk⟩
      refine A.weak ?_ hs hk
      refine A.multi [2] (by kernel_rfl) (by decide) ⟨⟨_, rfl, ?_⟩, trivial⟩
      · (((apply R.buildSlice; (iterate 12 exact rfl); intro))); rename_i b0; apply R.nil; refine ⟨(by (focus ((repeat' (first | exact trivial | (refine ⟨?_, ?_⟩; (focus ((repeat' (first | exact At.head | apply At.tail | apply At.right)); done)))))))), A.cast (by kernel_rfl) (H0_01 _ _ ⟨ov, b0, b1, hov, ⟨rfl, rfl, rfl, rfl, rfl, trivial⟩, (by (focus ((repeat' (first | exact Keep.nil _ | exact Ext.one _ _ | exact Ext.here _ _ | apply Keep.cons | apply Keep.app | apply Ext.cons)); done)))⟩)⟩
    intro H0_1
    refine A.merge (fun σ L => ∃ (ov : Ov), OvOk 1 ov B0.length (u8s B0) ∧ Sub [(5, .pointer (some ⟨bw, 0, none⟩)), (12, .int .i64 a), (16, .int .i64 b)] σ ∧ Keep L (WL bw ov B0 ++ [(bc, .cells ⟨[.int .i64 a, .int .i64 b]⟩ 38 (0, 0))])) 9 #[true, true, false, false, true, true, false, false, false, false, false, false, false] ?_ ?_
    · rintro σ L ⟨ov, hov, hs, hk⟩
      refine A.weak ?_ hs hk
      refine A.multi [2, 6] (by kernel_rfl) (by decide) ⟨⟨_, rfl, ?_⟩, ⟨_, rfl, ?_⟩, trivial⟩
      · (((apply R.buildSlice; (iterate 12 exact rfl); intro))); rename_i b0; apply R.nil; refine ⟨(by (focus ((repeat' (first | exact trivial | (refine ⟨?_, ?_⟩; (focus ((repeat' (first | exact At.head | apply At.tail | apply At.right)); done)))))))), A.cast (by kernel_rfl) (H0_0 _ _ ⟨ov, b0, hov, ⟨rfl, rfl, rfl, rfl, trivial⟩, (by (focus ((repeat' (first | exact Keep.nil _ | exact Ext.one _ _ | exact Ext.here _ _ | apply Keep.cons | apply Keep.app | apply Ext.cons)); done)))⟩)⟩
      · (((apply R.buildSlice; (iterate 12 exact rfl); intro))); rename_i b1; apply R.nil; refine ⟨(by (focus ((repeat' (first | exact trivial | (refine ⟨?_, ?_⟩; (focus ((repeat' (first | exact At.head | apply At.tail | apply At.right)); done)))))))), A.cast (by kernel_rfl) (H0_1 _ _ ⟨ov, b1, hov, ⟨rfl, rfl, rfl, rfl, trivial⟩, (by (focus ((repeat' (first | exact Keep.nil _ | exact Ext.one _ _ | exact Ext.here _ _ | apply Keep.cons | apply Keep.app | apply Ext.cons)); done)))⟩)⟩
    intro H0_
    exact A.cast (by kernel_rfl) (H0_ _ _ ⟨none, hw0, ⟨rfl, rfl, rfl, trivial⟩, (by (focus ((repeat' (first | exact Keep.nil _ | exact Ext.one _ _ | apply Keep.cons)); done)))⟩)
  rintro σ L ⟨ov, hov, hs, hk⟩
  refine A.weak ?_ hs hk
  clear hs hk
  (apply A.one 8; kernel_rfl; exact rfl; (((simp only [WL, List.cons_append]; apply R.callE; (iterate 3 exact rfl); exact Ext.none _; intro w1 hw1; exact wout_ok bw ov B2 hov (by rw [hBl]; decide) w1 (hw1.get _ _ (At.mem (by exact At.head))) (rdown hov hw1 (Ext.mem (by (focus ((repeat' (first | exact Ext.here _ _ | apply Ext.cons)); done))))); rintro v Lo ⟨ov9, hov9, rfl, rfl⟩))); apply R.nil; refine ⟨?_, ?_⟩; (focus ((repeat' (first | exact trivial | (refine ⟨?_, ?_⟩; (focus ((repeat' (first | exact At.head | apply At.tail | apply At.right)); done)))))))) <;> (apply A.take 9; exact rfl; exact rfl; kernel_rfl; kernel_rfl; kernel_rfl; (apply Ok1.extract; exact rfl; exact rfl)) <;> (apply A.take 10; exact rfl; exact rfl; kernel_rfl; kernel_rfl; kernel_rfl; (apply Ok1.extract; exact rfl; exact rfl)) <;> (apply A.take 11; exact rfl; exact rfl; kernel_rfl; kernel_rfl; kernel_rfl; (apply Ok1.assign; exact rfl)) <;> (apply A.take 12; exact rfl; exact rfl; kernel_rfl; kernel_rfl; kernel_rfl; (apply Ok1.assign; exact rfl)) <;> (apply A.done; kernel_rfl)
  rw [hBl] at hov9
  repeat' ((apply T.is; apply T.ret))
  (apply RetOk.tt; exact rfl; exact rfl)
  refine ⟨_, ?_, ov9, hB ▸ hov9, by rw [hBl], rfl⟩
  rw [← hB]
  (focus ((repeat' (first | exact Ext.here _ _ | apply Keep.last)); done))
end Go.Proofs.YtidjnjlejhoalaaGreat
set_option linter.unusedSimpArgs false
set_option linter.unusedVariables false
namespace Go.Proofs.YtidjnjlejhoalaaGreat
open Go.RowKit Go.Shelf
set_option maxRecDepth 100000
def sSend : ByteArray := ⟨#[115, 101, 110, 100, 101, 114]⟩
def sSeed : ByteArray := ⟨#[115, 101, 101, 100]⟩
def twoB (n : Int) : List Int := [n / 256 % 256, n % 256]
def lastI (sz : Nat) (n : Int) : List Int := (twoB n).drop (2 - sz)
def senderI (k : List Int) (v : Int) : List Int := deriveI k sSend [lastI 2 v]
def seedI (k : List Int) (v : Int) : List Int := deriveI k sSeed [lastI 1 v]
theorem two_byt (n : Int) : Byt (twoB n) := by
  intro x hx
  simp only [twoB, List.mem_cons, List.not_mem_nil, or_false] at hx
  omega
theorem last_byt (sz : Nat) (n : Int) : Byt (lastI sz n) := Byt.drop (two_byt n) _
theorem derived_off (bk : Nat) (lab : ByteArray) (n a b s : Int) (h : n < a ∨ n > b) : CallP Tryz.prog 240 [.pointer (some ⟨bk, 0, none⟩), .string lab, .int .i64 n, .int .i64 a, .int .i64 b, .int .i64 s] (.tuple #[.pointer none, .int .i64 10]) := by
  refine enterP (tb := tb) Tryz.func240 rfl Tryz.ntmps240 rfl fun w0 => ?_
  rcases h with h | h
  · repeat' (first | (apply R.is1; first | (apply R.isBin; (apply R.pure; exact rfl; first | (apply Ok1.lss_t; exact rfl; exact rfl; omega) | (apply Ok1.eqlP; (iterate 5 exact rfl)))) | (apply R.pure; exact rfl; first | (apply Ok1.move; exact rfl) | (apply Ok1.assign; exact rfl) | (apply Ok1.pick_t; exact rfl; exact rfl))) | (apply R.isG; (apply R.guard_not; (iterate 3 exact rfl))) | apply R.nil | (apply T.is; first | apply T.seq | apply T.region | apply T.block | apply T.ret | (apply T.cond_t; exact rfl) | (apply T.cond_f; exact rfl)))
    all_goals (apply RetOk.tt; exact rfl; exact rfl)
    all_goals rfl
  · by_cases h2 : n < a
    · repeat' (first | (apply R.is1; first | (apply R.isBin; (apply R.pure; exact rfl; first | (apply Ok1.lss_t; exact rfl; exact rfl; omega) | (apply Ok1.eqlP; (iterate 5 exact rfl)))) | (apply R.pure; exact rfl; first | (apply Ok1.move; exact rfl) | (apply Ok1.assign; exact rfl) | (apply Ok1.pick_t; exact rfl; exact rfl))) | (apply R.isG; (apply R.guard_not; (iterate 3 exact rfl))) | apply R.nil | (apply T.is; first | apply T.seq | apply T.region | apply T.block | apply T.ret | (apply T.cond_t; exact rfl) | (apply T.cond_f; exact rfl)))
      all_goals (apply RetOk.tt; exact rfl; exact rfl)
      all_goals rfl
    · repeat' (first | (apply R.is1; first | (apply R.isBin; (apply R.pure; exact rfl; first | (apply Ok1.lss_f; exact rfl; exact rfl; omega) | (apply Ok1.gtr_t; exact rfl; exact rfl; omega) | (apply Ok1.eqlP; (iterate 5 exact rfl)))) | (apply R.pure; exact rfl; first | (apply Ok1.move; exact rfl) | (apply Ok1.assign; exact rfl) | (apply Ok1.pick_f; exact rfl; exact rfl))) | (apply R.isG; (apply R.guard_run; exact rfl; exact rfl)) | apply R.nil | (apply T.is; first | apply T.seq | apply T.region | apply T.block | apply T.ret | (apply T.cond_t; exact rfl) | (apply T.cond_f; exact rfl)))
      all_goals (apply RetOk.tt; exact rfl; exact rfl)
      all_goals rfl
theorem derived_ok (bk : Nat) (k : List Int) (hkl : k.length ≤ 999999000) (hkb : Byt k) (lab : ByteArray) (hlab : lab.size ≤ 1000) (n a b : Int) (s : Nat) (h1 : a ≤ n) (h2 : n ≤ b) (hs : s ≤ 2) (w : World) (hk : KeyR w bk k) :
    CallM Tryz.prog 240 [.pointer (some ⟨bk, 0, none⟩), .string lab, .int .i64 n, .int .i64 a, .int .i64 b, .int .i64 s] [] w fun v L => ∃ bk' ov, v = .tuple #[.pointer (some ⟨bk', 0, none⟩), .int .i64 0] ∧ OvOk 1 ov 32 (u8s (deriveI k lab [lastI s n])) ∧ L = KL bk' ov (deriveI k lab [lastI s n]) := by
  have hll : (lastI s n).length = s := by simp [lastI, twoB]; omega
  have hfl : (frameI [strI lab, lastI s n]).length ≤ 999998000 := by
    have h3 : (strI lab).length = lab.size := by simp [strI]
    simp only [frameI, List.flatMap_cons, List.flatMap_nil, List.append_nil, List.length_append, hll, h3]
    simp only [len4, List.length_cons, List.length_nil]
    omega
  refine enterK (tb := tb) Tryz.func240 rfl Tryz.ntmps240 rfl ?_
  have hsub : (2 : Int) - (s : Int) = ((2 - s : Nat) : Int) := by omega
  have hsuf := fun p (w1 : World) (h : RdSl w1 p u8V (twoB n)) => RdSl.suf u8V_len h (cap := 2) (i := 2 - s) (by simp [twoB]) (by simp [twoB])
  have hl0 : (twoB n).length = 2 := rfl
  have hcells : u8s (twoB n) = [.int .u8 (IntKind.u8.wrap (n / 256)), .int .u8 (IntKind.u8.wrap n)] := by simp only [u8_mod]; rfl
  have hss : 2 - (2 - s) = s := by omega
  repeat' (first | (apply R.is1; first | (apply R.isBin; (apply R.pure; exact rfl; first | (apply Ok1.sub64; exact rfl; exact rfl; omega; omega) | (apply Ok1.lss_f; exact rfl; exact rfl; omega) | (apply Ok1.gtr_f; exact rfl; exact rfl; omega) | (apply Ok1.shr; exact rfl; exact rfl; omega; exact Nat.le_of_ble_eq_true rfl; (exact pwE8)) | (apply Ok1.eqlP; (iterate 5 exact rfl)))) | (apply R.isCall; (apply R.callE; (iterate 3 exact rfl); exact Ext.none _; intro w1 hw1; exact derive_ok bk k hkl hkb lab (by omega) _ 1 1 [⟨_, 2 - (2 - s), lastI s n⟩] rfl (by decide) (by intro x hx; cases List.mem_singleton.1 hx; exact last_byt _ _) hfl (by intro x hx; cases List.mem_singleton.1 hx; rw [hll]; omega) w1 (hk.chg hw1.chg) (RdSl.of (junk := []) hw1 (by exact At.head) (by simp only [fl, Pt.v, List.map_cons, List.map_nil, List.flatten_cons, List.flatten_nil, List.append_nil]; rw [hll, hss])) (by intro x hx; cases List.mem_singleton.1 hx; exact hsuf _ _ (RdSl.of (junk := []) hw1 (by (focus ((repeat' (first | exact At.head | apply At.tail)); done))) (by rw [fl_u8, hcells]; rfl))); rw [List.map_cons, List.map_nil]; rintro v Lo ⟨bk2, ov2, rfl, hov2, rfl⟩)) | (apply R.pure; exact rfl; first | (apply Ok1.sufR (i := 2 - s) (sz := 1); (iterate 5 exact rfl); exact congrArg (fun z => some (Value.int .i64 z)) hsub; omega; omega) | (apply Ok1.move; exact rfl) | (apply Ok1.assign; exact rfl) | (apply Ok1.pick_f; exact rfl; exact rfl) | (apply Ok1.conv; (iterate 5 exact rfl))) | (apply R.buildSlice; (iterate 12 exact rfl); intro)) | (apply R.isG; (apply R.guard_run; exact rfl; exact rfl)) | apply R.nil | (apply T.is; first | apply T.seq | apply T.region | apply T.block | apply T.skip | apply T.ret | (apply T.cond_f; exact rfl)))
  all_goals (apply RetOk.tt; exact rfl; exact rfl)
  all_goals refine ⟨_, ?_, bk2, ov2, rfl, hov2, rfl⟩
  all_goals (focus ((repeat' (first | exact Ext.one _ _ | exact Ext.here _ _ | apply Keep.cons | apply Keep.last)); done))
theorem sender_off (bk : Nat) (n : Int) (h : n < 1 ∨ n > 65535) : CallP Tryz.prog 168 [.pointer (some ⟨bk, 0, none⟩), .int .i64 n] (.tuple #[.pointer none, .int .i64 10]) := by
  have hd := derived_off bk sSend n 1 65535 2 h
  refine enterP (tb := tb) Tryz.func168 rfl Tryz.ntmps168 rfl fun w0 => ?_
  repeat' (first | (apply R.is1; first | (apply R.isCall; apply R.callP rfl rfl rfl hd) | (apply R.pure; exact rfl; first | (apply Ok1.move; exact rfl) | (apply Ok1.assign; exact rfl) | (apply Ok1.extract; exact rfl; exact rfl))) | apply R.nil | (apply T.is; first | apply T.seq | apply T.region | apply T.ret))
  all_goals (apply RetOk.tt; exact rfl; exact rfl)
  all_goals rfl
theorem sender_ok (bk : Nat) (k : List Int) (hkl : k.length ≤ 999999000) (hkb : Byt k) (n : Int) (h1 : 1 ≤ n) (h2 : n ≤ 65535) (w : World) (hk : KeyR w bk k) :
    CallM Tryz.prog 168 [.pointer (some ⟨bk, 0, none⟩), .int .i64 n] [] w fun v L => ∃ bk' ov, v = .tuple #[.pointer (some ⟨bk', 0, none⟩), .int .i64 0] ∧ OvOk 1 ov 32 (u8s (senderI k n)) ∧ L = KL bk' ov (senderI k n) := by
  refine enterK (tb := tb) Tryz.func168 rfl Tryz.ntmps168 rfl ?_
  repeat' (first | (apply R.is1; first | (apply R.isCall; (apply R.callE; (iterate 3 exact rfl); exact Ext.none _; intro w1 hw1; exact derived_ok bk k hkl hkb sSend (by decide) n 1 65535 2 h1 h2 (by decide) w1 (hk.chg hw1.chg); rintro v Lo ⟨bk2, ov2, rfl, hov2, rfl⟩)) | (apply R.pure; exact rfl; first | (apply Ok1.move; exact rfl) | (apply Ok1.assign; exact rfl) | (apply Ok1.extract; exact rfl; exact rfl))) | apply R.nil | (apply T.is; first | apply T.seq | apply T.region | apply T.ret))
  all_goals (apply RetOk.tt; exact rfl; exact rfl)
  all_goals refine ⟨_, ?_, bk2, ov2, rfl, hov2, rfl⟩
  all_goals (focus ((repeat' (first | exact Ext.one _ _ | exact Ext.here _ _ | apply Keep.cons | apply Keep.last)); done))
theorem seed_off (bk : Nat) (n : Int) (h : n < 0 ∨ n > 3) : CallP Tryz.prog 279 [.pointer (some ⟨bk, 0, none⟩), .int .i64 n] (.tuple #[.pointer none, .int .i64 10]) := by
  have hd := derived_off bk sSeed n 0 3 1 h
  refine enterP (tb := tb) Tryz.func279 rfl Tryz.ntmps279 rfl fun w0 => ?_
  repeat' (first | (apply R.is1; first | (apply R.isCall; apply R.callP rfl rfl rfl hd) | (apply R.pure; exact rfl; first | (apply Ok1.move; exact rfl) | (apply Ok1.assign; exact rfl) | (apply Ok1.extract; exact rfl; exact rfl))) | apply R.nil | (apply T.is; first | apply T.seq | apply T.region | apply T.ret))
  all_goals (apply RetOk.tt; exact rfl; exact rfl)
  all_goals rfl
theorem seed_ok (bk : Nat) (k : List Int) (hkl : k.length ≤ 999999000) (hkb : Byt k) (n : Int) (h1 : 0 ≤ n) (h2 : n ≤ 3) (w : World) (hk : KeyR w bk k) :
    CallM Tryz.prog 279 [.pointer (some ⟨bk, 0, none⟩), .int .i64 n] [] w fun v L => ∃ bk' ov, v = .tuple #[.pointer (some ⟨bk', 0, none⟩), .int .i64 0] ∧ OvOk 1 ov 32 (u8s (seedI k n)) ∧ L = KL bk' ov (seedI k n) := by
  refine enterK (tb := tb) Tryz.func279 rfl Tryz.ntmps279 rfl ?_
  repeat' (first | (apply R.is1; first | (apply R.isCall; (apply R.callE; (iterate 3 exact rfl); exact Ext.none _; intro w1 hw1; exact derived_ok bk k hkl hkb sSeed (by decide) n 0 3 1 h1 h2 (by decide) w1 (hk.chg hw1.chg); rintro v Lo ⟨bk2, ov2, rfl, hov2, rfl⟩)) | (apply R.pure; exact rfl; first | (apply Ok1.move; exact rfl) | (apply Ok1.assign; exact rfl) | (apply Ok1.extract; exact rfl; exact rfl))) | apply R.nil | (apply T.is; first | apply T.seq | apply T.region | apply T.ret))
  all_goals (apply RetOk.tt; exact rfl; exact rfl)
  all_goals refine ⟨_, ?_, bk2, ov2, rfl, hov2, rfl⟩
  all_goals (focus ((repeat' (first | exact Ext.one _ _ | exact Ext.here _ _ | apply Keep.cons | apply Keep.last)); done))
end Go.Proofs.YtidjnjlejhoalaaGreat
set_option linter.unusedSimpArgs false
set_option linter.unusedVariables false
namespace Go.Proofs.YtidjnjlejhoalaaGreat
open Go.RowKit Go.Shelf
set_option maxRecDepth 100000
def ringC (c : Cl) (s : List Int) (m1 m2 : Nat) : List Value := tkC c s ++ [.map (some m1), .map (some m2)]
theorem fill_ring (a b e : Nat) (c : Cl) (s : List Int) (hs : s.length = 32) (m1 m2 : Nat) : fillE (fldPl [(a, 0, 36), (b, 36, 1), (e, 37, 1)]) (tkC ⟨0, 0, 0, 0⟩ (zI 32) ++ [.map none, .map none]) [(0, .agg ⟨tkC c s⟩), (1, .map (some m1)), (2, .map (some m2))] = some (ringC c s m1 m2) := by
  obtain ⟨x0, x1, x2, x3, x4, x5, x6, x7, x8, x9, x10, x11, x12, x13, x14, x15, x16, x17, x18, x19, x20, x21, x22, x23, x24, x25, x26, x27, x28, x29, x30, x31, rfl⟩ := list32 s hs
  rfl
def vvK (b : Nat) : Value := .pointer (some ⟨b, 0, none⟩)
def kvR (n : Int) : Value := .int .i64 n
theorem tk_len {c : Cl} {s : List Int} (hs : s.length = 32) : (tkC c s).length = 36 := by simp [tkC, clC, u8s_len, hs]
theorem tk_one (c : Cl) (s : List Int) : (tkC c s).all Value.oneCell' = true := by simp only [tkC, List.all_append, u8s_one, Bool.and_true]; rfl
theorem tk_cl (c : Cl) (s : List Int) : subE (tkC c s) 0 4 = some (clC c) := subE_app (clC c) (u8s s) rfl
def RL0 (br m1 m2 : Nat) (c : Cl) (s : List Int) : Lst := [(br, .cells ⟨ringC c s m1 m2⟩ 300 (0, 0)), (m2, mobj kvR vvK [] 0), (m1, mobj kvC vvK [] 0)]
theorem ring_new (c : Cl) (hr : c.right) (s : List Int) (hs : s.length = 32) (w : World) : CallM Tryz.prog 161 [.agg ⟨tkC c s⟩] [] w fun v L => ∃ br m1 m2, v = .tuple #[.pointer (some ⟨br, 0, none⟩), .int .i64 0] ∧ L = RL0 br m1 m2 c s := by
  have hck := check_ok c.id c.roles c.exp c.ser
  rw [if_pos hr] at hck
  have htl := tk_len (c := c) hs
  have hfill := fun a b e m1 m2 => fill_ring a b e c s hs m1 m2
  refine enterK (tb := tb) Tryz.func161 rfl Tryz.ntmps161 rfl ?_
  repeat' (first | (apply R.is1; first | (apply R.makeMap kvC vvK; exact rfl; intro m2) | (apply R.isBin; (apply R.pure; exact rfl; (apply Ok1.neq_f; exact rfl; exact rfl; omega))) | (apply R.isCall; apply R.callP rfl rfl rfl hck) | (apply R.pure; exact rfl; first | (apply Ok1.load; exact rfl; first | (apply Ld.ownk; exact rfl; exact rfl; exact At.head; exact subE_all htl) | (apply Ld.ownk; exact rfl; exact rfl; exact At.head; exact tk_cl c s)) | (apply Ok1.build; (iterate 4 exact rfl); exact hfill _ _ _ _ _) | (apply Ok1.move; exact rfl) | (apply Ok1.fieldAddr; (iterate 5 exact rfl)) | (apply Ok1.assign; exact rfl)) | (apply R.box; (iterate 3 exact rfl); intro)) | apply R.nil | (apply T.is; first | apply T.seq | apply T.region | apply T.skip | apply T.ret | (apply T.cond_f; exact rfl)))
  rename_i m1 br
  (apply RetOk.tt; exact rfl; exact rfl)
  refine ⟨_, ?_, br, m1, m2, rfl, rfl⟩
  show Keep ((br, _) :: (m2, mobj kvR vvK [] 0) :: _) _
  unfold RL0
  (focus ((repeat' (first | exact Keep.nil _ | exact Ext.one _ _ | apply Keep.cons)); done))
theorem ring_tk (c : Cl) {s : List Int} (hs : s.length = 32) (m1 m2 : Nat) : subE (ringC c s m1 m2) 0 36 = some (tkC c s) := subE_app _ _ (tk_len hs)
theorem to_ok (br : Nat) (c : Cl) (s : List Int) (hs : s.length = 32) (hsb : Byt s) (m1 m2 : Nat) (e : TypeId) (n : Int) (h1 : 1 ≤ n) (h2 : n ≤ 65535) (w : World) (hb : w.heap[br]? = some (.cells ⟨ringC c s m1 m2⟩ e (0, 0))) :
    CallM Tryz.prog 227 [.pointer (some ⟨br, 0, none⟩), .int .i64 n] [] w fun v L => ∃ bk' ov, v = .tuple #[.pointer (some ⟨bk', 0, none⟩), .int .i64 0] ∧ OvOk 1 ov 32 (u8s (senderI s n)) ∧ L = KL bk' ov (senderI s n) := by
  refine enterK (tb := tb) Tryz.func227 rfl Tryz.ntmps227 rfl ?_
  repeat' (first | (apply R.is1; first | (apply R.isBin; (apply R.pure; exact rfl; (apply Ok1.eqlP; (iterate 5 exact rfl)))) | (apply R.isCall; first | (apply R.callE (vs := [.agg ⟨tkC c s⟩]); (iterate 3 exact rfl); exact Ext.none _; intro w1 hw1; exact key_ok c s hs w1; rintro v Lo ⟨bk2, ov2, rfl, hov2, rfl⟩) | (apply R.callE (vs := [.pointer (some ⟨bk2, 0, none⟩), .int .i64 n]); (iterate 3 exact rfl); exact Ext.none _; intro w1 hw1; exact sender_ok bk2 s (by rw [hs]; decide) hsb n h1 h2 w1 (KeyR.of (by rw [hs]; exact hov2) hw1 (Ext.mem (by (focus ((repeat' (exact Ext.here _ _)); done))))); rintro v Lo ⟨bk3, ov3, rfl, hov3, rfl⟩)) | (apply R.pure; exact rfl; first | (apply Ok1.load; exact rfl; apply Ld.blkk; exact rfl; exact rfl; exact hb; exact List.not_mem_nil; exact ring_tk c hs m1 m2) | (apply Ok1.move; exact rfl) | (apply Ok1.fieldAddr; (iterate 5 exact rfl)) | (apply Ok1.assign; exact rfl) | (apply Ok1.extract; exact rfl; exact rfl) | (apply Ok1.nilCheck; exact rfl))) | apply R.nil | (apply T.is; first | apply T.seq | apply T.region | apply T.skip | apply T.ret | (apply T.cond_f; exact rfl)))
  all_goals (apply RetOk.tt; exact rfl; exact rfl)
  all_goals refine ⟨_, ?_, bk3, ov3, rfl, hov3, rfl⟩
  all_goals (focus ((repeat' (first | exact Ext.one _ _ | exact Ext.here _ _ | apply Keep.cons | apply Keep.last)); done))
theorem ltoken_ok (p : Option Addr) (n cap : Nat) (k : List Int) (hn : n = k.length) (hkl : n ≤ 999999000) (hkb : Byt k) (c : Cl) (hr : c.right) (w : World) (hp : RdSl w p u8V k) :
    CallW Tryz.prog 148 [.slice p n cap, kvC c] w fun v _ => v = .agg ⟨tkC c (secretI k c)⟩ := by
  subst hn
  have hsl := secret_len k c
  have hmk := fun bk w1 hk => make_ok c hr bk k hkl hkb w1 hk
  generalize secretI k c = d at *
  have htl := tk_len (c := c) hsl
  have hto := tk_one c d
  refine enterW (tb := tb) Tryz.func148 rfl Tryz.ntmps148 rfl ?_
  simp only [kvC] at hmk ⊢
  repeat' (first | (apply R.is1; first | (apply R.isBin; (apply R.pure; exact rfl; (apply Ok1.neq_f; exact rfl; exact rfl; omega))) | (apply R.pure; exact rfl; first | (apply Ok1.load; exact rfl; apply Ld.ownk; exact rfl; exact rfl; (focus ((repeat' (first | exact At.head | apply At.tail | apply At.right)); done)); exact subE_all htl) | (apply Ok1.move; exact rfl)) | (apply R.box; (iterate 3 exact rfl); intro) | (apply R.alloc; (iterate 3 exact rfl); intro)) | (apply R.is0; (apply R.store; (iterate 4 exact rfl); exact htl; exact hto; (focus ((repeat' (first | exact Upd.head | apply Upd.tail | apply Upd.right)); done)); exact setE_all htl)) | apply R.nil | (apply T.is; first | (apply T.drawC (id := 1) [1] (by decide); ((apply A.take 0; exact rfl; exact rfl; kernel_rfl; kernel_rfl; kernel_rfl; (apply Ok1.move; exact rfl)) <;> (apply A.take 2; exact rfl; exact rfl; kernel_rfl; kernel_rfl; kernel_rfl; (apply Ok1.load; exact rfl; (apply Ld.ownk; exact rfl; exact rfl; exact At.head; exact rfl))) <;> (apply A.two 1 8; kernel_rfl; exact rfl; exact rfl; rotate_left 1; (focus (((((apply R.alloc; (iterate 3 exact rfl); intro))); apply R.nil; refine ⟨?_, ?_⟩; (focus ((repeat' (first | exact trivial | (refine ⟨?_, ?_⟩; (focus ((repeat' (first | exact At.head | apply At.tail)); done)))))))) <;> (apply A.one 1; kernel_rfl; exact rfl; (((apply R.callE (vs := [.slice p k.length cap]); (iterate 3 exact rfl); exact Ext.none _; intro w1 hw1; exact new_ok p k.length cap k rfl (by omega) w1 (hp.chg' hw1.chg (fun _ => Off.nil _)); rintro v Lo ⟨bk2, ov2, rfl, hov2, _, rfl⟩))); apply R.nil; refine ⟨?_, ?_⟩; (focus ((repeat' (first | exact trivial | (refine ⟨?_, ?_⟩; (focus ((repeat' (first | exact At.head | apply At.tail | apply At.right)); done)))))))) <;> (apply A.call 3; exact rfl; exact rfl; kernel_rfl; kernel_rfl; kernel_rfl; exact rfl; exact rfl; (exact fun w1 _ => (to5_ok _ _ _ _).w w1)) <;> (apply A.one 4; kernel_rfl; exact rfl; (((apply R.callV (vs := [.pointer (some ⟨bk2, 0, none⟩), .agg _]); (iterate 3 exact rfl); intro w1 hw1; exact hmk bk2 w1 (KeyR.of hov2 hw1 (Ext.mem (by (focus ((repeat' (exact Ext.here _ _)); done)))))))); apply R.nil; refine ⟨?_, ?_⟩; (focus ((repeat' (first | exact trivial | (refine ⟨?_, ?_⟩; (focus ((repeat' (first | exact At.head | apply At.tail | apply At.right)); done)))))))) <;> (apply A.take 5; exact rfl; exact rfl; kernel_rfl; kernel_rfl; kernel_rfl; (apply Ok1.move; exact rfl)) <;> (apply A.take 6; exact rfl; exact rfl; kernel_rfl; kernel_rfl; kernel_rfl; (apply Ok1.extract; exact rfl; exact rfl)) <;> (apply A.take 7; exact rfl; exact rfl; kernel_rfl; kernel_rfl; kernel_rfl; (apply Ok1.extract; exact rfl; exact rfl)) <;> (apply A.one 9; kernel_rfl; exact rfl; (((apply R.store; (iterate 4 exact rfl); exact htl; exact hto; (focus ((repeat' (first | exact Upd.head | apply Upd.tail | apply Upd.right)); done)); exact setE_all htl))); apply R.nil; refine ⟨?_, ?_⟩; (focus ((repeat' (first | exact trivial | (refine ⟨?_, ?_⟩; (focus ((repeat' (first | exact At.head | apply At.tail | apply At.right)); done)))))))) <;> (apply A.take 10; exact rfl; exact rfl; kernel_rfl; kernel_rfl; kernel_rfl; (apply Ok1.assign; exact rfl)) <;> (apply A.done; kernel_rfl))); rotate_right 1; (focus (((((apply R.callE (vs := [.slice p k.length cap]); (iterate 3 exact rfl); exact Ext.none _; intro w1 hw1; exact new_ok p k.length cap k rfl (by omega) w1 (hp.chg' hw1.chg (fun _ => Off.nil _)); rintro v Lo ⟨bk2, ov2, rfl, hov2, _, rfl⟩))); apply R.nil; refine ⟨?_, ?_⟩; (focus ((repeat' (first | exact trivial | (refine ⟨?_, ?_⟩; (focus ((repeat' (first | exact At.head | apply At.tail | apply At.right)); done)))))))) <;> (apply A.call 3; exact rfl; exact rfl; kernel_rfl; kernel_rfl; kernel_rfl; exact rfl; exact rfl; (exact fun w1 _ => (to5_ok _ _ _ _).w w1)) <;> (apply A.two 4 8; kernel_rfl; exact rfl; exact rfl; rotate_left 1; (focus (((((apply R.alloc; (iterate 3 exact rfl); intro))); apply R.nil; refine ⟨?_, ?_⟩; (focus ((repeat' (first | exact trivial | (refine ⟨?_, ?_⟩; (focus ((repeat' (first | exact At.head | apply At.tail | apply At.right)); done)))))))) <;> (apply A.one 4; kernel_rfl; exact rfl; (((apply R.callV (vs := [.pointer (some ⟨bk2, 0, none⟩), .agg _]); (iterate 3 exact rfl); intro w1 hw1; exact hmk bk2 w1 (KeyR.of hov2 hw1 (Ext.mem (by (focus ((repeat' (first | exact Ext.here _ _ | apply Ext.cons)); done)))))))); apply R.nil; refine ⟨?_, ?_⟩; (focus ((repeat' (first | exact trivial | (refine ⟨?_, ?_⟩; (focus ((repeat' (first | exact At.head | apply At.tail | apply At.right)); done)))))))) <;> (apply A.take 5; exact rfl; exact rfl; kernel_rfl; kernel_rfl; kernel_rfl; (apply Ok1.move; exact rfl)) <;> (apply A.take 6; exact rfl; exact rfl; kernel_rfl; kernel_rfl; kernel_rfl; (apply Ok1.extract; exact rfl; exact rfl)) <;> (apply A.take 7; exact rfl; exact rfl; kernel_rfl; kernel_rfl; kernel_rfl; (apply Ok1.extract; exact rfl; exact rfl)) <;> (apply A.one 9; kernel_rfl; exact rfl; (((apply R.store; (iterate 4 exact rfl); exact htl; exact hto; exact Upd.head; exact setE_all htl))); apply R.nil; refine ⟨?_, ?_⟩; (focus ((repeat' (first | exact trivial | (refine ⟨?_, ?_⟩; (focus ((repeat' (first | exact At.head | apply At.tail | apply At.right)); done)))))))) <;> (apply A.take 10; exact rfl; exact rfl; kernel_rfl; kernel_rfl; kernel_rfl; (apply Ok1.assign; exact rfl)) <;> (apply A.done; kernel_rfl))); rotate_right 1; (focus (((((apply R.callV (vs := [.pointer (some ⟨bk2, 0, none⟩), .agg _]); (iterate 3 exact rfl); intro w1 hw1; exact hmk bk2 w1 (KeyR.of hov2 hw1 (Ext.mem (by (focus ((repeat' (exact Ext.here _ _)); done)))))))); apply R.nil; refine ⟨?_, ?_⟩; (focus ((repeat' (first | exact trivial | (refine ⟨?_, ?_⟩; (focus ((repeat' (first | exact At.head | apply At.tail | apply At.right)); done)))))))) <;> (apply A.take 5; exact rfl; exact rfl; kernel_rfl; kernel_rfl; kernel_rfl; (apply Ok1.move; exact rfl)) <;> (apply A.take 6; exact rfl; exact rfl; kernel_rfl; kernel_rfl; kernel_rfl; (apply Ok1.extract; exact rfl; exact rfl)) <;> (apply A.take 7; exact rfl; exact rfl; kernel_rfl; kernel_rfl; kernel_rfl; (apply Ok1.extract; exact rfl; exact rfl)) <;> (apply A.one 8; kernel_rfl; exact rfl; (((apply R.alloc; (iterate 3 exact rfl); intro))); apply R.nil; refine ⟨?_, ?_⟩; (focus ((repeat' (first | exact trivial | (refine ⟨?_, ?_⟩; (focus ((repeat' (first | exact At.head | apply At.tail | apply At.right)); done)))))))) <;> (apply A.one 9; kernel_rfl; exact rfl; (((apply R.store; (iterate 4 exact rfl); exact htl; exact hto; exact Upd.head; exact setE_all htl))); apply R.nil; refine ⟨?_, ?_⟩; (focus ((repeat' (first | exact trivial | (refine ⟨?_, ?_⟩; (focus ((repeat' (first | exact At.head | apply At.tail | apply At.right)); done)))))))) <;> (apply A.take 10; exact rfl; exact rfl; kernel_rfl; kernel_rfl; kernel_rfl; (apply Ok1.assign; exact rfl)) <;> (apply A.done; kernel_rfl))))))))) | apply T.seq | apply T.region | apply T.skip | apply T.ret | (apply T.cond_f; exact rfl)))
  all_goals apply RetOk.c
  all_goals first | exact rfl | skip
  all_goals (apply Ld.ownk; exact rfl; exact rfl; (focus ((repeat' (first | exact At.head | apply At.tail | apply At.right)); done)); exact subE_all htl)
end Go.Proofs.YtidjnjlejhoalaaGreat
set_option linter.unusedSimpArgs false
set_option linter.unusedVariables false
namespace Go.Proofs.YtidjnjlejhoalaaGreat
open Go.RowKit Go.Shelf
set_option maxRecDepth 100000
structure En where
  boot : Int
  ctr : Int
  bits : Int
  key : Option Addr
  asked : Int
def En.v (e : En) : List Value := [.int .i64 e.boot, .int .i64 e.ctr, .int .u64 e.bits, .pointer e.key, .int .i64 e.asked]
structure BE where
  c : Cl
  blk : Nat
  born : Nat
  e : En
abbrev BS := List BE
def vvP (a : Nat) : Value := .pointer (some ⟨a, 0, none⟩)
def bms (es : BS) : Ms Cl Nat := es.map fun x => (x.c, x.blk, x.born)
def bls (es : BS) : Lst := es.map fun x => (x.blk, .cells ⟨x.e.v⟩ 309 (0, 0))
def BL (b bm : Nat) (es : BS) (clk : Nat) : Lst := (b, .cells ⟨[.map (some bm)]⟩ 307 (0, 0)) :: (bm, mobj kvC vvP (bms es) clk) :: bls es
theorem New_ok (w : World) : CallM Tryz.prog 164 [] [] w fun v L => ∃ b bm, v = .pointer (some ⟨b, 0, none⟩) ∧ L = BL b bm [] 0 := by
  refine enterK (tb := tb) Tryz.func164 rfl Tryz.ntmps164 rfl ?_
  repeat' (first | (apply R.is1; first | (apply R.makeMap kvC vvP; exact rfl; intro bm) | (apply R.pure; exact rfl; first | (apply Ok1.assign; exact rfl) | (apply Ok1.build; (iterate 5 exact rfl))) | (apply R.box; (iterate 3 exact rfl); intro)) | apply R.nil | (apply T.is; first | apply T.seq | apply T.region | apply T.ret))
  (apply RetOk.t; exact rfl)
  exact ⟨_, by (focus ((repeat' (first | exact Keep.nil _ | exact Ext.one _ _ | apply Keep.cons)); done)), _, bm, rfl, rfl⟩
end Go.Proofs.YtidjnjlejhoalaaGreat
set_option linter.unusedSimpArgs false
set_option linter.unusedVariables false
namespace Go.Proofs.YtidjnjlejhoalaaGreat
open Go.RowKit Go.Shelf
set_option maxRecDepth 100000
section
open Classical in
theorem Ok1.neqFz {X : Cx} {σ : Env} {L : Lst} {xs ys : List Value} {t : TypeId} {r : TRow} {ks : List TK} {x y : Operand} {ty : TypeId} {pos : String} {af : Array Edge} {d : Option Nat} {g : Option (Nat × Bool)} {ty2 : TypeId} {q : Bool} (hx : ev σ x = some (.agg ⟨xs⟩)) (hy : ev σ y = some (.agg ⟨ys⟩)) (ht : X.tb.row t = some r) (hk : r.k.agg = some true) (hf : flatE X.tb 8 t = some ks) (h1 : allOk ks xs = true) (h2 : allOk ks ys = true) (hq : xs ≠ ys ↔ q = true) :
    Ok1 X ⟨d, .binOp .neq t x y ty2, ty, pos, af, g⟩ σ L (.bool q) := by
  have h := Ok1.neqF (X := X) (L := L) (ty2 := ty2) (d := d) (ty := ty) (pos := pos) (af := af) (g := g) hx hy ht hk hf h1 h2
  have e : ∀ (i : Decidable (xs ≠ ys)), @decide (xs ≠ ys) i = q := by intro i; cases q <;> simp_all
  rw [e] at h
  exact h
end
theorem pkind_ok (k : Int) : CallP Tryz.prog 178 [.int .i64 k] (.bool (decide (0 < k ∧ k < 15))) := by
  refine enterP (tb := tb) Tryz.func178 rfl Tryz.ntmps178 rfl fun w => ?_
  by_cases h1 : 0 < k
  case neg =>
    rw [decide_eq_false (by omega)]
    repeat' (first | (apply R.is1; first | (apply R.isBin; (apply R.pure; exact rfl; (apply Ok1.gtr_f; exact rfl; exact rfl; omega))) | (apply R.pure; exact rfl; first | (apply Ok1.move; exact rfl) | (apply Ok1.assign; exact rfl) | (apply Ok1.pick_f; exact rfl; exact rfl))) | (apply R.isG; (apply R.guard_not; (iterate 3 exact rfl))) | apply R.nil | (apply T.is; first | apply T.seq | apply T.region | apply T.ret))
    (apply RetOk.t; exact rfl)
    rfl
  by_cases h2 : k < 15
  case neg =>
    rw [decide_eq_false (by omega)]
    repeat' (first | (apply R.is1; first | (apply R.isBin; (apply R.pure; exact rfl; first | (apply Ok1.lss_f; exact rfl; exact rfl; omega) | (apply Ok1.gtr_t; exact rfl; exact rfl; omega))) | (apply R.pure; exact rfl; first | (apply Ok1.move; exact rfl) | (apply Ok1.assign; exact rfl) | (apply Ok1.pick_t; exact rfl; exact rfl))) | (apply R.isG; (apply R.guard_run; exact rfl; exact rfl)) | apply R.nil | (apply T.is; first | apply T.seq | apply T.region | apply T.ret))
    (apply RetOk.t; exact rfl)
    rfl
  rw [decide_eq_true ⟨h1, h2⟩]
  repeat' (first | (apply R.is1; first | (apply R.isBin; (apply R.pure; exact rfl; first | (apply Ok1.lss_t; exact rfl; exact rfl; omega) | (apply Ok1.gtr_t; exact rfl; exact rfl; omega))) | (apply R.pure; exact rfl; first | (apply Ok1.move; exact rfl) | (apply Ok1.assign; exact rfl) | (apply Ok1.pick_t; exact rfl; exact rfl))) | (apply R.isG; (apply R.guard_run; exact rfl; exact rfl)) | apply R.nil | (apply T.is; first | apply T.seq | apply T.region | apply T.ret))
  (apply RetOk.t; exact rfl)
  rfl
theorem pplain_ok (k : Int) : CallP Tryz.prog 155 [.int .i64 k] (.bool (decide (k = 1 ∨ k = 2))) := by
  refine enterP (tb := tb) Tryz.func155 rfl Tryz.ntmps155 rfl fun w => ?_
  by_cases h1 : k = 1
  · rw [decide_eq_true (.inl h1)]
    repeat' (first | (apply R.is1; first | (apply R.isBin; (apply R.pure; exact rfl; (apply Ok1.eql_t; exact rfl; exact rfl; omega))) | (apply R.pure; exact rfl; first | (apply Ok1.move; exact rfl) | (apply Ok1.assign; exact rfl) | (apply Ok1.pick_t; exact rfl; exact rfl))) | (apply R.isG; (apply R.guard_not; (iterate 3 exact rfl))) | apply R.nil | (apply T.is; first | apply T.seq | apply T.region | apply T.ret))
    (apply RetOk.t; exact rfl)
    rfl
  by_cases h2 : k = 2
  · rw [decide_eq_true (.inr h2)]
    repeat' (first | (apply R.is1; first | (apply R.isBin; (apply R.pure; exact rfl; first | (apply Ok1.eql_t; exact rfl; exact rfl; omega) | (apply Ok1.eql_f; exact rfl; exact rfl; omega))) | (apply R.pure; exact rfl; first | (apply Ok1.move; exact rfl) | (apply Ok1.assign; exact rfl) | (apply Ok1.pick_f; exact rfl; exact rfl))) | (apply R.isG; (apply R.guard_run; exact rfl; exact rfl)) | apply R.nil | (apply T.is; first | apply T.seq | apply T.region | apply T.ret))
    (apply RetOk.t; exact rfl)
    rfl
  rw [decide_eq_false (by omega)]
  repeat' (first | (apply R.is1; first | (apply R.isBin; (apply R.pure; exact rfl; (apply Ok1.eql_f; exact rfl; exact rfl; omega))) | (apply R.pure; exact rfl; first | (apply Ok1.move; exact rfl) | (apply Ok1.assign; exact rfl) | (apply Ok1.pick_f; exact rfl; exact rfl))) | (apply R.isG; (apply R.guard_run; exact rfl; exact rfl)) | apply R.nil | (apply T.is; first | apply T.seq | apply T.region | apply T.ret))
  (apply RetOk.t; exact rfl)
  rfl
/-- A packet's cells. -/
def pkC (k : Int) (c : Cl) (to a b : Int) (p : Option Addr) (n cap : Nat) (t : List Int) : List Value := .int .i64 k :: .int .i64 c.id :: .int .i64 c.roles :: .int .i64 c.exp :: .int .i64 c.ser :: .int .i64 to :: .int .i64 a :: .int .i64 b :: .slice p n cap :: u8s t
theorem pk_len (k : Int) (c : Cl) (to a b : Int) (p : Option Addr) (n cap : Nat) {t : List Int} (ht : t.length = 32) : (pkC k c to a b p n cap t).length = 41 := by simp [pkC, u8s_len, ht]
theorem pk_one (k : Int) (c : Cl) (to a b : Int) (p : Option Addr) (n cap : Nat) (t : List Int) : (pkC k c to a b p n cap t).all Value.oneCell' = true := by
  show (true && (u8s t).all Value.oneCell') = true
  rw [u8s_one]; rfl
theorem pk_tag (k : Int) (c : Cl) (to a b : Int) (p : Option Addr) (n cap : Nat) {t : List Int} (ht : t.length = 32) : subE (pkC k c to a b p n cap t) 9 32 = some (u8s t) := by
  show subE (u8s t) 0 32 = some (u8s t)
  exact subE_all (by rw [u8s_len, ht])
theorem pk_set (k : Int) (c : Cl) (to a b : Int) (p : Option Addr) (n cap : Nat) {t t2 : List Int} (ht : t.length = 32) (h2 : t2.length = 32) : setE (pkC k c to a b p n cap t) 9 (u8s t2) = some (pkC k c to a b p n cap t2) := by
  have h := setE_off [.int .i64 k, .int .i64 c.id, .int .i64 c.roles, .int .i64 c.exp, .int .i64 c.ser, .int .i64 to, .int .i64 a, .int .i64 b, .slice p n cap] (u8s t2) (u8s t) (by rw [u8s_len, u8s_len, ht, h2]; exact Nat.le_refl _)
  rw [List.drop_of_length_le (by rw [u8s_len, u8s_len, ht, h2]; exact Nat.le_refl _), List.append_nil] at h
  exact h
theorem u8s_inj : ∀ {a b : List Int}, u8s a = u8s b → a = b
  | [], [], _ => rfl
  | [], y :: b, h => by cases h
  | x :: a, [], h => by cases h
  | x :: a, y :: b, h => by
    simp only [u8s, List.map_cons, List.cons.injEq, Value.int.injEq, true_and] at h
    have h2 : u8s a = u8s b := h.2
    rw [h.1, u8s_inj h2]
theorem u8s_ok (n : Nat) : ∀ {a : List Int}, a.length = n → allOk (List.replicate n (TK.int .u8)) (u8s a) = true := by
  induction n with
  | zero => intro a h; rw [List.eq_nil_of_length_eq_zero h]; rfl
  | succ n ih =>
    intro a h
    match a, h with
    | x :: a, h =>
      have := ih (a := a) (by simpa using h)
      simp only [List.replicate_succ, u8s, List.map_cons] at this ⊢
      exact this
instance (c : Cl) : Decidable c.right := by unfold Cl.right; infer_instance
instance (a b : Int) : Decidable (NR a b) := by unfold NR; infer_instance
/-- What is wrong with a packet. -/
def pckE (k : Int) (c : Cl) (to a b : Int) (n : Nat) (t : List Int) : Int := if ¬ (0 < k ∧ k < 15) then 13 else if ¬ (c.right ∧ 0 ≤ to ∧ to ≤ 65535 ∧ NR a b) then 10 else if 512 < n then 2 else if (k = 1 ∨ k = 2) ∧ t ≠ zI 32 then 3 else 0
theorem pck_key (k : Int) (c : Cl) (to a b : Int) (n : Nat) (t : List Int) {qk qp : Bool} {ec en E : Int} (h1 : qk = decide (0 < k ∧ k < 15)) (h2 : ec = if c.right then 0 else 10) (h3 : en = if NR a b then 0 else 10) (h4 : qp = decide (k = 1 ∨ k = 2)) (hE : E = pckE k c to a b n t) :
    (qk = false ∧ E = 13) ∨ (qk = true ∧ ec = 10 ∧ E = 10) ∨ (qk = true ∧ ec = 0 ∧ to < 0 ∧ E = 10) ∨ (qk = true ∧ ec = 0 ∧ 65535 < to ∧ E = 10) ∨ (qk = true ∧ ec = 0 ∧ (0 ≤ to ∧ to ≤ 65535) ∧ en = 10 ∧ E = 10) ∨ (qk = true ∧ ec = 0 ∧ (0 ≤ to ∧ to ≤ 65535) ∧ en = 0 ∧ 512 < n ∧ E = 2) ∨ (qk = true ∧ ec = 0 ∧ (0 ≤ to ∧ to ≤ 65535) ∧ en = 0 ∧ n ≤ 512 ∧ qp = true ∧ t ≠ zI 32 ∧ E = 3) ∨ (qk = true ∧ ec = 0 ∧ (0 ≤ to ∧ to ≤ 65535) ∧ en = 0 ∧ n ≤ 512 ∧ qp = true ∧ t = zI 32 ∧ E = 0) ∨ (qk = true ∧ ec = 0 ∧ (0 ≤ to ∧ to ≤ 65535) ∧ en = 0 ∧ n ≤ 512 ∧ qp = false ∧ E = 0) := by
  unfold pckE at hE
  by_cases g1 : 0 < k ∧ k < 15
  case neg =>
    rw [if_pos g1] at hE
    exact .inl ⟨by rw [h1]; exact decide_eq_false g1, hE⟩
  have q1 : qk = true := by rw [h1]; exact decide_eq_true g1
  rw [if_neg (fun g => g g1)] at hE
  by_cases g2 : c.right
  case neg =>
    rw [if_neg g2] at h2
    rw [if_pos (fun g => g2 g.1)] at hE
    exact .inr (.inl ⟨q1, h2, hE⟩)
  rw [if_pos g2] at h2
  by_cases g3 : 0 ≤ to
  case neg =>
    rw [if_pos (fun g => g3 g.2.1)] at hE
    exact .inr (.inr (.inl ⟨q1, h2, by omega, hE⟩))
  by_cases g4 : to ≤ 65535
  case neg =>
    rw [if_pos (fun g => g4 g.2.2.1)] at hE
    exact .inr (.inr (.inr (.inl ⟨q1, h2, by omega, hE⟩)))
  by_cases g5 : NR a b
  case neg =>
    rw [if_neg g5] at h3
    rw [if_pos (fun g => g5 g.2.2.2)] at hE
    exact .inr (.inr (.inr (.inr (.inl ⟨q1, h2, ⟨g3, g4⟩, h3, hE⟩))))
  rw [if_pos g5] at h3
  rw [if_neg (fun g => g ⟨g2, g3, g4, g5⟩)] at hE
  by_cases g6 : 512 < n
  · rw [if_pos g6] at hE
    exact .inr (.inr (.inr (.inr (.inr (.inl ⟨q1, h2, ⟨g3, g4⟩, h3, g6, hE⟩)))))
  rw [if_neg g6] at hE
  have g6' : n ≤ 512 := by omega
  by_cases g7 : k = 1 ∨ k = 2
  · have q2 : qp = true := by rw [h4]; exact decide_eq_true g7
    by_cases g8 : t = zI 32
    · rw [if_neg (fun g => g.2 g8)] at hE
      exact .inr (.inr (.inr (.inr (.inr (.inr (.inr (.inl ⟨q1, h2, ⟨g3, g4⟩, h3, g6', q2, g8, hE⟩)))))))
    · rw [if_pos ⟨g7, g8⟩] at hE
      exact .inr (.inr (.inr (.inr (.inr (.inr (.inl ⟨q1, h2, ⟨g3, g4⟩, h3, g6', q2, g8, hE⟩))))))
  · have q2 : qp = false := by rw [h4]; exact decide_eq_false g7
    rw [if_neg (fun g => g7 g.1)] at hE
    exact .inr (.inr (.inr (.inr (.inr (.inr (.inr (.inr ⟨q1, h2, ⟨g3, g4⟩, h3, g6', q2, hE⟩)))))))
theorem pcheck_ok (k : Int) (c : Cl) (to a b : Int) (p : Option Addr) (n cap : Nat) (t : List Int) (ht : t.length = 32) : CallP Tryz.prog 180 [.agg ⟨pkC k c to a b p n cap t⟩] (.int .i64 (pckE k c to a b n t)) := by
  have hk := pkind_ok k
  have hp := pplain_ok k
  have hc := check_ok c.id c.roles c.exp c.ser
  have hn := nonce_ok a b
  obtain ⟨qk, hqk⟩ : ∃ q, q = decide (0 < k ∧ k < 15) := ⟨_, rfl⟩
  obtain ⟨qp, hqp⟩ : ∃ q, q = decide (k = 1 ∨ k = 2) := ⟨_, rfl⟩
  obtain ⟨ec, hec⟩ : ∃ e : Int, e = if c.right then 0 else 10 := ⟨_, rfl⟩
  obtain ⟨en, hen⟩ : ∃ e : Int, e = if NR a b then 0 else 10 := ⟨_, rfl⟩
  obtain ⟨E, hE⟩ : ∃ e, e = pckE k c to a b n t := ⟨_, rfl⟩
  have key := pck_key k c to a b n t hqk hec hen hqp hE
  rw [← hqk] at hk
  rw [← hqp] at hp
  rw [← hE]
  replace hc : CallP Tryz.prog 170 [.agg ⟨[.int .i64 c.id, .int .i64 c.roles, .int .i64 c.exp, .int .i64 c.ser]⟩] (.int .i64 ec) := by rw [hec]; exact hc
  replace hn : CallP Tryz.prog 184 [.agg ⟨[.int .i64 a, .int .i64 b]⟩] (.int .i64 en) := by rw [hen]; exact hn
  have htag := pk_tag k c to a b p n cap ht
  have hoz : allOk (List.replicate 32 (TK.int .u8)) (u8s (zI 32)) = true := rfl
  have hot := u8s_ok 32 ht
  clear hqk hqp hec hen hE
  refine enterP (tb := tb) Tryz.func180 rfl Tryz.ntmps180 rfl fun w => ?_
  simp only [pkC] at htag ⊢
  rcases key with ⟨rfl, rfl⟩ | ⟨rfl, rfl, rfl⟩ | ⟨rfl, rfl, g3, rfl⟩ | ⟨rfl, rfl, g3, rfl⟩ | ⟨rfl, rfl, g3, rfl, rfl⟩ | ⟨rfl, rfl, g3, rfl, g6, rfl⟩ | ⟨rfl, rfl, g3, rfl, g6, rfl, g8, rfl⟩ | ⟨rfl, rfl, g3, rfl, g6, rfl, g8, rfl⟩ | ⟨rfl, rfl, g3, rfl, g6, rfl, rfl⟩
  all_goals repeat' (first | (apply R.is1; first | (apply R.isBin; (apply R.pure; exact rfl; first | (apply Ok1.neqFz (q := true) (ks := List.replicate 32 (TK.int .u8)) (ys := u8s (zI 32)); (iterate 5 exact rfl); exact hot; exact hoz; exact ⟨fun _ => rfl, fun _ h => g8 (u8s_inj h)⟩) | (apply Ok1.neqFz (q := false) (ks := List.replicate 32 (TK.int .u8)) (ys := u8s (zI 32)); (iterate 5 exact rfl); exact hot; exact hoz; exact ⟨fun h => absurd (congrArg u8s g8) h, fun h => by cases h⟩) | (apply Ok1.lss_t; exact rfl; exact rfl; omega) | (apply Ok1.lss_f; exact rfl; exact rfl; omega) | (apply Ok1.gtr_t; exact rfl; exact rfl; omega) | (apply Ok1.gtr_f; exact rfl; exact rfl; omega) | (apply Ok1.neq_t; exact rfl; exact rfl; omega) | (apply Ok1.neq_f; exact rfl; exact rfl; omega))) | (apply R.isCall; first | apply R.callP rfl rfl rfl hk | apply R.callP rfl rfl rfl hc | apply R.callP rfl rfl rfl hn | apply R.callP rfl rfl rfl hp | (apply R.pure; exact rfl; (apply Ok1.lenS; (iterate 3 exact rfl)))) | (apply R.pure; exact rfl; first | (apply Ok1.load; exact rfl; first | (apply Ld.own1; exact rfl; exact rfl; exact At.head; exact rfl) | (apply Ld.ownk; exact rfl; exact rfl; exact At.head; exact rfl) | (apply Ld.ownk; exact rfl; exact rfl; exact At.head; exact htag)) | (apply Ok1.move; exact rfl) | (apply Ok1.fieldAddr; (iterate 5 exact rfl)) | (apply Ok1.assign; exact rfl) | (apply Ok1.pick_t; exact rfl; exact rfl) | (apply Ok1.pick_f; exact rfl; exact rfl) | (apply Ok1.not_t; exact rfl) | (apply Ok1.not_f; exact rfl) | (apply Ok1.buildA; (iterate 6 exact rfl))) | (apply R.box; (iterate 3 exact rfl); intro)) | (apply R.isG; first | (apply R.guard_run; exact rfl; exact rfl) | (apply R.guard_not; (iterate 3 exact rfl))) | apply R.nil | (apply T.is; first | apply T.seq | apply T.region | apply T.block | apply T.skip | apply T.ret | (apply T.cond_t; exact rfl) | (apply T.cond_f; exact rfl)))
  all_goals (apply RetOk.t; exact rfl)
  all_goals rfl
end Go.Proofs.YtidjnjlejhoalaaGreat
set_option linter.unusedSimpArgs false
set_option linter.unusedVariables false
namespace Go.Proofs.YtidjnjlejhoalaaGreat
open Go.RowKit Go.Shelf
set_option maxRecDepth 100000
/-- A field of bytes. -/
def fldB (p : Option Addr) (n cap : Nat) : List Value := [.int .i64 4, .int .i64 0, .slice p n cap]
theorem wcheckB_ok (p : Option Addr) (n cap : Nat) (hn : n ≤ 512) : CallP Tryz.prog 293 [.agg ⟨fldB p n cap⟩] (.int .i64 0) := by
  unfold fldB
  refine enterP (tb := tb) Tryz.func293 rfl Tryz.ntmps293 rfl fun w => ?_
  repeat' (first | (apply R.is1; first | (apply R.isBin; (apply R.pure; exact rfl; first | (apply Ok1.lss_f; exact rfl; exact rfl; omega) | (apply Ok1.gtr_f; exact rfl; exact rfl; omega) | (apply Ok1.eql_t; exact rfl; exact rfl; omega) | (apply Ok1.neq_f; exact rfl; exact rfl; omega))) | (apply R.isCall; (apply R.pure; exact rfl; (apply Ok1.lenS; (iterate 3 exact rfl)))) | (apply R.pure; exact rfl; first | (apply Ok1.move; exact rfl) | (apply Ok1.fieldAddr; (iterate 5 exact rfl)) | (apply Ok1.load; exact rfl; (apply Ld.own1; exact rfl; exact rfl; exact At.head; exact rfl)) | (apply Ok1.assign; exact rfl) | (apply Ok1.pick_t; exact rfl; exact rfl) | (apply Ok1.pick_f; exact rfl; exact rfl)) | (apply R.box; (iterate 3 exact rfl); intro)) | (apply R.isG; first | (apply R.guard_run; exact rfl; exact rfl) | (apply R.guard_not; (iterate 3 exact rfl))) | apply R.nil | (apply T.is; first | (apply T.drawC (id := 5) [0] (by decide); ((apply A.take 0; exact rfl; exact rfl; kernel_rfl; kernel_rfl; kernel_rfl; (apply Ok1.fieldAddr; (iterate 5 exact rfl))) <;> (apply A.take 1; exact rfl; exact rfl; kernel_rfl; kernel_rfl; kernel_rfl; (apply Ok1.load; exact rfl; (apply Ld.own1; exact rfl; exact rfl; exact At.head; exact rfl))) <;> ((apply A.take 2; exact rfl; exact rfl; kernel_rfl; kernel_rfl; kernel_rfl; (apply Ok1.lss_f; exact rfl; exact rfl; omega))) <;> (apply A.take 3; exact rfl; exact rfl; kernel_rfl; kernel_rfl; kernel_rfl; (apply Ok1.move; exact rfl)) <;> ((apply A.takeG 4; exact rfl; exact rfl; rotate_left 3; exact rfl; exact rfl; rotate_right 3; kernel_rfl; kernel_rfl; kernel_rfl; (apply Ok1.fieldAddr; (iterate 5 exact rfl)))) <;> ((apply A.takeG 5; exact rfl; exact rfl; rotate_left 3; exact rfl; exact rfl; rotate_right 3; kernel_rfl; kernel_rfl; kernel_rfl; (apply Ok1.load; exact rfl; (apply Ld.own1; exact rfl; exact rfl; exact At.head; exact rfl)))) <;> ((apply A.takeG 6; exact rfl; exact rfl; rotate_left 3; exact rfl; exact rfl; rotate_right 3; kernel_rfl; kernel_rfl; kernel_rfl; (apply Ok1.lss_f; exact rfl; exact rfl; omega))) <;> ((apply A.takeG 7; exact rfl; exact rfl; rotate_left 3; exact rfl; exact rfl; rotate_right 3; kernel_rfl; kernel_rfl; kernel_rfl; (apply Ok1.move; exact rfl))) <;> ((apply A.skipG 8; exact rfl; exact rfl; rotate_left 3; exact rfl; exact rfl; rotate_right 3; kernel_rfl; kernel_rfl; kernel_rfl)) <;> ((apply A.skipG 9; exact rfl; exact rfl; rotate_left 3; exact rfl; exact rfl; rotate_right 3; kernel_rfl; kernel_rfl; kernel_rfl)) <;> ((apply A.skipG 10; exact rfl; exact rfl; rotate_left 3; exact rfl; exact rfl; rotate_right 3; kernel_rfl; kernel_rfl; kernel_rfl)) <;> ((apply A.skipG 11; exact rfl; exact rfl; rotate_left 3; exact rfl; exact rfl; rotate_right 3; kernel_rfl; kernel_rfl; kernel_rfl)) <;> (apply A.one 12; kernel_rfl; exact rfl; (((apply R.isG; (apply R.guard_not; (iterate 3 exact rfl))))); apply R.nil; refine ⟨?_, ?_⟩; (focus ((repeat' (first | exact trivial | (refine ⟨?_, ?_⟩; exact At.head)))))) <;> ((apply A.skipG 13; exact rfl; exact rfl; rotate_left 3; exact rfl; exact rfl; rotate_right 3; kernel_rfl; kernel_rfl; kernel_rfl)) <;> ((apply A.skipG 14; exact rfl; exact rfl; rotate_left 3; exact rfl; exact rfl; rotate_right 3; kernel_rfl; kernel_rfl; kernel_rfl)) <;> ((apply A.skipG 15; exact rfl; exact rfl; rotate_left 3; exact rfl; exact rfl; rotate_right 3; kernel_rfl; kernel_rfl; kernel_rfl)) <;> ((apply A.takeG 16; exact rfl; exact rfl; rotate_left 3; exact rfl; exact rfl; rotate_right 3; kernel_rfl; kernel_rfl; kernel_rfl; (apply Ok1.pick_f; exact rfl; exact rfl))) <;> (apply A.take 17; exact rfl; exact rfl; kernel_rfl; kernel_rfl; kernel_rfl; (apply Ok1.pick_f; exact rfl; exact rfl)) <;> (apply A.take 18; exact rfl; exact rfl; kernel_rfl; kernel_rfl; kernel_rfl; (apply Ok1.assign; exact rfl)) <;> (apply A.done; kernel_rfl))) | apply T.seq | apply T.region | apply T.block | apply T.skip | apply T.ret | (apply T.cond_f; exact rfl)))
  (apply RetOk.t; exact rfl)
  rfl
theorem num1_ok (n : Nat) (h1 : n ≤ 512) (w : World) : CallM Tryz.prog 308 [.int .i64 1, .int .i64 n] [] w fun v L => ∃ ov, OvOk 1 ov 2 (u8s (numI 1 n)) ∧ ov.isSome = true ∧ v = slV ov 2 ∧ L = blkL 5 ov (u8s (numI 1 n)) := by
  refine (number_ok 1 n (.inr (.inl rfl)) (by omega) (by omega) w).imp ?_
  rintro v L ⟨b, rfl, rfl⟩
  exact ⟨some (b, 0, []), ⟨rfl, rfl⟩, rfl, rfl, by simp [blkL]⟩
theorem foutB_ok (p : Option Addr) (n cap : Nat) (bs : List Int) (hn : n = bs.length) (h : n ≤ 512) (w : World) (hr : RdSl w p u8V bs) : CallM Tryz.prog 294 [.agg ⟨fldB p n cap⟩] [] w fun v L => ∃ ov, OvOk 1 ov (2 + n) (u8s (numI 1 n ++ bs)) ∧ v = .slice (ovp ov) (2 + n) (ovc ov (2 + n)) ∧ L = blkL 5 ov (u8s (numI 1 n ++ bs)) := by
  have hnum := fun w1 => num1_ok n h w1
  unfold fldB
  refine enterK (tb := tb) Tryz.func294 rfl Tryz.ntmps294 rfl ?_
  repeat' (first | (apply R.is1; first | (apply R.isBin; (apply R.pure; exact rfl; (apply Ok1.eql_t; exact rfl; exact rfl; omega))) | (apply R.pure; exact rfl; first | (apply Ok1.fieldAddr; (iterate 5 exact rfl)) | (apply Ok1.load; exact rfl; (apply Ld.own1; exact rfl; exact rfl; exact At.head; exact rfl)) | (apply Ok1.assign; exact rfl)) | (apply R.box; (iterate 3 exact rfl); intro)) | apply R.nil | (apply T.is; first | (apply T.drawC (id := 2) [0] (by decide); ((apply A.take 0; exact rfl; exact rfl; kernel_rfl; kernel_rfl; kernel_rfl; (apply Ok1.fieldAddr; (iterate 5 exact rfl))) <;> (apply A.take 1; exact rfl; exact rfl; kernel_rfl; kernel_rfl; kernel_rfl; (apply Ok1.load; exact rfl; (apply Ld.own1; exact rfl; exact rfl; exact At.head; exact rfl))) <;> (apply A.take 2; exact rfl; exact rfl; kernel_rfl; kernel_rfl; kernel_rfl; (apply Ok1.lenS; (iterate 3 exact rfl))) <;> (apply A.take 4; exact rfl; exact rfl; kernel_rfl; kernel_rfl; kernel_rfl; (apply Ok1.fieldAddr; (iterate 5 exact rfl))) <;> (apply A.take 5; exact rfl; exact rfl; kernel_rfl; kernel_rfl; kernel_rfl; (apply Ok1.load; exact rfl; (apply Ld.own1; exact rfl; exact rfl; exact At.head; exact rfl))) <;> (apply A.one 3; kernel_rfl; exact rfl; (((apply R.callE; (iterate 3 exact rfl); exact Ext.none _; intro w1 hw1; exact hnum w1; rintro v Lo ⟨ova, hova, hsa, rfl, rfl⟩))); apply R.nil; refine ⟨?_, ?_⟩; (focus ((repeat' (first | exact trivial | (refine ⟨?_, ?_⟩; (focus ((repeat' (first | exact At.head | apply At.right)); done)))))))) <;> (apply A.one 6; kernel_rfl; exact rfl; (((apply R.appendRd (xs := bs) (v := u8V) (sz := 1) (ov := ova) (n := 2) (old := u8s (numI 1 n)); (iterate 12 exact rfl); exact hova; (focus ((repeat' (exact Ext.here _ _)); done)); exact hn; exact u8V_len; exact rfl; (intro w1 hw1; exact hr.chg hw1.chg (Off.nil _)); (focus (rw [fl_u8]; exact u8s_one bs)); omega; intro ov1 hov1 hsome; rw [fl_u8, ← u8s_app]; rw [fl_u8, ← u8s_app] at hov1))); apply R.nil; refine ⟨?_, ?_⟩; (focus ((repeat' (first | exact trivial | (refine ⟨?_, ?_⟩; (focus ((repeat' (first | exact At.head | apply At.right)); done)))))))) <;> (apply A.take 7; exact rfl; exact rfl; kernel_rfl; kernel_rfl; kernel_rfl; (apply Ok1.assign; exact rfl)) <;> (apply A.done; kernel_rfl))) | apply T.seq | apply T.region | apply T.ret | (apply T.cond_t; exact rfl)))
  (apply RetOk.t; exact rfl)
  exact ⟨_, by (focus ((repeat' (first | exact Ext.here _ _ | apply Keep.last)); done)), ov1, hov1, slV_eq hov1, rfl⟩
theorem putB_ok (bw : Nat) (ov : Ov) (bs : List Int) (hov : OvOk 1 ov bs.length (u8s bs)) (p : Option Addr) (n cap : Nat) (ys : List Int) (hn : n = ys.length) (h : n ≤ 512) (hbig : bs.length ≤ 500) (bf : Nat) (fz : Nat × Nat) (e : TypeId) (w : World) (hb : w.heap[bf]? = some (.cells ⟨fldB p n cap⟩ e fz)) (hoff : bf ∉ blks (WL bw ov bs)) (hr : RdSl w p u8V ys) (hq : ys ≠ [] → Off p (blks (WL bw ov bs))) :
    CallM Tryz.prog 246 [.pointer (some ⟨bw, 0, none⟩), .slice (some ⟨bf, 0, none⟩) 1 1] (WL bw ov bs) w (WRes bw (bs ++ (numI 1 n ++ ys))) := by
  have hck := wcheckB_ok p n cap h
  have hfo := fun w1 (hc : Chg (blks (WL bw ov bs)) w w1) => foutB_ok p n cap ys hn h w1 (hr.chg' hc hq)
  have hnl : 2 + n = (numI 1 n ++ ys).length := by rw [List.length_append, hn]; rfl
  unfold WRes
  generalize numI 1 n ++ ys = nb at *
  refine enterK (tb := tb) Tryz.func246 rfl Tryz.ntmps246 rfl ?_
  obtain ⟨S, hS⟩ : ∃ S, S = blks (WL bw ov bs) := ⟨_, rfl⟩
  rw [← hS] at hoff hfo ⊢
  simp only [WL, fldB] at hb hck hfo ⊢
  clear hS hq hr
  repeat' (first | (apply R.is1; first | (apply R.isBin; (apply R.pure; exact rfl; first | (apply Ok1.add64; exact rfl; exact rfl; omega; omega) | (apply Ok1.lss_t; exact rfl; exact rfl; omega) | (apply Ok1.lss_f; exact rfl; exact rfl; omega) | (apply Ok1.gtr_f; exact rfl; exact rfl; omega) | (apply Ok1.neq_f; exact rfl; exact rfl; omega) | (apply Ok1.eqlP; (iterate 5 exact rfl)))) | (apply R.isCall; first | apply R.callP rfl rfl rfl hck | (apply R.callE; (iterate 3 exact rfl); exact Ext.none _; intro w1 hw1; exact hfo w1 hw1.chg; rintro v Lo ⟨ov7, hov7, rfl, rfl⟩) | (apply R.pure; exact rfl; apply Ok1.lenOv; (iterate 3 exact rfl); exact hov) | (apply R.appendRd (xs := nb) (v := u8V) (sz := 1) (ov := ov) (n := bs.length) (old := u8s bs); (iterate 12 exact rfl); exact hov; (focus ((repeat' (first | exact Ext.all _ | apply Ext.cons | apply Ext.app)); done)); exact hnl; exact u8V_len; exact rfl; (intro w1 hw1; exact RdSl.own' hw1 (Ext.mem (by rw [fl_u8]; (focus ((repeat' (exact Ext.here _ _)); done)))) (by rw [fl_u8, ← hnl]; exact hov7) u8V_len); (focus (rw [fl_u8]; exact u8s_one nb)); omega; intro ov1 hov1 hsome; rw [hnl, fl_u8, ← u8s_app, ← List.length_append]; rw [hnl, fl_u8, ← u8s_app, ← List.length_append] at hov1) | (apply R.pure; exact rfl; (apply Ok1.lenS; (iterate 3 exact rfl)))) | (apply R.pure; exact rfl; first | (apply Ok1.move; exact rfl) | (apply Ok1.fieldAddr; (iterate 5 exact rfl)) | (apply Ok1.load; exact rfl; first | (apply Ld.own1; exact rfl; exact rfl; (focus ((repeat' (first | exact At.head | apply At.tail | apply At.right)); done)); exact rfl) | (apply Ld.ownk; exact rfl; exact rfl; (focus ((repeat' (first | exact At.head | apply At.tail)); done)); exact rfl) | (apply Ld.blkk; exact rfl; exact rfl; assumption; (assumption); exact rfl)) | (apply Ok1.assign; exact rfl) | (apply Ok1.indexAddr; (iterate 5 exact rfl); omega; omega) | (apply Ok1.nilCheck; exact rfl)) | (apply R.alloc; (iterate 3 exact rfl); intro)) | (apply R.is0; first | (apply R.store; (iterate 3 exact rfl); exact cellsE_slV _ _; exact rfl; exact one_slV _ _; (focus ((repeat' (first | exact Upd.head | apply Upd.tail | apply Upd.right)); done)); exact rfl) | (apply R.store; (iterate 6 exact rfl); (focus ((repeat' (first | exact Upd.head | apply Upd.tail)); done)); exact rfl)) | apply R.nil | (apply T.is; first | apply T.rounds 3 | apply T.seq | apply T.region | apply T.block | apply T.scope | apply T.label | apply T.skip | apply T.exit | apply T.ret | (apply T.cond_t; exact rfl) | (apply T.cond_f; exact rfl)))
  (apply RetOk.t; exact rfl)
  refine ⟨_, ?_, ov1, rfl, hov1, rfl⟩
  (focus ((repeat' (first | exact Ext.one _ _ | exact Ext.here _ _ | apply Keep.cons | apply Keep.last | apply Ext.cons | apply Ext.app)); done))
theorem wbytes1_ok (bw : Nat) (ov : Ov) (bs : List Int) (hov : OvOk 1 ov bs.length (u8s bs)) (p : Option Addr) (n cap : Nat) (ys : List Int) (hn : n = ys.length) (h : n ≤ 512) (hbig : bs.length ≤ 500) (bl : Nat) (fz : Nat × Nat) (e : TypeId) (w : World) (hb : w.heap[bl]? = some (.cells ⟨[.slice p n cap]⟩ e fz)) (hoff : bl ∉ blks (WL bw ov bs)) (hr : RdSl w p u8V ys) (hq : ys ≠ [] → Off p (blks (WL bw ov bs))) :
    CallM Tryz.prog 280 [.pointer (some ⟨bw, 0, none⟩), .slice (some ⟨bl, 0, none⟩) 1 1] (WL bw ov bs) w (WRes bw (bs ++ (numI 1 n ++ ys))) := by
  have hput := fun bf fz e w1 h1 h2 (hc : Chg (blks (WL bw ov bs)) w w1) => putB_ok bw ov bs hov p n cap ys hn h hbig bf fz e w1 h1 h2 (hr.chg' hc hq) hq
  unfold WRes at hput ⊢
  generalize bs ++ (numI 1 n ++ ys) = nb at *
  refine enterK (tb := tb) Tryz.func280 rfl Tryz.ntmps280 rfl ?_
  obtain ⟨S, hS⟩ : ∃ S, S = blks (WL bw ov bs) := ⟨_, rfl⟩
  rw [← hS] at hoff ⊢
  repeat' (first | (apply R.is1; first | (apply R.isBin; (apply R.pure; exact rfl; first | (apply Ok1.add64; exact rfl; exact rfl; omega; omega) | (apply Ok1.lss_t; exact rfl; exact rfl; omega) | (apply Ok1.lss_f; exact rfl; exact rfl; omega))) | (apply R.isCall; first | (apply R.callE (Li := WL bw ov bs); (iterate 3 exact rfl); (focus ((repeat' (first | exact Ext.all _ | apply Ext.cons)); done)); intro w1 hw1; exact hput _ _ _ w1 (hw1.get _ _ (At.mem (by exact At.head))) (RdSl.off hw1 (by (focus ((repeat' (first | exact Ext.all _ | apply Ext.cons)); done))) (At.mem (by exact At.head))) (hS ▸ hw1.chg); rintro v Lo ⟨ov1, rfl, hov1, rfl⟩) | (apply R.pure; exact rfl; (apply Ok1.lenS; (iterate 3 exact rfl)))) | (apply R.pure; exact rfl; first | (apply Ok1.move; exact rfl) | (apply Ok1.load; exact rfl; (apply Ld.blk1; exact rfl; exact rfl; assumption; (assumption); exact rfl)) | (apply Ok1.assign; exact rfl) | (apply Ok1.indexAddr; (iterate 5 exact rfl); omega; omega) | (apply Ok1.build; (iterate 5 exact rfl))) | (apply R.buildSlice; (iterate 12 exact rfl); intro)) | apply R.nil | (apply T.is; first | apply T.rounds 3 | apply T.seq | apply T.region | apply T.block | apply T.skip | apply T.exit | apply T.ret | (apply T.cond_t; exact rfl) | (apply T.cond_f; exact rfl)))
  (apply RetOk.t; exact rfl)
  refine ⟨_, ?_, ov1, rfl, hov1, rfl⟩
  (focus ((repeat' (first | exact Ext.one _ _ | exact Ext.here _ _ | apply Keep.cons | apply Keep.last)); done))
end Go.Proofs.YtidjnjlejhoalaaGreat
set_option linter.unusedSimpArgs false
set_option linter.unusedVariables false
namespace Go.Proofs.YtidjnjlejhoalaaGreat
open Go.RowKit Go.Shelf
set_option maxRecDepth 100000
/-- The parts' bytes, one behind the other. -/
def catP (l : List Pt) : List Int := l.flatMap Pt.xs
theorem catP_take {l : List Pt} {i : Nat} {z : Pt} (h : l[i]? = some z) : catP (l.take (i + 1)) = catP (l.take i) ++ z.xs := by
  rw [List.take_add_one, h]; simp [catP]
theorem catP_le (l : List Pt) (i : Nat) : (catP (l.take i)).length ≤ (catP l).length := by
  have : catP l = catP (l.take i) ++ catP (l.drop i) := by simp only [catP, ← List.flatMap_append, List.take_append_drop]
  rw [this, List.length_append]; omega
theorem bjoinN_ok (p : Option Addr) (cap : Nat) (x : Pt) (l : List Pt) (hl0 : l ≠ []) (hcap : l.length + 1 ≤ cap) (w : World) (hp : RdSl w p Pt.v (x :: l)) (hr : ∀ z ∈ x :: l, RdSl w z.p u8V z.xs) (hpos : ∀ z ∈ l, 0 < z.xs.length) (hbig : (catP (x :: l)).length ≤ 1000000) (hk : l.length ≤ 1000000) :
    CallM Tryz.prog 281 [.slice p (l.length + 1) cap, .slice none 0 0] [] w fun v L => ∃ b junk, v = .slice (some ⟨b, 0, none⟩) (catP (x :: l)).length (catP (x :: l)).length ∧ L = [(b, .cells ⟨u8s (catP (x :: l)) ++ junk⟩ 5 (0, 0))] := by
  obtain ⟨n, hn⟩ : ∃ n, n = (catP (x :: l)).length := ⟨_, rfl⟩
  obtain ⟨k, hkk⟩ : ∃ k, k = l.length + 1 := ⟨_, rfl⟩
  have hl1 : 1 ≤ l.length := by cases l with | nil => exact absurd rfl hl0 | cons _ _ => simp
  obtain ⟨A, hA⟩ : ∃ A, A = x :: l := ⟨_, rfl⟩
  have hAl : A.length = k := by rw [hA, hkk]; rfl
  have hx0 : A[0]? = some x := by rw [hA]; rfl
  have hx : RdSl w x.p u8V x.xs := hr x (.head _)
  have hxn : x.xs.length ≤ n := by rw [hn]; simp only [catP, List.flatMap_cons, List.length_append]; omega
  have hle := fun i => catP_le A i
  rw [← hA] at hp hn hbig
  have hsuf := hp.suf Pt.v_len (cap := cap) (i := 1) (by omega) (by omega)
  have hdrop : A.drop 1 = l := by rw [hA]; rfl
  rw [hdrop] at hsuf
  obtain ⟨b1, o1, hpe1, H1⟩ := hp.at hx0
  replace H1 := H1 1 Pt.v_len
  rw [← hkk]
  rw [← hA, ← hn]
  rw [← hn] at hbig hle
  refine enterK (tb := tb) Tryz.func281 rfl Tryz.ntmps281 rfl ?_
  repeat' (first | (apply R.is1; first | (apply R.isBin; (apply R.pure; exact rfl; first | (apply Ok1.gtr_f; exact rfl; exact rfl; omega) | (apply Ok1.eql_f; exact rfl; exact rfl; omega))) | (apply R.isCall; (apply R.pure; exact rfl; (apply Ok1.lenS; (iterate 3 exact rfl)))) | (apply R.pure; exact rfl; first | (apply Ok1.move; exact rfl) | (apply Ok1.assign; exact rfl))) | apply R.nil | (apply T.is; first | apply T.seq | apply T.region | apply T.block | apply T.skip | (apply T.cond_f; exact rfl)))
  apply T.loopK (α := Nat) (I := fun i => i ≤ k) (σi := fun i => [(0, .slice p k cap), (1, .slice none 0 0), (5, .int .i64 ((catP (A.take i)).length : Nat)), (42, .slice p k cap), (43, .int .i64 k), (44, .int .i64 i)]) (Li := fun _ => []) (μ := fun i => k - i) (i0 := 0)
  · exact Nat.zero_le _
  · exact ⟨rfl, rfl, rfl, rfl, rfl, rfl, trivial⟩
  · (focus ((repeat' (exact Keep.nil _)); done))
  · intro i hi
    have hlei := hle i
    rcases Nat.lt_or_ge i k with hlt | hge
    · obtain ⟨z, hz⟩ : ∃ z, A[i]? = some z := ⟨_, List.getElem?_eq_getElem (by omega)⟩
      obtain ⟨b, o, hpe, H⟩ := hp.at hz
      replace H := H 1 Pt.v_len
      have hle2 := hle (i + 1)
      have hsum : ((catP (A.take (i + 1))).length : Int) = ((catP (A.take i)).length : Int) + (z.xs.length : Int) := by rw [catP_take hz, List.length_append]; omega
      repeat' (first | (apply R.is1; first | (apply R.isBin; (apply R.pure; exact rfl; first | (apply Ok1.add64; exact rfl; exact rfl; omega; omega) | (apply Ok1.sub64; exact rfl; exact rfl; omega; omega) | (apply Ok1.lss_t; exact rfl; exact rfl; omega) | (apply Ok1.gtr_f; exact rfl; exact rfl; omega))) | (apply R.isCall; (apply R.pure; exact rfl; (apply Ok1.lenS; (iterate 3 exact rfl)))) | (apply R.pure; exact rfl; first | (apply Ok1.indexAddrP; (iterate 4 exact rfl); exact hpe; exact rfl; omega; omega) | (apply Ok1.load; exact rfl; apply Ld.row0 H; exact rfl; exact List.not_mem_nil; (iterate 3 exact rfl)) | (apply Ok1.move; exact rfl) | (apply Ok1.assign; exact rfl))) | apply R.nil | (apply T.is; first | apply T.seq | apply T.region | apply T.block | apply T.skip | (apply T.cond_t; exact rfl) | (apply T.cond_f; exact rfl)))
      exact ⟨i + 1, by omega, by omega, ⟨rfl, rfl, by rw [hsum]; exact rfl, rfl, rfl, rfl, trivial⟩, by (focus ((repeat' (exact Keep.nil _)); done))⟩
    · have him : k = i := by omega
      subst him
      rw [List.take_of_length_le (by omega), ← hn]
      repeat' (first | (apply R.is1; first | (apply R.isBin; (apply R.pure; exact rfl; (apply Ok1.lss_f; exact rfl; exact rfl; omega))) | (apply R.isCall; first | (apply R.noZero (n := n) nozero_ok; exact rfl; omega; exact rfl; intro b5 cs5 hcs5) | (apply R.copyAll (xs := x.xs) (v := u8V) (o' := 0); (iterate 8 exact rfl); exact u8V_len; (intro w1 hw1; exact hx.chg hw1.chg (Off.nil _)); (rw [fl_u8]; exact u8s_one _); omega; exact rfl; exact Upd.head; (have h := setE_off [] (u8s x.xs) cs5 (by rw [u8s_len]; omega); rw [u8s_len] at h; rw [fl_u8]; exact h)) | (apply R.pure; exact rfl; (apply Ok1.lenS; (iterate 3 exact rfl)))) | (apply R.pure; exact rfl; first | (apply Ok1.indexAddrP; (iterate 4 exact rfl); exact hpe1; exact rfl; omega; omega) | (apply Ok1.load; exact rfl; (apply Ld.row0 H1; exact rfl; exact List.not_mem_nil; (iterate 3 exact rfl))) | (apply Ok1.preM (i := n) (m := n); (iterate 6 exact rfl); omega; omega) | (apply Ok1.sufR (i := 1) (sz := 1); (iterate 6 exact rfl); omega; omega) | (apply Ok1.move; exact rfl) | (apply Ok1.assign; exact rfl))) | apply R.nil | (apply T.is; first | apply T.seq | apply T.region | apply T.block | apply T.exit | (apply T.cond_f; exact rfl)))
      have h1 : catP (A.take 1) = x.xs := by rw [hA]; simp [catP]
      have hk1 : k - 1 = l.length := by omega
      apply T.loopK (α := Nat × List Value) (I := fun y => y.1 ≤ l.length ∧ n ≤ (catP (A.take (y.1 + 1))).length + y.2.length) (σi := fun y => [(1, .slice none 0 0), (8, .slice (some ⟨b5, 0, none⟩) n n), (9, .int .i64 ((catP (A.take (y.1 + 1))).length : Nat)), (70, .slice (sufP p cap 1 1) (k - 1) (cap - 1)), (71, .int .i64 ((k - 1 : Nat) : Int)), (72, .int .i64 y.1)]) (Li := fun y => [(b5, .cells ⟨u8s (catP (A.take (y.1 + 1))) ++ y.2⟩ 5 (0, 0))]) (μ := fun y => l.length - y.1) (i0 := (0, cs5.drop x.xs.length))
      · refine ⟨Nat.zero_le _, ?_⟩
        show n ≤ (catP (A.take 1)).length + _
        rw [h1, List.length_drop]; omega
      · refine ⟨rfl, rfl, ?_, rfl, rfl, rfl, trivial⟩
        show _ = some (Value.int .i64 ((catP (A.take 1)).length : Nat))
        rw [h1]; rfl
      · show Keep _ [(b5, .cells ⟨u8s (catP (A.take 1)) ++ cs5.drop x.xs.length⟩ 5 (0, 0))]
        rw [h1]
        (focus ((repeat' (first | exact Keep.nil _ | exact Ext.one _ _ | apply Keep.cons)); done))
      · rintro ⟨i, rest⟩ ⟨hi, hrest⟩
        simp only at hi hrest ⊢
        rcases Nat.lt_or_ge i l.length with hlt | hge
        · obtain ⟨z, hz⟩ : ∃ z, l[i]? = some z := ⟨_, List.getElem?_eq_getElem (by omega)⟩
          obtain ⟨b, o, hpe, H⟩ := hsuf.at hz
          replace H := H 1 Pt.v_len
          have hzA : A[i + 1]? = some z := by rw [hA]; exact hz
          have hzr : RdSl w z.p u8V z.xs := hr z (.tail _ (List.mem_of_getElem? hz))
          have hz0 : 0 < z.xs.length := hpos z (List.mem_of_getElem? hz)
          have hle2 := hle (i + 2)
          have hcat := catP_take hzA
          have e2 : i + 1 + 1 = i + 2 := rfl
          rw [e2] at hcat
          obtain ⟨D, hD⟩ : ∃ D, D = catP (A.take (i + 1)) := ⟨_, rfl⟩
          rw [← hD] at hcat hrest ⊢
          rw [hcat, List.length_append] at hle2
          repeat' (first | (apply R.is1; first | (apply R.isBin; (apply R.pure; exact rfl; first | (apply Ok1.add64; exact rfl; exact rfl; omega; omega) | (apply Ok1.lss_t; exact rfl; exact rfl; omega))) | (apply R.isCall; first | (apply R.copyAll (xs := ([] : List Int)) (v := u8V) (o' := D.length); (iterate 8 exact rfl); exact u8V_len; (intro w1 hw1; exact .inl rfl); exact rfl; exact Nat.zero_le _; (focus ((simp; done))); exact Upd.head; exact setE_nilO _ _) | (apply R.copyAll (xs := z.xs) (v := u8V) (o' := D.length); (iterate 8 exact rfl); exact u8V_len; (intro w1 hw1; exact hzr.chg hw1.chg (Off.nil _)); (rw [fl_u8]; exact u8s_one _); (focus (omega)); (focus ((simp; done))); exact Upd.head; (have h := setE_off (u8s D) (u8s z.xs) rest (by rw [u8s_len]; omega); rw [u8s_len, u8s_len] at h; rw [fl_u8]; exact h))) | (apply R.pure; exact rfl; first | (apply Ok1.indexAddrP; (iterate 4 exact rfl); exact hpe; exact rfl; omega; omega) | (apply Ok1.load; exact rfl; apply Ld.row0 H; exact rfl; exact List.not_mem_nil; (iterate 3 exact rfl)) | (apply Ok1.move; exact rfl) | (apply Ok1.assign; exact rfl) | (apply Ok1.sliceFrom; (iterate 7 exact rfl); omega; omega; omega; omega; omega; (exact Or.inl rfl)))) | apply R.nil | (apply T.is; first | apply T.seq | apply T.region | apply T.block | apply T.skip | (apply T.cond_t; exact rfl)))
          refine ⟨(i + 1, rest.drop z.xs.length), ⟨by simp only; omega, ?_⟩, by simp only; omega, ⟨rfl, rfl, ?_, rfl, rfl, rfl, trivial⟩, ?_⟩
          · show n ≤ (catP (A.take (i + 2))).length + _
            rw [hcat, List.length_append, List.length_drop]; omega
          · show _ = some (Value.int .i64 ((catP (A.take (i + 2))).length : Nat))
            rw [hcat, List.length_append]
            exact rfl
          · show Keep _ [(b5, .cells ⟨u8s (catP (A.take (i + 2))) ++ rest.drop z.xs.length⟩ 5 (0, 0))]
            rw [hcat, u8s_app, List.append_assoc]
            (focus ((repeat' (first | exact Keep.nil _ | exact Ext.one _ _ | apply Keep.cons)); done))
        · have him : i = l.length := by omega
          subst him
          rw [← hkk, List.take_of_length_le (by omega)]
          repeat' (first | (apply R.is1; first | (apply R.isBin; (apply R.pure; exact rfl; (apply Ok1.lss_f; exact rfl; exact rfl; omega))) | (apply R.pure; exact rfl; first | (apply Ok1.move; exact rfl) | (apply Ok1.assign; exact rfl))) | apply R.nil | (apply T.is; first | apply T.seq | apply T.region | apply T.exit | apply T.ret | (apply T.cond_f; exact rfl)))
          (apply RetOk.t; exact rfl)
          exact ⟨_, by (focus ((repeat' (first | exact Keep.nil _ | exact Ext.one _ _ | apply Keep.cons)); done)), b5, rest, rfl, rfl⟩
end Go.Proofs.YtidjnjlejhoalaaGreat
set_option linter.unusedSimpArgs false
set_option linter.unusedVariables false
namespace Go.Proofs.YtidjnjlejhoalaaGreat
open Go.RowKit Go.Shelf
set_option maxRecDepth 100000
theorem bjoin5_ok (bb : Nat) (X1 X2 X3 X4 X5 : Pt) (TT : List Int) (hT : TT = X1.xs ++ (X2.xs ++ (X3.xs ++ (X4.xs ++ X5.xs)))) (w : World) (hp : RdSl w (some ⟨bb, 0, none⟩) Pt.v [X1, X2, X3, X4, X5]) (h1 : RdSl w X1.p u8V X1.xs) (h2 : RdSl w X2.p u8V X2.xs) (h3 : RdSl w X3.p u8V X3.xs) (h4 : RdSl w X4.p u8V X4.xs) (h5 : RdSl w X5.p u8V X5.xs) (l2 : 0 < X2.xs.length) (l3 : 0 < X3.xs.length) (l4 : 0 < X4.xs.length) (l5 : 0 < X5.xs.length) (hbig : TT.length ≤ 1000000) :
    CallM Tryz.prog 281 [.slice (some ⟨bb, 0, none⟩) 5 5, .slice none 0 0] [] w fun v L => ∃ b junk, v = .slice (some ⟨b, 0, none⟩) TT.length TT.length ∧ L = [(b, .cells ⟨u8s TT ++ junk⟩ 5 (0, 0))] := by
  have e : catP [X1, X2, X3, X4, X5] = TT := by rw [hT]; simp [catP]
  have h := bjoinN_ok (some ⟨bb, 0, none⟩) 5 X1 [X2, X3, X4, X5] (by simp) (by simp) w hp (by simp only [List.mem_cons, List.not_mem_nil, or_false, forall_eq_or_imp, forall_eq]; exact ⟨h1, h2, h3, h4, h5⟩) (by simp only [List.mem_cons, List.not_mem_nil, or_false, forall_eq_or_imp, forall_eq]; exact ⟨l2, l3, l4, l5⟩) (by rw [e]; exact hbig) (by simp)
  rw [e] at h
  exact h
theorem pckE_zero {k : Int} {c : Cl} {to a b : Int} {n : Nat} {t : List Int} (h : pckE k c to a b n t = 0) : (0 < k ∧ k < 15) ∧ c.right ∧ (0 ≤ to ∧ to ≤ 65535) ∧ NR a b ∧ n ≤ 512 ∧ ((k = 1 ∨ k = 2) → t = zI 32) := by
  unfold pckE at h
  by_cases g1 : 0 < k ∧ k < 15
  case neg => rw [if_pos g1] at h; exact absurd h (by decide)
  rw [if_neg (fun g => g g1)] at h
  by_cases g2 : c.right ∧ 0 ≤ to ∧ to ≤ 65535 ∧ NR a b
  case neg => rw [if_pos g2] at h; exact absurd h (by decide)
  rw [if_neg (fun g => g g2)] at h
  by_cases g3 : 512 < n
  · rw [if_pos g3] at h; exact absurd h (by decide)
  rw [if_neg g3] at h
  by_cases g4 : (k = 1 ∨ k = 2) ∧ t ≠ zI 32
  · rw [if_pos g4] at h; exact absurd h (by decide)
  exact ⟨g1, g2.1, ⟨g2.2.1, g2.2.2.1⟩, g2.2.2.2, by omega, fun g => Classical.byContradiction fun g5 => g4 ⟨g, g5⟩⟩
/-- What is tagged of a packet. -/
def pkH (k : Int) (c : Cl) (to a b : Int) (body : List Int) : List Int := numI 0 k ++ (clI c ++ (numI 1 to ++ (nbI a b ++ (numI 1 body.length ++ body))))
theorem pkH_len (k : Int) (c : Cl) (to a b : Int) (body : List Int) : (pkH k c to a b body).length = 20 + body.length := by
  have h1 : (numI 0 k).length = 1 := rfl
  have h2 : (numI 1 to).length = 2 := rfl
  have h3 : (nbI a b).length = 6 := rfl
  have h4 : (numI 1 body.length).length = 2 := rfl
  simp only [pkH, List.length_append, clI_len, h1, h2, h3, h4]; omega
theorem phead_ok (k : Int) (c : Cl) (to a b : Int) (p : Option Addr) (n cap : Nat) (t : List Int) (body : List Int) (ht : t.length = 32) (hE : pckE k c to a b n t = 0) (hn : n = body.length) (w : World) (hb : RdSl w p u8V body) :
    CallM Tryz.prog 228 [.agg ⟨pkC k c to a b p n cap t⟩] [] w fun v L => ∃ bj junk, v = .tuple #[.slice (some ⟨bj, 0, none⟩) (pkH k c to a b body).length (pkH k c to a b body).length, .int .i64 0] ∧ L = [(bj, .cells ⟨u8s (pkH k c to a b body) ++ junk⟩ 5 (0, 0))] := by
  obtain ⟨g1, g2, g3, g4, g5, g6⟩ := pckE_zero hE
  have hck := pcheck_ok k c to a b p n cap t ht
  rw [hE] at hck
  have htag := pk_tag k c to a b p n cap ht
  have hcb := fun w1 => clBytes_ok c g2 w1
  have hnb := fun w1 => wnbytes_ok a b g4 w1
  have hf1 : Fits 0 k := by unfold Fits; omega
  have hf2 : Fits 1 to := by unfold Fits; omega
  have hn1 := fun bw bl fz e w1 => number1_ok bw none [] (OvOk.start 1) 0 k hf1 (by decide) bl fz e w1
  have hn2 := fun bw bl fz e w1 => number1_ok bw none [] (OvOk.start 1) 1 to hf2 (by decide) bl fz e w1
  have hn3 := fun bw bl fz e w1 h1 h2 (hc : Chg [] w w1) h3 => wbytes1_ok bw none [] (OvOk.start 1) p n cap body hn g5 (by decide) bl fz e w1 h1 h2 (hb.chg hc (Off.nil _)) h3
  have hout := fun (bw : Nat) (ov : Ov) (B : List Int) (hov : OvOk 1 ov B.length (u8s B)) (hB : B.length ≤ 1000) L w1 (h1 : Hp w [] L w1) (h2 : ∀ z ∈ WL bw ov B, z ∈ L) => wout_ok bw ov B hov (by omega) w1 (h1.get _ _ (h2 _ List.mem_cons_self)) (rdown hov h1 fun z hz => h2 z (List.mem_cons_of_mem _ hz))
  obtain ⟨B1, hB1⟩ : ∃ B, B = [] ++ numI 0 k := ⟨_, rfl⟩
  obtain ⟨B2, hB2⟩ : ∃ B, B = [] ++ numI 1 to := ⟨_, rfl⟩
  obtain ⟨B3, hB3⟩ : ∃ B, B = [] ++ (numI 1 n ++ body) := ⟨_, rfl⟩
  have hl1 : B1.length = 1 := by rw [hB1]; rfl
  have hl2 : B2.length = 2 := by rw [hB2]; rfl
  have hl3 : B3.length = 2 + n := by rw [hB3, List.nil_append, List.length_append, hn]; rfl
  obtain ⟨TT, hT⟩ : ∃ TT, TT = pkH k c to a b body := ⟨_, rfl⟩
  have hTe : TT = B1 ++ (clI c ++ (B2 ++ (nbI a b ++ B3))) := by rw [hT, hB1, hB2, hB3, hn]; rfl
  have hTl : TT.length = 20 + n := by rw [hT, pkH_len, hn]
  rw [← hB1] at hn1
  rw [← hB2] at hn2
  rw [← hB3] at hn3
  rw [← hT]
  have hj := fun bb p1 c1 p2 c2 p3 c3 p4 c4 p5 c5 w1 => bjoin5_ok bb ⟨p1, c1, B1⟩ ⟨p2, c2, clI c⟩ ⟨p3, c3, B2⟩ ⟨p4, c4, nbI a b⟩ ⟨p5, c5, B3⟩ TT hTe w1
  clear hB1 hB2 hB3 hT hTe hE
  refine enterK (tb := tb) Tryz.func228 rfl Tryz.ntmps228 rfl ?_
  have hpl := pk_len k c to a b p n cap ht
  simp only [pkC] at htag hck hpl ⊢
  generalize hCL : clI c = CL at *
  have hcl : CL.length = 9 := by rw [← hCL]; rfl
  generalize hNB : nbI a b = NB at *
  have hnl : NB.length = 6 := by rw [← hNB]; rfl
  repeat' (first | (apply R.is1; first | (apply R.isBin; (apply R.pure; exact rfl; (apply Ok1.neq_f; exact rfl; exact rfl; omega))) | (apply R.isCall; first | apply R.callP rfl rfl rfl hck | (apply R.callE (vs := [kvC c]); (iterate 3 exact rfl); exact Ext.none _; intro w1 hw1; exact hcb w1; rintro v Lo ⟨ovcl, hovcl, rfl, rfl⟩; rw [slV_eq hovcl]) | (apply R.callE (vs := [.agg ⟨[.int .i64 a, .int .i64 b]⟩]); (iterate 3 exact rfl); exact Ext.none _; intro w1 hw1; exact hnb w1; rintro v Lo ⟨ovn, hovn, rfl, rfl⟩; rw [slV_eq hovn])) | (apply R.pure; exact rfl; first | (apply Ok1.load; exact rfl; first | (apply Ld.own1; exact rfl; exact rfl; (focus ((repeat' (first | exact At.head | apply At.tail | apply At.right)); done)); exact rfl) | (apply Ld.ownk; exact rfl; exact rfl; (focus ((repeat' (first | exact At.head | apply At.right)); done)); exact rfl) | (apply Ld.ownk; exact rfl; exact rfl; exact At.head; exact subE_all hpl)) | (apply Ok1.move; exact rfl) | (apply Ok1.fieldAddr; (iterate 5 exact rfl)) | (apply Ok1.assign; exact rfl) | (apply Ok1.extract; exact rfl; exact rfl)) | (apply R.box; (iterate 3 exact rfl); intro) | (apply R.alloc; (iterate 3 exact rfl); intro) | (apply R.buildSlice; (iterate 12 exact rfl); intro)) | apply R.nil | (apply T.is; first | apply T.seq | apply T.region | apply T.skip | (apply T.cond_f; exact rfl)))
  rename_i bw1 bw2 bw3 bl1
  repeat' ((apply R.is1; (apply R.isCall; (apply R.callE (Li := [(bw1, .cells ⟨[.slice none 0 0, .int .i64 0]⟩ 325 (0, 0))]) (vs := [.pointer (some ⟨bw1, 0, none⟩), .int .i64 0, .slice (some ⟨bl1, 0, none⟩) 1 1]); (iterate 3 exact rfl); (focus ((repeat' (first | exact Ext.one _ _ | apply Ext.cons)); done)); intro w1 hw1; exact hn1 bw1 bl1 _ _ w1 (hw1.get _ _ List.mem_cons_self) (RdSl.off hw1 (by (focus ((repeat' (first | exact Ext.one _ _ | apply Ext.cons)); done))) List.mem_cons_self); rintro x Lo ⟨ov1, rfl, hov1, rfl⟩))))
  have h1 := hout bw1 ov1 B1 hov1 (by omega)
  generalize WL bw1 ov1 B1 = W1 at h1 ⊢
  repeat' (first | (apply R.is1; first | (apply R.isCall; (apply R.callE (vs := [.pointer (some ⟨bw1, 0, none⟩)]); (iterate 3 exact rfl); exact Ext.none _; intro w1 hw1; exact h1 _ w1 hw1 (Ext.mem (by (focus ((repeat' (exact Ext.here _ _)); done)))); rintro x Lo ⟨ovx1, hovx1, rfl, rfl⟩; rw [slV_eq hovx1])) | (apply R.pure; exact rfl; first | (apply Ok1.load; exact rfl; (apply Ld.own1; exact rfl; exact rfl; (focus ((repeat' (first | exact At.head | apply At.tail | apply At.right)); done)); exact rfl)) | (apply Ok1.move; exact rfl) | (apply Ok1.fieldAddr; (iterate 5 exact rfl)) | (apply Ok1.assign; exact rfl) | (apply Ok1.extract; exact rfl; exact rfl)) | (apply R.buildSlice; (iterate 12 exact rfl); intro)) | apply R.nil | (apply T.is; first | apply T.seq | apply T.region))
  rename_i bl2
  repeat' ((apply R.is1; (apply R.isCall; (apply R.callE (Li := [(bw2, .cells ⟨[.slice none 0 0, .int .i64 0]⟩ 325 (0, 0))]) (vs := [.pointer (some ⟨bw2, 0, none⟩), .int .i64 1, .slice (some ⟨bl2, 0, none⟩) 1 1]); (iterate 3 exact rfl); (focus ((repeat' (first | exact Ext.one _ _ | apply Ext.cons | apply Ext.app)); done)); intro w1 hw1; exact hn2 bw2 bl2 _ _ w1 (hw1.get _ _ List.mem_cons_self) (RdSl.off hw1 (by (focus ((repeat' (first | exact Ext.one _ _ | apply Ext.cons | apply Ext.app)); done))) List.mem_cons_self); rintro x Lo ⟨ov2, rfl, hov2, rfl⟩))))
  have h2 := hout bw2 ov2 B2 hov2 (by omega)
  generalize WL bw2 ov2 B2 = W2 at h2 ⊢
  repeat' (first | (apply R.is1; first | (apply R.isCall; (apply R.callE (vs := [.pointer (some ⟨bw2, 0, none⟩)]); (iterate 3 exact rfl); exact Ext.none _; intro w1 hw1; exact h2 _ w1 hw1 (Ext.mem (by (focus ((repeat' (exact Ext.here _ _)); done)))); rintro x Lo ⟨ovx2, hovx2, rfl, rfl⟩; rw [slV_eq hovx2])) | (apply R.pure; exact rfl; first | (apply Ok1.load; exact rfl; (apply Ld.own1; exact rfl; exact rfl; (focus ((repeat' (first | exact At.head | apply At.tail | apply At.right)); done)); exact rfl)) | (apply Ok1.move; exact rfl) | (apply Ok1.fieldAddr; (iterate 5 exact rfl)) | (apply Ok1.assign; exact rfl) | (apply Ok1.extract; exact rfl; exact rfl)) | (apply R.buildSlice; (iterate 12 exact rfl); intro)) | apply R.nil | (apply T.is; first | apply T.seq | apply T.region))
  rename_i bl3
  repeat' ((apply R.is1; (apply R.isCall; (apply R.callE (Li := [(bw3, .cells ⟨[.slice none 0 0, .int .i64 0]⟩ 325 (0, 0))]) (vs := [.pointer (some ⟨bw3, 0, none⟩), .slice (some ⟨bl3, 0, none⟩) 1 1]); (iterate 3 exact rfl); (focus ((repeat' (first | exact Ext.one _ _ | apply Ext.cons | apply Ext.app)); done)); intro w1 hw1; exact hn3 bw3 bl3 _ _ w1 (hw1.get _ _ List.mem_cons_self) (RdSl.off hw1 (by (focus ((repeat' (first | exact Ext.one _ _ | apply Ext.cons | apply Ext.app)); done))) List.mem_cons_self) hw1.chg (hb.old u8V_len (Nat.le_refl _) (fun _ => Off.nil _) hw1 (by (focus ((repeat' (first | exact Ext.one _ _ | apply Ext.cons | apply Ext.app)); done)))); rintro x Lo ⟨ov3, rfl, hov3, rfl⟩))))
  have h3 := hout bw3 ov3 B3 hov3 (by omega)
  generalize WL bw3 ov3 B3 = W3 at h3 ⊢
  repeat' (first | (apply R.is1; first | (apply R.isCall; (apply R.callE (vs := [.pointer (some ⟨bw3, 0, none⟩)]); (iterate 3 exact rfl); exact Ext.none _; intro w1 hw1; exact h3 _ w1 hw1 (Ext.mem (by (focus ((repeat' (exact Ext.here _ _)); done)))); rintro x Lo ⟨ovx3, hovx3, rfl, rfl⟩; rw [slV_eq hovx3])) | (apply R.pure; exact rfl; first | (apply Ok1.move; exact rfl) | (apply Ok1.assign; exact rfl) | (apply Ok1.extract; exact rfl; exact rfl)) | (apply R.buildSlice; (iterate 12 exact rfl); intro)) | apply R.nil | (apply T.is; first | apply T.seq | apply T.region))
  repeat' (first | (apply R.is1; first | (apply R.isCall; (apply R.callE; (iterate 3 exact rfl); exact Ext.none _; intro w1 hw1; exact hj _ (ovp ovx1) (ovc ovx1 B1.length) (ovp ovcl) (ovc ovcl 9) (ovp ovx2) (ovc ovx2 B2.length) (ovp ovn) (ovc ovn 6) (ovp ovx3) (ovc ovx3 B3.length) w1 (RdSl.of (v := Pt.v) (rs := [⟨ovp ovx1, ovc ovx1 B1.length, B1⟩, ⟨ovp ovcl, ovc ovcl 9, CL⟩, ⟨ovp ovx2, ovc ovx2 B2.length, B2⟩, ⟨ovp ovn, ovc ovn 6, NB⟩, ⟨ovp ovx3, ovc ovx3 B3.length, B3⟩]) (junk := []) hw1 .head (by simp [Pt.v, fl, hcl, hnl])) (RdSl.own' hw1 (Ext.mem (by rw [fl_u8]; (focus ((repeat' (first | exact Ext.here _ _ | apply Ext.cons | apply Ext.app)); done)))) (by rw [fl_u8]; exact hovx1) u8V_len) (RdSl.own' hw1 (Ext.mem (by rw [fl_u8]; (focus ((repeat' (first | exact Ext.here _ _ | apply Ext.cons | apply Ext.app)); done)))) (by rw [fl_u8]; exact (hcl.symm ▸ hovcl)) u8V_len) (RdSl.own' hw1 (Ext.mem (by rw [fl_u8]; (focus ((repeat' (first | exact Ext.here _ _ | apply Ext.cons | apply Ext.app)); done)))) (by rw [fl_u8]; exact hovx2) u8V_len) (RdSl.own' hw1 (Ext.mem (by rw [fl_u8]; (focus ((repeat' (first | exact Ext.here _ _ | apply Ext.cons | apply Ext.app)); done)))) (by rw [fl_u8]; exact (hnl.symm ▸ hovn)) u8V_len) (RdSl.own' hw1 (Ext.mem (by rw [fl_u8]; (focus ((repeat' (first | exact Ext.here _ _ | apply Ext.cons)); done)))) (by rw [fl_u8]; exact hovx3) u8V_len) (by show 0 < CL.length; omega) (by show 0 < B2.length; omega) (by show 0 < NB.length; omega) (by show 0 < B3.length; omega) (by omega); rintro x Lo ⟨bj, junk, rfl, rfl⟩)) | (apply R.pure; exact rfl; first | (apply Ok1.move; exact rfl) | (apply Ok1.assign; exact rfl))) | apply R.nil | (apply T.is; apply T.ret))
  (apply RetOk.tt; exact rfl; exact rfl)
  exact ⟨_, by (focus ((repeat' (first | exact Keep.nil _ | exact Ext.one _ _ | apply Keep.cons)); done)), bj, junk, rfl, rfl⟩
end Go.Proofs.YtidjnjlejhoalaaGreat
set_option linter.unusedSimpArgs false
set_option linter.unusedVariables false
namespace Go.Proofs.YtidjnjlejhoalaaGreat
open Go.RowKit Go.Shelf
set_option maxRecDepth 100000
section
variable {X : Cx} {σ : Env} {L : Lst} {dd : Nat} {ty : TypeId} {pos : String} {af : Array Edge} {x y : Operand} {t t2 e : TypeId} {r r2 re : TRow} {all : Array Oper} {rest : List Oper} {K : Env → Lst → Prop}
theorem append_grow {P : Program} (tb : Tb P) (ht : tb.row t = some r) (hk : r.k = .slice e) (he : tb.row e = some re) {zc : List Value} (hz : cellsE re.zero = some zc) (hzl : zc.length = re.size) (ht2 : tb.row t2 = some r2) {e2 : Nat} (hk2 : r2.k = .slice e2)
    {w0 w : World} {S : List Nat} {base : Option Addr} {s2 : Value} {n m cap : Nat} {old news : List Value} (hw : Hp w0 S L w) (hold : Holds w (.slice base n cap) old) (hlo : old.length = n * re.size) (hc2 : cap < n + m) (hs2 : Builtin.lenOf s2 = Pure.pure m) (hn2 : Holds w s2 news) (hlen : news.length = m * re.size)
    (hbig : (2 * (n + m) + 768) * re.bytes ≤ 281474976710656) (hb1 : 1 ≤ re.bytes) :
    ∃ b' j' junk' w', junk'.length = j' * re.size ∧ (Builtin.append_ #[t, t2] ty #[.slice base n cap, s2]).run P w = .ok (.slice (some ⟨b', 0, none⟩) (n + m) (n + m + j')) w' ∧ Hp w0 S ((b', .cells ⟨old ++ news ++ junk'⟩ e (0, 0)) :: L) w' := by
  have hu : P.underlying t = some (.slice e) := by have := (tb.get ht).is; rw [hk] at this; exact this
  have hu2 : P.underlying t2 = some (.slice e2) := by have := (tb.get ht2).is; rw [hk2] at this; exact this
  have hbytes : ∃ i, P.info? e = some i ∧ i.bytes = re.bytes := by
    have := (tb.get he).bytes
    cases h : P.info? e with
    | none => rw [h] at this; cases this
    | some i => rw [h] at this; exact ⟨i, rfl, by simpa using this⟩
  obtain ⟨i, hi, hib⟩ := hbytes
  have hti : ∀ w, (typeInfo e).run P w = .ok i w := fun w => by simp [typeInfo, hi]
  have hzc := cellsE_eq hz
  have hnx := nextcap_le (n + m) cap (by omega)
  have hnb : ¬ Builtin.nextslicecap (n + m) cap * re.bytes > 2 ^ 48 := by
    have := Nat.mul_le_mul_right re.bytes hnx
    have : (2 : Nat) ^ 48 = 281474976710656 := by decide
    omega
  have hold' : Holds w.drew (.slice base n cap) old := hold
  have hnew' : Holds w.drew s2 news := hn2
  obtain ⟨q, hq⟩ : ∃ q, (Question.appendCap (n + m) cap e).cut (w.tape w.drawn (.appendCap (n + m) cap e)) = n + m + q := ⟨_, rfl⟩
  refine ⟨w.heap.size, q, (Builtin.zeroCells (zeroCellsOf re) q).toList, w.drew.alloc (.cells ⟨old ++ news ++ (Builtin.zeroCells (zeroCellsOf re) q).toList⟩ e (0, 0)), ?_, ?_, ?_⟩
  · simp [zeroCells_size, zeroCellsOf, hzc, hzl]
  · have harr : (Array.mk old ++ Array.mk news ++ Builtin.zeroCells re.zero.cells (n + m + q - (n + m)) : Array Value) = ⟨old ++ news ++ (Builtin.zeroCells (zeroCellsOf re) q).toList⟩ := by
      apply Array.toList_inj.1
      simp [zeroCellsOf]
    have hf1 := first_run (P := P) hold' hlo
    have hf2 := first_run (P := P) hnew' hlen
    unfold Builtin.append_
    simp only [List.getElem?_toArray, List.getElem?_cons_zero, List.getElem?_cons_succ, Sem.run_bind, run_underlying hu, run_underlying hu2, Result.andThen_ok, (tb.get he).size, Sem.run_pure, Bool.false_eq_true, if_false, hs2, Bool.not_false, if_true,
      show ¬ n + m ≤ cap by omega, hti, hib, Sem.run_ite, show ¬ re.bytes = 0 by omega, or_false, and_false, false_or, hnb, run_choose, Question.forced, hq, run_askRoom, World.drew_eq, hf1, hf2, (tb.get he).zero, newRow, run_newObj, harr]
    rfl
  · exact (hw.step (Chg.drew [] w)).alloc _
/-- append to a slice without room: a new row. -/
theorem R.appendNew {α : Type} {v : α → List Value} {xs ys : List α} {n m cap cap2 : Nat} {p p2 : Option Addr} {e2 : Nat} {zc : List Value} (hn : Nat.blt dd X.n = true) (ht : X.tb.row t = some r) (hk : r.k = .slice e) (he : X.tb.row e = some re) (hz : cellsE re.zero = some zc) (hzl : zc.length = re.size) (ht2 : X.tb.row t2 = some r2) (hk2 : r2.k = .slice e2) (hb1 : Nat.ble 1 re.bytes = true) (hb2 : Nat.ble re.bytes 65536 = true)
    (hx : ev σ x = some (.slice p n cap)) (hy : ev σ y = some (.slice p2 m cap2)) (hv : ∀ a, (v a).length = 1) (hs : re.size = 1) (hxn : n = xs.length) (hym : m = ys.length) (hne : xs ≠ []) (hne2 : ys ≠ []) (hc : cap < n + m)
    (hh : ∀ w, Hp X.w0 X.S L w → RdSl w p v xs) (hh2 : ∀ w, Hp X.w0 X.S L w → RdSl w p2 v ys) (hbig : n + m ≤ 1073741824)
    (h : ∀ ov', OvOk re.size ov' (n + m) (fl v xs ++ fl v ys) → ov'.isSome = true → R X all rest K ((dd, slV ov' (n + m)) :: σ) (blkL e ov' (fl v xs ++ fl v ys) ++ L)) :
    R X all (⟨some dd, .call { callee := .builtin .append, args := #[x, y], argTypes := #[t, t2] }, ty, pos, af, none⟩ :: rest) K σ L :=
  R.value rfl rfl hn fun a w ha hw => by
    have h3 := Nat.le_of_ble_eq_true hb2
    have hl1 : (fl v xs).length = n * re.size := by rw [fl_len hv, hs, hxn]
    have hl2 : (fl v ys).length = m * re.size := by rw [fl_len hv, hs, hym]
    obtain ⟨b', j', junk', w', g1, g2, g3⟩ := append_grow X.tb (ty := ty) ht hk he hz hzl ht2 hk2 hw (((hh w hw).holds hne) : Holds w (.slice p n cap) _) hl1 hc rfl (((hh2 w hw).holds hne2) : Holds w (.slice p2 m cap2) _) hl2 (Nat.le_trans (Nat.mul_le_mul (show 2 * (n + m) + 768 ≤ 2147484416 by omega) h3) (by decide)) (Nat.le_of_ble_eq_true hb1)
    refine ⟨slV (some (b', j', junk')) (n + m), w', _, ?_, g3, h (some (b', j', junk')) ⟨by rw [List.length_append, hl1, hl2, Nat.add_mul], g1⟩ rfl⟩
    simp [execOp, resolve, ha.ev hx, ha.ev hy, invoke, builtin, g2, slV]
end
/-- A packet's bytes. -/
def pkB (k : Int) (c : Cl) (to a b : Int) (body t : List Int) : List Int := pkH k c to a b body ++ t
theorem pkB_len (k : Int) (c : Cl) (to a b : Int) (body : List Int) {t : List Int} (ht : t.length = 32) : (pkB k c to a b body t).length = 52 + body.length := by
  rw [pkB, List.length_append, pkH_len, ht]; omega
theorem pbytes_ok (k : Int) (c : Cl) (to a b : Int) (p : Option Addr) (n cap : Nat) (t : List Int) (body : List Int) (ht : t.length = 32) (hE : pckE k c to a b n t = 0) (hn : n = body.length) (w : World) (hb : RdSl w p u8V body) :
    CallM Tryz.prog 157 [.agg ⟨pkC k c to a b p n cap t⟩] [] w fun v L => ∃ ov, OvOk 1 ov (pkB k c to a b body t).length (u8s (pkB k c to a b body t)) ∧ v = .tuple #[slV ov (pkB k c to a b body t).length, .int .i64 0] ∧ L = blkL 5 ov (u8s (pkB k c to a b body t)) := by
  have hh := fun w1 (hc : Chg [] w w1) => phead_ok k c to a b p n cap t body ht hE hn w1 (hb.chg hc (Off.nil _))
  have hl := pkH_len k c to a b body
  have hbl := (pckE_zero hE).2.2.2.2.1
  have hpl := pk_len k c to a b p n cap ht
  have hpB : u8s (pkB k c to a b body t) = u8s (pkH k c to a b body) ++ u8s t := u8s_app _ _
  have hpBl : (pkB k c to a b body t).length = (pkH k c to a b body).length + 32 := by rw [pkB, List.length_append, ht]
  rw [hpB, hpBl]
  generalize hHH : pkH k c to a b body = HH at *
  have hne : HH ≠ [] := by rintro rfl; simp at hl; omega
  have hnt : t ≠ [] := by rintro rfl; cases ht
  clear hpB hpBl hHH hE
  refine enterK (tb := tb) Tryz.func157 rfl Tryz.ntmps157 rfl ?_
  simp only [pkC] at hh hpl ⊢
  repeat' (first | (apply R.is1; first | (apply R.isBin; (apply R.pure; exact rfl; (apply Ok1.neq_f; exact rfl; exact rfl; omega))) | (apply R.isCall; first | (apply R.callE; (iterate 3 exact rfl); exact Ext.none _; intro w1 hw1; exact hh w1 hw1.chg; rintro v Lo ⟨bj, junk, rfl, rfl⟩) | (apply R.appendNew (xs := HH) (ys := t) (v := u8V) (n := HH.length) (m := 32); (iterate 12 exact rfl); exact u8V_len; exact rfl; exact rfl; exact ht.symm; exact hne; exact hnt; omega; (intro w1 hw1; exact RdSl.of hw1 (by exact At.head) (by rw [fl_u8])); (intro w1 hw1; exact RdSl.mid (pre := [.int .i64 k, .int .i64 c.id, .int .i64 c.roles, .int .i64 c.exp, .int .i64 c.ser, .int .i64 to, .int .i64 a, .int .i64 b, .slice p n cap]) (junk := []) hw1 (by rw [List.append_nil]; (focus ((repeat' (first | exact At.head | apply At.tail)); done))) rfl); omega; intro ov1 hov1 hs1; rw [fl_u8, fl_u8]; rw [fl_u8, fl_u8] at hov1)) | (apply R.pure; exact rfl; first | (apply Ok1.load; exact rfl; (apply Ld.ownk; exact rfl; exact rfl; exact At.head; exact subE_all hpl)) | (apply Ok1.sliceArr; (iterate 4 exact rfl)) | (apply Ok1.move; exact rfl) | (apply Ok1.fieldAddr; (iterate 5 exact rfl)) | (apply Ok1.assign; exact rfl) | (apply Ok1.extract; exact rfl; exact rfl)) | (apply R.box; (iterate 3 exact rfl); intro)) | apply R.nil | (apply T.is; first | apply T.seq | apply T.region | apply T.skip | apply T.ret | (apply T.cond_f; exact rfl)))
  (apply RetOk.tt; exact rfl; exact rfl)
  exact ⟨_, by (focus ((repeat' (first | exact Ext.here _ _ | apply Keep.last)); done)), ov1, hov1, rfl, rfl⟩
end Go.Proofs.YtidjnjlejhoalaaGreat
set_option linter.unusedSimpArgs false
set_option linter.unusedVariables false
namespace Go.Proofs.YtidjnjlejhoalaaGreat
open Go.RowKit Go.Shelf
set_option maxRecDepth 100000
theorem cat1 (p : Option Addr) (cap : Nat) (xs : List Int) : cat [⟨p, cap, xs⟩] = xs := by simp [cat]
theorem pckE_np {k : Int} {c : Cl} {to a b : Int} {n : Nat} (t t2 : List Int) (h : ¬ (k = 1 ∨ k = 2)) : pckE k c to a b n t = pckE k c to a b n t2 := by
  unfold pckE
  rw [if_neg (c := (k = 1 ∨ k = 2) ∧ t ≠ zI 32) (fun g => h g.1), if_neg (c := (k = 1 ∨ k = 2) ∧ t2 ≠ zI 32) (fun g => h g.1)]
theorem pkH_byt (k : Int) (c : Cl) (to a b : Int) {body : List Int} (h : Byt body) : Byt (pkH k c to a b body) :=
  Byt.app (num_byt _ _) (Byt.app (clI_byt _) (Byt.app (num_byt _ _) (Byt.app (Byt.app (Byt.app byt_nil (num_byt _ _)) (num_byt _ _)) (Byt.app (num_byt _ _) h))))
/-- A packet's tag. -/
def pkT (key : List Int) (k : Int) (c : Cl) (to a b : Int) (body : List Int) : List Int := hmacI key (pkH k c to a b body)
theorem ptagged_ok (k : Int) (c : Cl) (to a b : Int) (p : Option Addr) (n cap : Nat) (t : List Int) (body : List Int) (ht : t.length = 32) (hp : ¬ (k = 1 ∨ k = 2)) (hE : pckE k c to a b n t = 0) (hn : n = body.length) (hbb : Byt body) (bk : Nat) (key : List Int) (hkl : key.length ≤ 999999000) (hkb : Byt key) (w : World) (hK : KeyR w bk key) (hb : RdSl w p u8V body) :
    CallM Tryz.prog 156 [.agg ⟨pkC k c to a b p n cap t⟩, .pointer (some ⟨bk, 0, none⟩)] [] w fun v L => ∃ ov, OvOk 1 ov n (u8s body) ∧ v = .tuple #[.agg ⟨pkC k c to a b (ovp ov) n (ovc ov n) (pkT key k c to a b body)⟩, .int .i64 0] ∧ L = blkL 5 ov (u8s body) := by
  have hz : (zI 32).length = 32 := rfl
  have hE0 : pckE k c to a b n (zI 32) = 0 := by rw [pckE_np (zI 32) t hp]; exact hE
  have hn5 : n ≤ 512 := (pckE_zero hE).2.2.2.2.1
  have hh := fun w1 (hc : Chg [] w w1) => phead_ok k c to a b p n cap (zI 32) body hz hE0 hn w1 (hb.chg hc (Off.nil _))
  have hpl := pplain_ok k
  rw [decide_eq_false hp] at hpl
  have hcl := fun w1 (hc : Chg [] w w1) => clone_ok p n cap body hn (by omega) w1 (hb.chg hc (Off.nil _))
  have hHl := pkH_len k c to a b body
  have hHb := pkH_byt k c to a b hbb
  have htg := fun pp c2 (x : Pt) w1 (hx : x.xs = pkH k c to a b body) (hc : Chg [] w w1) (h1 : RdSl w1 pp Pt.v [x]) (h2 : RdSl w1 x.p u8V x.xs) => ktag_ok bk key hkl hkb pp 1 c2 [x] rfl (by rw [cat1, hx]; exact hHb) (by rw [cat1, hx, hHl]; omega) (by decide) w1 (hK.chg hc) h1 (by simp only [List.mem_cons, List.not_mem_nil, or_false, forall_eq]; exact h2)
  have htl : (pkT key k c to a b body).length = 32 := by unfold pkT; exact hmac_len _ _
  have htd : ∀ x : Pt, x.xs = pkH k c to a b body → hmacI key (cat [x]) = pkT key k c to a b body := fun x hx => by rw [cat1, hx]; rfl
  have hs1 := pk_set k c to a b p n cap ht hz
  have hl0 := pk_len k c to a b p n cap hz
  have hl1 := fun p2 cap2 => pk_len k c to a b p2 n cap2 htl
  have ho1 := fun p2 cap2 => pk_one k c to a b p2 n cap2 (pkT key k c to a b body)
  have hs2 := fun p2 cap2 => pk_set k c to a b p2 n cap2 hz htl
  generalize pkT key k c to a b body = TG at *
  generalize pkH k c to a b body = HH at *
  have htl2 : (u8s TG).length = 32 := by rw [u8s_len, htl]
  refine enterK (tb := tb) Tryz.func156 rfl Tryz.ntmps156 rfl ?_
  simp only [pkC] at hh hl0 hl1 ho1 hs1 hs2 ⊢
  repeat' (first | (apply R.is1; first | (apply R.isBin; (apply R.pure; exact rfl; first | (apply Ok1.eqlP; (iterate 5 exact rfl)) | (apply Ok1.neq_f; exact rfl; exact rfl; omega))) | (apply R.isCall; first | apply R.callP rfl rfl rfl hpl | (apply R.callE (vs := [.agg _]); (iterate 3 exact rfl); exact Ext.none _; intro w1 hw1; exact hh w1 hw1.chg; rintro v Lo ⟨bj, junk, rfl, rfl⟩) | (apply R.callE (vs := [.slice p n cap]); (iterate 3 exact rfl); exact Ext.none _; intro w1 hw1; exact hcl w1 hw1.chg; rintro v Lo ⟨ov1, hov1, hso1, rfl, rfl⟩; rw [slV_eq hov1]) | (apply R.callW (vs := [.pointer (some ⟨bk, 0, none⟩), .slice _ 1 1]); (iterate 3 exact rfl); intro w1 hw1; exact htg _ _ ⟨some ⟨bj, 0, none⟩, HH.length, HH⟩ w1 rfl hw1.chg (RdSl.of (v := Pt.v) (rs := [⟨some ⟨bj, 0, none⟩, HH.length, HH⟩]) (junk := []) hw1 .head rfl) (RdSl.of hw1 (by (focus ((repeat' (first | exact At.head | apply At.tail | apply At.right)); done))) (by rw [fl_u8])); intro v hv; rw [htd _ rfl] at hv; subst hv)) | (apply R.pure; exact rfl; first | (apply Ok1.load; exact rfl; first | (apply Ld.own1; exact rfl; exact rfl; (focus ((repeat' (first | exact At.head | apply At.tail)); done)); exact rfl) | (apply Ld.ownk; exact rfl; exact rfl; (focus ((repeat' (first | exact At.head | apply At.tail | apply At.right)); done)); exact rfl) | (apply Ld.ownk; exact rfl; exact rfl; (focus ((repeat' (first | exact At.head | apply At.tail | apply At.right)); done)); exact subE_all (hl1 _ _))) | (apply Ok1.move; exact rfl) | (apply Ok1.fieldAddr; (iterate 5 exact rfl)) | (apply Ok1.assign; exact rfl) | (apply Ok1.extract; exact rfl; exact rfl) | (apply Ok1.buildA; (iterate 6 exact rfl))) | (apply R.box; (iterate 3 exact rfl); intro) | (apply R.alloc; (iterate 3 exact rfl); intro) | (apply R.buildSlice; (iterate 12 exact rfl); intro)) | (apply R.is0; first | (apply R.store; (iterate 6 exact rfl); (focus ((repeat' (first | exact Upd.head | apply Upd.tail | apply Upd.right)); done)); exact hs1) | (apply R.store; (iterate 4 exact rfl); exact htl2; exact u8s_one _; (focus ((repeat' (first | exact Upd.head | apply Upd.tail | apply Upd.right)); done)); exact hs2 _ _) | (apply R.store; (iterate 4 exact rfl); exact (hl1 _ _); exact (ho1 _ _); (focus ((repeat' (first | exact Upd.head | apply Upd.tail | apply Upd.right)); done)); exact setE_all (hl1 _ _)) | (apply R.store; (iterate 6 exact rfl); (focus ((repeat' (first | exact Upd.head | apply Upd.tail | apply Upd.right)); done)); exact rfl)) | apply R.nil | (apply T.is; first | apply T.seq | apply T.region | apply T.block | apply T.skip | apply T.ret | (apply T.cond_f; exact rfl)))
  (apply RetOk.ct; exact rfl; (apply Ld.ownk; exact rfl; exact rfl; (focus ((repeat' (first | exact At.head | apply At.tail | apply At.right)); done)); exact subE_all (hl1 _ _)); exact rfl)
  exact ⟨_, by (focus ((repeat' (first | exact Ext.here _ _ | apply Keep.last | apply Ext.cons)); done)), ov1, hov1, rfl, rfl⟩
end Go.Proofs.YtidjnjlejhoalaaGreat
set_option linter.unusedSimpArgs false
set_option linter.unusedVariables false
namespace Go.Proofs.YtidjnjlejhoalaaGreat
open Go.RowKit Go.Shelf
set_option maxRecDepth 100000
theorem rown_ok (br : Nat) (c : Cl) (s : List Int) (hs : s.length = 32) (m1 m2 : Nat) (e : TypeId) (w : World) (hb : w.heap[br]? = some (.cells ⟨ringC c s m1 m2⟩ e (0, 0))) :
    CallM Tryz.prog 69 [.pointer (some ⟨br, 0, none⟩)] [] w fun v L => v = .agg ⟨tkC c s⟩ ∧ L = [] := by
  have htk := ring_tk c hs m1 m2
  have htl := tk_len (c := c) hs
  have hto := tk_one c s
  refine enterK (tb := tb) Tryz.func69 rfl Tryz.ntmps69 rfl ?_
  repeat' (first | (apply R.is1; first | (apply R.isBin; (apply R.pure; exact rfl; (apply Ok1.eqlP; (iterate 5 exact rfl)))) | (apply R.pure; exact rfl; first | (apply Ok1.load; exact rfl; (apply Ld.blkk; exact rfl; exact rfl; exact hb; exact List.not_mem_nil; exact htk)) | (apply Ok1.move; exact rfl) | (apply Ok1.fieldAddr; (iterate 5 exact rfl)) | (apply Ok1.nilCheck; exact rfl)) | (apply R.alloc; (iterate 3 exact rfl); intro)) | (apply R.is0; (apply R.store; (iterate 4 exact rfl); exact htl; exact hto; exact Upd.head; exact setE_all htl)) | apply R.nil | (apply T.is; first | apply T.seq | apply T.region | apply T.skip | apply T.ret | (apply T.cond_f; exact rfl)))
  (apply RetOk.c; exact rfl; (apply Ld.ownk; exact rfl; exact rfl; exact At.head; exact subE_all htl))
  exact ⟨_, by (focus ((repeat' (exact Keep.nil _)); done)), rfl, rfl⟩
theorem wstart_ok (boot : Int) (h : NR boot 1) (w : World) : CallM Tryz.prog 162 [.int .i64 boot] [] w fun v L => ∃ b, v = .tuple #[.pointer (some ⟨b, 0, none⟩), .int .i64 0] ∧ L = [(b, .cells ⟨[.int .i64 boot, .int .i64 0]⟩ 379 (0, 0))] := by
  have hck := nonce_ok boot 1
  rw [if_pos h] at hck
  refine enterK (tb := tb) Tryz.func162 rfl Tryz.ntmps162 rfl ?_
  repeat' (first | (apply R.is1; first | (apply R.isBin; (apply R.pure; exact rfl; (apply Ok1.neq_f; exact rfl; exact rfl; omega))) | (apply R.isCall; apply R.callP rfl rfl rfl hck) | (apply R.pure; exact rfl; first | (apply Ok1.move; exact rfl) | (apply Ok1.assign; exact rfl) | (apply Ok1.build; (iterate 5 exact rfl))) | (apply R.box; (iterate 3 exact rfl); intro)) | apply R.nil | (apply T.is; first | apply T.seq | apply T.region | apply T.skip | apply T.ret | (apply T.cond_f; exact rfl)))
  (apply RetOk.tt; exact rfl; exact rfl)
  exact ⟨_, by (focus ((repeat' (first | exact Keep.nil _ | exact Ext.one _ _ | apply Keep.cons)); done)), _, rfl, rfl⟩
theorem wnext_ok (b : Nat) (boot n : Int) (h0 : 0 ≤ n) (h : n < 2147483647) (w : World) : CallM Tryz.prog 153 [.pointer (some ⟨b, 0, none⟩)] [(b, .cells ⟨[.int .i64 boot, .int .i64 n]⟩ 379 (0, 0))] w fun v L => v = .tuple #[.agg ⟨[.int .i64 boot, .int .i64 (n + 1)]⟩, .int .i64 0] ∧ L = [(b, .cells ⟨[.int .i64 boot, .int .i64 (n + 1)]⟩ 379 (0, 0))] := by
  refine enterK (tb := tb) Tryz.func153 rfl Tryz.ntmps153 rfl ?_
  repeat' (first | (apply R.is1; first | (apply R.isBin; (apply R.pure; exact rfl; first | (apply Ok1.eqlP; (iterate 5 exact rfl)) | (apply Ok1.add64; exact rfl; exact rfl; omega; omega) | (apply Ok1.eql_f; exact rfl; exact rfl; omega))) | (apply R.pure; exact rfl; first | (apply Ok1.move; exact rfl) | (apply Ok1.fieldAddr; (iterate 5 exact rfl)) | (apply Ok1.load; exact rfl; first | (apply Ld.own1; exact rfl; exact rfl; (focus ((repeat' (first | exact At.head | apply At.tail)); done)); exact rfl) | (apply Ld.ownk; exact rfl; exact rfl; (focus ((repeat' (first | exact At.head | apply At.tail)); done)); exact rfl)) | (apply Ok1.assign; exact rfl) | (apply Ok1.nilCheck; exact rfl)) | (apply R.alloc; (iterate 3 exact rfl); intro)) | (apply R.is0; (apply R.store; (iterate 6 exact rfl); (focus ((repeat' (first | exact Upd.head | apply Upd.tail)); done)); exact rfl)) | apply R.nil | (apply T.is; first | apply T.seq | apply T.region | apply T.block | apply T.skip | apply T.ret | (apply T.cond_f; exact rfl)))
  (apply RetOk.ct; exact rfl; (apply Ld.ownk; exact rfl; exact rfl; exact At.head; exact rfl); exact rfl)
  exact ⟨_, by (focus ((repeat' (first | exact Keep.nil _ | exact Ext.one _ _ | apply Keep.cons | apply Ext.cons)); done)), rfl, rfl⟩
theorem dnew_ok (w : World) : CallM Tryz.prog 163 [.int .i64 2147483647] [] w fun v L => ∃ b cs, v = .tuple #[.pointer (some ⟨b, 0, none⟩), .int .i64 0] ∧ L = [(b, .cells ⟨cs⟩ 385 (0, 0))] := by
  refine enterK (tb := tb) Tryz.func163 rfl Tryz.ntmps163 rfl ?_
  repeat' (first | (apply R.is1; first | (apply R.isBin; (apply R.pure; exact rfl; first | (apply Ok1.lss_f; exact rfl; exact rfl; omega) | (apply Ok1.gtr_f; exact rfl; exact rfl; omega))) | (apply R.pure; exact rfl; first | (apply Ok1.move; exact rfl) | (apply Ok1.assign; exact rfl) | (apply Ok1.build; (iterate 5 exact rfl)) | (apply Ok1.pick_f; exact rfl; exact rfl)) | (apply R.box; (iterate 3 exact rfl); intro)) | (apply R.isG; (apply R.guard_run; exact rfl; exact rfl)) | apply R.nil | (apply T.is; first | apply T.seq | apply T.region | apply T.skip | apply T.ret | (apply T.cond_f; exact rfl)))
  (apply RetOk.tt; exact rfl; exact rfl)
  exact ⟨_, by (focus ((repeat' (first | exact Keep.nil _ | exact Ext.one _ _ | apply Keep.cons)); done)), _, _, rfl, rfl⟩
end Go.Proofs.YtidjnjlejhoalaaGreat
set_option linter.unusedSimpArgs false
set_option linter.unusedVariables false
namespace Go.Proofs.YtidjnjlejhoalaaGreat
open Go.RowKit Go.Shelf
set_option maxRecDepth 100000
/-- Four windows that have taken nothing. -/
def wz4 : List Value := [.int .i64 0, .int .i64 0, .int .u64 0, .int .i64 0, .int .i64 0, .int .u64 0, .int .i64 0, .int .i64 0, .int .u64 0, .int .i64 0, .int .i64 0, .int .u64 0]
/-- A channel's cells. -/
def chC (bn br bb bd : Nat) (sd : List Value) : List Value := [.pointer (some ⟨bn, 0, none⟩), .pointer (some ⟨br, 0, none⟩), .pointer (some ⟨bb, 0, none⟩), .pointer (some ⟨bd, 0, none⟩)] ++ sd
/-- What a new channel is made of. -/
def ChL (bc bn br bb bd bm m1 m2 : Nat) (c : Cl) (s : List Int) (boot : Int) (sd dr : List Value) : Lst := (bc, .cells ⟨chC bn br bb bd sd⟩ 275 (0, 0)) :: ((bn, .cells ⟨[.int .i64 boot, .int .i64 0]⟩ 379 (0, 0)) :: ((bd, .cells ⟨dr⟩ 385 (0, 0)) :: (RL0 br m1 m2 c s ++ BL bb bm [] 0)))
theorem chnew_ok (c : Cl) (hr : c.right) (s : List Int) (hs : s.length = 32) (boot : Int) (hb : NR boot 1) (w : World) : CallM Tryz.prog 63 [.agg ⟨tkC c s⟩, .int .i64 boot] [] w fun v L => ∃ bc bn br bb bd bm m1 m2 sd dr, v = .tuple #[.pointer (some ⟨bc, 0, none⟩), .int .i64 0] ∧ L = ChL bc bn br bb bd bm m1 m2 c s boot sd dr := by
  have htl := tk_len (c := c) hs
  have h1 := fun w1 => ring_new c hr s hs w1
  have h2 := fun w1 => wstart_ok boot hb w1
  refine enterK (tb := tb) Tryz.func63 rfl Tryz.ntmps63 rfl ?_
  repeat' (first | (apply R.is1; first | (apply R.isBin; (apply R.pure; exact rfl; (apply Ok1.neq_f; exact rfl; exact rfl; omega))) | (apply R.isCall; first | (apply R.callE (vs := [.agg ⟨tkC c s⟩]); (iterate 3 exact rfl); exact Ext.none _; intro w1 hw1; exact h1 w1; rintro x Lo ⟨br, m1, m2, rfl, rfl⟩) | (apply R.callE (vs := [.int .i64 boot]); (iterate 3 exact rfl); exact Ext.none _; intro w1 hw1; exact h2 w1; rintro x Lo ⟨bn, rfl, rfl⟩) | (apply R.callE (vs := [.int .i64 2147483647]); (iterate 3 exact rfl); exact Ext.none _; intro w1 hw1; exact dnew_ok w1; rintro x Lo ⟨bd, dr, rfl, rfl⟩) | (apply R.callE (vs := []); (iterate 3 exact rfl); exact Ext.none _; intro w1 hw1; exact New_ok w1; rintro x Lo ⟨bb, bm, rfl, rfl⟩)) | (apply R.pure; exact rfl; first | (apply Ok1.load; exact rfl; (apply Ld.ownk; exact rfl; exact rfl; exact At.head; exact subE_all htl)) | (apply Ok1.move; exact rfl) | (apply Ok1.assign; exact rfl) | (apply Ok1.build; (iterate 5 exact rfl)) | (apply Ok1.extract; exact rfl; exact rfl)) | (apply R.box; (iterate 3 exact rfl); intro)) | apply R.nil | (apply T.is; first | apply T.seq | apply T.region | apply T.skip | apply T.ret | (apply T.cond_f; exact rfl)))
  rename_i bc
  (apply RetOk.tt; exact rfl; exact rfl)
  refine ⟨_, ?_, bc, bn, br, bb, bd, bm, m1, m2, wz4, dr, rfl, rfl⟩
  unfold ChL chC wz4
  (focus ((repeat' (first | exact Keep.nil _ | exact Ext.one _ _ | apply Keep.cons | apply Ext.cons)); done))
theorem chown_ok (bc bn br bb bd : Nat) (sd : List Value) (e1 : TypeId) (f1 : Nat × Nat) (c : Cl) (s : List Int) (hs : s.length = 32) (m1 m2 : Nat) (e : TypeId) (w : World) (hc : w.heap[bc]? = some (.cells ⟨chC bn br bb bd sd⟩ e1 f1)) (hb : w.heap[br]? = some (.cells ⟨ringC c s m1 m2⟩ e (0, 0))) :
    CallM Tryz.prog 154 [.pointer (some ⟨bc, 0, none⟩)] [] w fun v L => v = .agg ⟨clC c⟩ ∧ L = [] := by
  have hown := fun w1 (h : Chg [] w w1) => rown_ok br c s hs m1 m2 e w1 (h.heap hb List.not_mem_nil)
  have htc := tk_cl c s
  unfold chC at hc
  refine enterK (tb := tb) Tryz.func154 rfl Tryz.ntmps154 rfl ?_
  repeat' (first | (apply R.is1; first | (apply R.isCall; (apply R.callE (vs := [.pointer (some ⟨br, 0, none⟩)]); (iterate 3 exact rfl); exact Ext.none _; intro w1 hw1; exact hown w1 hw1.chg; rintro x Lo ⟨rfl, rfl⟩)) | (apply R.pure; exact rfl; first | (apply Ok1.load; exact rfl; (apply Ld.blk1; exact rfl; exact rfl; exact hc; exact List.not_mem_nil; exact rfl)) | (apply Ok1.fieldk; (iterate 6 exact rfl); exact htc) | (apply Ok1.move; exact rfl) | (apply Ok1.fieldAddr; (iterate 5 exact rfl)) | (apply Ok1.nilCheck; exact rfl)) | (apply R.alloc; (iterate 3 exact rfl); intro)) | (apply R.is0; (apply R.store; (iterate 6 exact rfl); exact Upd.head; exact rfl)) | apply R.nil | (apply T.is; first | apply T.seq | apply T.region | apply T.ret))
  all_goals (apply RetOk.c; exact rfl; (apply Ld.ownk; exact rfl; exact rfl; exact At.head; exact rfl))
  exact ⟨_, by (focus ((repeat' (exact Keep.nil _)); done)), rfl, rfl⟩
/-- A kind's way. -/
def wayI (k : Int) : Int := if k = 1 ∨ k = 3 ∨ k = 5 ∨ k = 11 ∨ k = 14 then 1 else if k = 2 ∨ k = 4 ∨ k = 6 ∨ k = 12 then 2 else if k = 7 ∨ k = 8 ∨ k = 9 ∨ k = 10 ∨ k = 13 then 3 else 0
theorem way_ok (k : Int) : CallP Tryz.prog 62 [.int .i64 k] (.int .i64 (wayI k)) := by
  refine enterP (tb := tb) Tryz.func62 rfl Tryz.ntmps62 rfl fun w => ?_
  repeat' (first | (apply R.is1; first | (apply R.isBin; (apply R.eql rfl rfl rfl <;> intro)) | (apply R.pure; exact rfl; first | (apply Ok1.move; exact rfl) | (apply Ok1.assign; exact rfl))) | apply R.nil | (apply T.is; first | apply T.seq | apply T.region | apply T.block | apply T.skip | apply T.ret | (apply T.cond_t; exact rfl) | (apply T.cond_f; exact rfl)))
  all_goals (apply RetOk.t; exact rfl)
  all_goals (simp only [wayI]; congr 1; (repeat' split) <;> omega)
end Go.Proofs.YtidjnjlejhoalaaGreat
