/- The document's numbers in parts of 16 bits: parts, times. -/
import Derived.Test.YtiegdpmkgegbaaaRf2
set_option linter.unusedSimpArgs false
set_option linter.unusedVariables false
namespace Go.Proofs.Ytiegdpmkgegbaaa
open Go.RowKit Go.Shelf
set_option maxRecDepth 100000

def u64n (l : List Nat) : List Value := l.map fun (d : Nat) => .int .u64 (d : Int)
def dig : Nat → Nat → List Nat
  | 0, _ => []
  | n + 1, v => v % 65536 :: dig n (v / 65536)
def val : List Nat → Nat
  | [] => 0
  | d :: r => d + 65536 * val r
theorem dig_len (n v : Nat) : (dig n v).length = n := by
  induction n generalizing v with
  | zero => rfl
  | succ n ih => simp [dig, ih]
theorem dig_get (n v i : Nat) (h : i < n) : (dig n v).getD i 0 = v / 65536 ^ i % 65536 := by
  induction n generalizing v i with
  | zero => omega
  | succ n ih =>
    cases i with
    | zero => simp [dig]
    | succ i =>
      have := ih (v / 65536) i (by omega)
      simp only [dig, List.getD_cons_succ, this, Nat.div_div_eq_div_mul]
      rw [Nat.pow_succ, Nat.mul_comm]
theorem dig_lt (n v : Nat) : ∀ d ∈ dig n v, d < 65536 := by
  induction n generalizing v with
  | zero => intro d hd; cases hd
  | succ n ih =>
    intro d hd
    rcases List.mem_cons.1 hd with rfl | hd
    · exact Nat.mod_lt _ (by decide)
    · exact ih _ d hd
theorem val_lt {l : List Nat} (h : ∀ d ∈ l, d < 65536) : val l < 65536 ^ l.length := by
  induction l with
  | nil => simp [val]
  | cons d l ih =>
    have h1 := ih fun x hx => h x (List.mem_cons_of_mem _ hx)
    have h2 := h d List.mem_cons_self
    simp only [val, List.length_cons, Nat.pow_succ]
    omega
theorem dig_val {l : List Nat} (h : ∀ d ∈ l, d < 65536) : dig l.length (val l) = l := by
  induction l with
  | nil => rfl
  | cons d l ih =>
    have h1 := ih fun x hx => h x (List.mem_cons_of_mem _ hx)
    have h2 := h d List.mem_cons_self
    simp only [val, List.length_cons, dig]
    rw [show (d + 65536 * val l) % 65536 = d by omega, show (d + 65536 * val l) / 65536 = val l by omega, h1]
theorem dig_mod (n v : Nat) : dig n (v % 65536 ^ n) = dig n v := by
  induction n generalizing v with
  | zero => rfl
  | succ n ih =>
    simp only [dig]
    have h1 : v % 65536 ^ (n + 1) % 65536 = v % 65536 := Nat.mod_mod_of_dvd v (by rw [Nat.pow_succ]; exact Nat.dvd_mul_left _ _)
    have h2 : v % 65536 ^ (n + 1) / 65536 = v / 65536 % 65536 ^ n := by
      rw [Nat.pow_succ, Nat.mul_comm, Nat.mod_mul_right_div_self]
    rw [h1, h2, ih]
theorem val_set (l : List Nat) (i x : Nat) (h : i < l.length) : val (l.set i x) + l.getD i 0 * 65536 ^ i = val l + x * 65536 ^ i := by
  induction l generalizing i with
  | nil => simp at h
  | cons d l ih =>
    cases i with
    | zero => simp [val]; omega
    | succ i =>
      have := ih i (by simpa using h)
      simp only [List.set_cons_succ, val, List.getD_cons_succ]
      rw [Nat.pow_succ, ← Nat.mul_assoc, ← Nat.mul_assoc]
      omega
theorem mod_step (A i : Nat) : A % 65536 ^ (i + 1) = A % 65536 ^ i + A / 65536 ^ i % 65536 * 65536 ^ i := by
  rw [Nat.pow_succ, Nat.mod_mul, Nat.mul_comm (65536 ^ i)]
/-- One step of the inner loop. -/
theorem inner_step {Z Z' Z0 ov a B z i k : Nat} (hset : Z' + z * 65536 ^ (i + k) = Z + (ov + z + a * (B / 65536 ^ k % 65536)) % 65536 * 65536 ^ (i + k))
    (h : Z + ov * 65536 ^ (i + k) = Z0 + a * (B % 65536 ^ k) * 65536 ^ i) :
    Z' + (ov + z + a * (B / 65536 ^ k % 65536)) / 65536 * 65536 ^ (i + (k + 1)) = Z0 + a * (B % 65536 ^ (k + 1)) * 65536 ^ i := by
  rw [mod_step B k]
  generalize B / 65536 ^ k % 65536 = b at *
  have e1 : a * (B % 65536 ^ k + b * 65536 ^ k) * 65536 ^ i = a * (B % 65536 ^ k) * 65536 ^ i + a * b * 65536 ^ (i + k) := by rw [Nat.mul_add a, Nat.add_mul, Nat.pow_add, ← Nat.mul_assoc a, Nat.mul_assoc (a * b), Nat.mul_comm (65536 ^ k)]
  rw [e1, ← Nat.add_assoc Z0, ← h, show i + (k + 1) = (i + k) + 1 by omega, Nat.pow_succ]
  generalize 65536 ^ (i + k) = P at *
  have h4 := Nat.div_add_mod (ov + z + a * b) 65536
  generalize (ov + z + a * b) / 65536 = q at *
  generalize (ov + z + a * b) % 65536 = m at *
  have h5 : (65536 * q + m) * P = (ov + z + a * b) * P := by rw [h4]
  rw [Nat.add_mul, Nat.add_mul, Nat.add_mul, Nat.mul_comm 65536 q, Nat.mul_assoc] at h5
  rw [Nat.mul_comm P 65536]
  generalize q * (65536 * P) = s1 at *
  generalize m * P = s2 at *
  generalize ov * P = s3 at *
  generalize z * P = s4 at *
  generalize a * b * P = s5 at *
  omega
theorem outer_step {Z Z0 ov A B i : Nat} (hi : i ≤ 12) (h0 : Z0 % 65536 ^ 12 = (A % 65536 ^ i * B) % 65536 ^ 12)
    (h : Z + ov * 65536 ^ 12 = Z0 + (A / 65536 ^ i % 65536) * (B % 65536 ^ (12 - i)) * 65536 ^ i) : Z % 65536 ^ 12 = (A % 65536 ^ (i + 1) * B) % 65536 ^ 12 := by
  have h1 : Z % 65536 ^ 12 = (Z + ov * 65536 ^ 12) % 65536 ^ 12 := by rw [Nat.add_mul_mod_self_right]
  rw [h1, h, mod_step A i, Nat.add_mul]
  generalize A / 65536 ^ i % 65536 = a
  have h2 : (a * (B % 65536 ^ (12 - i)) * 65536 ^ i) % 65536 ^ 12 = (a * 65536 ^ i * B) % 65536 ^ 12 := by
    have e : 65536 ^ 12 = 65536 ^ i * 65536 ^ (12 - i) := by rw [← Nat.pow_add]; congr 1; omega
    rw [Nat.mul_comm _ (65536 ^ i), Nat.mul_comm a (65536 ^ i), Nat.mul_assoc (65536 ^ i) a B, e, Nat.mul_mod_mul_left, Nat.mul_mod_mul_left]
    rw [Nat.mul_mod a (B % _), Nat.mod_mod, ← Nat.mul_mod]
  rw [Nat.add_mod, h0, h2, ← Nat.add_mod]
theorem parts_ok (y : Nat) (hy : y < 18446744073709551616) : CallP Try.prog 70 [.int .u64 y] (.agg ⟨u64n (dig 12 y)⟩) := by
  refine enterP (tb := tb) Try.func70 rfl Try.ntmps70 rfl fun w => ?_
  repeat' (first | (apply R.is1; first | (apply R.isBin; (apply R.pure; exact rfl; first | (apply Ok1.quoU; exact rfl; exact rfl; omega; omega; omega) | (apply Ok1.add64; exact rfl; exact rfl; omega; omega) | (apply Ok1.lss_t; exact rfl; exact rfl; omega) | (apply Ok1.lss_f; exact rfl; exact rfl; omega) | (apply Ok1.remN; exact rfl; exact rfl; omega; omega))) | (apply R.pure; exact rfl; first | (apply Ok1.move; exact rfl) | (apply Ok1.load; exact rfl; (apply Ld.ownk; exact rfl; exact rfl; exact At.head; exact rfl)) | (apply Ok1.assign; exact rfl) | (apply Ok1.indexAddrA; (iterate 5 exact rfl); omega; omega) | (apply Ok1.buildA; (iterate 6 exact rfl))) | (apply R.alloc; (iterate 3 exact rfl); intro)) | (apply R.is0; (apply R.store; (iterate 6 exact rfl); (focus ((repeat' (first | exact Upd.head | apply Upd.tail)); done)); exact rfl)) | apply R.nil | (apply T.is; first | apply T.rounds 5 | apply T.seq | apply T.region | apply T.block | apply T.skip | apply T.exit | apply T.ret | (apply T.cond_t; exact rfl) | (apply T.cond_f; exact rfl)))
  (apply RetOk.c; exact rfl; ((apply Ld.ownk; exact rfl; exact rfl; (focus ((repeat' (first | exact At.head | apply At.tail)); done)); exact rfl)))
  have h0 : y / 65536 / 65536 / 65536 / 65536 = 0 := by omega
  have h1 : ∀ n, dig n 0 = List.replicate n 0 := by
    intro n
    induction n with
    | zero => rfl
    | succ n ih => simp [dig, ih, List.replicate_succ]
  have h2 : dig 12 y = y % 65536 :: y / 65536 % 65536 :: y / 65536 / 65536 % 65536 :: y / 65536 / 65536 / 65536 % 65536 :: dig 8 (y / 65536 / 65536 / 65536 / 65536) := rfl
  rw [h2, h0, h1]
  simp only [u64n, List.map_cons, Int.natCast_emod, Int.natCast_ediv]
  rfl
theorem u64n_len (l : List Nat) : (u64n l).length = l.length := by simp [u64n]
theorem u64n_get {l : List Nat} {o : Nat} (h : o < l.length) : (u64n l)[o]? = some (.int .u64 (l.getD o 0 : Nat)) := by simp [u64n, h]
theorem u64n_one (l : List Nat) : (u64n l).all Value.oneCell' = true := by rw [List.all_eq_true]; intro x hx; obtain ⟨y, _, rfl⟩ := List.mem_map.1 hx; rfl
theorem u64n_set {l : List Nat} {o x : Nat} (h : o < l.length) : setE (u64n l) o [.int .u64 (x : Int)] = some (u64n (l.set o x)) := by
  rw [setE_one (by rw [u64n_len]; exact h)]
  simp [u64n, List.map_set]
theorem times_ok (U V : Nat) : CallP Try.prog 71 [.agg ⟨u64n (dig 12 U)⟩, .agg ⟨u64n (dig 12 V)⟩] (.agg ⟨u64n (dig 12 (U * V))⟩) := by
  refine enterP (tb := tb) Try.func71 rfl Try.ntmps71 rfl fun w => ?_
  have hla := dig_len 12 U
  have hlb := dig_len 12 V
  have hga : ∀ i : Nat, i < 12 → (u64n (dig 12 U))[0 + (i : Int).toNat * 1]? = some (.int .u64 (U / 65536 ^ i % 65536 : Nat)) := fun i hi => by rw [← dig_get 12 U i hi]; rw [show 0 + (i : Int).toNat * 1 = i by omega]; exact u64n_get (by omega)
  have hgb : ∀ i : Nat, i < 12 → (u64n (dig 12 V))[0 + (i : Int).toNat * 1]? = some (.int .u64 (V / 65536 ^ i % 65536 : Nat)) := fun i hi => by rw [← dig_get 12 V i hi]; rw [show 0 + (i : Int).toNat * 1 = i by omega]; exact u64n_get (by omega)
  have hca : cellsE (.agg ⟨u64n (dig 12 U)⟩) = some (u64n (dig 12 U)) := rfl
  generalize hAv : u64n (dig 12 U) = av at *
  generalize hBv : u64n (dig 12 V) = bv at *
  repeat' (first | (apply R.is1; first | (apply R.pure; exact rfl; first | (apply Ok1.assign; exact rfl) | (apply Ok1.buildA; (iterate 6 exact rfl))) | (apply R.box; (iterate 3 exact rfl); intro) | (apply R.alloc; (iterate 3 exact rfl); intro)) | (apply R.is0; (apply R.store; (iterate 6 exact rfl); exact Upd.head; exact rfl)) | apply R.nil | (apply T.is; first | apply T.seq | apply T.region | apply T.block))
  rename_i bA bB bO bZ
  apply T.loopK (α := Nat × List Nat) (I := fun x => x.1 ≤ 12 ∧ x.2.length = 12 ∧ (∀ d ∈ x.2, d < 65536) ∧ val x.2 % 65536 ^ 12 = (U % 65536 ^ x.1 * V) % 65536 ^ 12) (σi := fun x => [(2, .pointer (some ⟨bA, 0, none⟩)), (3, .pointer (some ⟨bB, 0, none⟩)), (4, .pointer (some ⟨bO, 0, none⟩)), (5, .pointer (some ⟨bZ, 0, none⟩)), (6, .int .i64 x.1)])
    (Li := fun x => [(bZ, .cells ⟨u64n x.2⟩ 128 (0, 0)), (bO, .cells ⟨List.replicate 12 (.int .u64 0)⟩ 128 (0, 0)), (bB, .cells ⟨bv⟩ 128 (0, 0)), (bA, .cells ⟨av⟩ 128 (0, 0))]) (μ := fun x => 12 - x.1) (i0 := (0, List.replicate 12 0))
  · refine ⟨by decide, rfl, ?_, ?_⟩
    · intro d hd; rw [List.eq_of_mem_replicate hd]; decide
    · simp only [Nat.pow_zero, Nat.mod_one, Nat.zero_mul]; rfl
  · exact ⟨rfl, rfl, rfl, rfl, rfl, trivial⟩
  · (focus ((repeat' (first | exact Keep.nil _ | exact Ext.one _ _ | apply Keep.cons)); done))
  · rintro ⟨i, z0⟩ ⟨hi, hz0, hd0, hv0⟩
    simp only at hi hz0 hd0 hv0 ⊢
    rcases Nat.lt_or_ge i 12 with hlt | hge
    · repeat' (first | (apply R.is1; first | (apply R.isBin; (apply R.pure; exact rfl; (apply Ok1.lss_t; exact rfl; exact rfl; omega))) | (apply R.pure; exact rfl; first | (apply Ok1.move; exact rfl) | (apply Ok1.assign; exact rfl))) | apply R.nil | (apply T.is; first | apply T.seq | apply T.region | apply T.block | apply T.skip | (apply T.cond_t; exact rfl)))
      have hai := hga i hlt
      have ha16 : U / 65536 ^ i % 65536 < 65536 := Nat.mod_lt _ (by decide)
      have hout := fun Z ov => @outer_step Z (val z0) ov U V i hi hv0
      generalize U / 65536 ^ i % 65536 = a at *
      apply T.loopK (α := Nat × Nat × List Nat) (I := fun x => i + x.1 ≤ 12 ∧ x.2.1 < 65536 ∧ x.2.2.length = 12 ∧ (∀ d ∈ x.2.2, d < 65536) ∧ val x.2.2 + x.2.1 * 65536 ^ (i + x.1) = val z0 + a * (V % 65536 ^ x.1) * 65536 ^ i) (σi := fun x => [(2, .pointer (some ⟨bA, 0, none⟩)), (3, .pointer (some ⟨bB, 0, none⟩)), (4, .pointer (some ⟨bO, 0, none⟩)), (5, .pointer (some ⟨bZ, 0, none⟩)), (6, .int .i64 i), (7, .int .u64 x.2.1), (8, .int .i64 x.1)])
        (Li := fun x => [(bZ, .cells ⟨u64n x.2.2⟩ 128 (0, 0)), (bO, .cells ⟨List.replicate 12 (.int .u64 0)⟩ 128 (0, 0)), (bB, .cells ⟨bv⟩ 128 (0, 0)), (bA, .cells ⟨av⟩ 128 (0, 0))]) (μ := fun x => 12 - x.1) (i0 := (0, 0, z0))
      · exact ⟨by omega, by simp only; omega, hz0, hd0, by simp [Nat.mod_one]⟩
      · exact ⟨rfl, rfl, rfl, rfl, rfl, rfl, rfl, trivial⟩
      · (focus ((repeat' (first | exact Keep.nil _ | exact Ext.one _ _ | apply Keep.cons)); done))
      · rintro ⟨k, ov, z⟩ ⟨hk, hov, hz, hd, hv⟩
        simp only at hk hov hz hd hv ⊢
        rcases Nat.lt_or_ge (i + k) 12 with hlt2 | hge2
        · have hbk := hgb k (by omega)
          have hb16 : V / 65536 ^ k % 65536 < 65536 := Nat.mod_lt _ (by decide)
          have hpos : 0 + ((i : Int) + (k : Int)).toNat * 1 = i + k := by omega
          have hzk : (u64n z)[0 + ((i : Int) + (k : Int)).toNat * 1]? = some (.int .u64 (z.getD (i + k) 0 : Nat)) := by rw [hpos]; exact u64n_get (by omega)
          have hzm : z.getD (i + k) 0 < 65536 := hd _ (by rw [List.getD_eq_getElem?_getD, List.getElem?_eq_getElem (by omega)]; exact List.getElem_mem _)
          have hvs := fun x => val_set z (i + k) x (by omega)
          have hstep := @inner_step (val z)
          generalize z.getD (i + k) 0 = zk at *
          have hst := fun Z' => @inner_step (val z) Z' (val z0) ov a V zk i k
          generalize V / 65536 ^ k % 65536 = b at *
          have hab : a * b ≤ 65535 * 65535 := Nat.mul_le_mul (by omega) (by omega)
          have hcast : ((a * b : Nat) : Int) = (a : Int) * (b : Int) := by push_cast; rfl
          have hab2 : (a : Int) * (b : Int) ≤ 4294836225 := by rw [← hcast]; omega
          have hab0 : 0 ≤ (a : Int) * (b : Int) := by rw [← hcast]; omega
          have hset : setE (u64n z) (0 + ((i : Int) + (k : Int)).toNat * 1) [.int .u64 (((ov : Int) + (zk : Int) + (a : Int) * (b : Int)) % 65536)] = some (u64n (z.set (i + k) ((ov + zk + a * b) % 65536))) := by
            rw [hpos, ← u64n_set (by omega)]
            congr 3
          have hdiv : ((ov : Int) + (zk : Int) + (a : Int) * (b : Int)) / 65536 = (((ov + zk + a * b) / 65536 : Nat) : Int) := by
            rw [Int.natCast_ediv, Int.natCast_add, Int.natCast_add, Int.natCast_mul]; rfl
          repeat' (first | (apply R.is1; first | (apply R.isBin; (apply R.pure; exact rfl; first | (apply Ok1.quoU; exact rfl; exact rfl; omega; omega; omega) | (apply Ok1.add64; exact rfl; exact rfl; omega; omega) | (apply Ok1.lss_t; exact rfl; exact rfl; omega) | (apply Ok1.remN; exact rfl; exact rfl; omega; omega))) | (apply R.pure; exact rfl; first | (apply Ok1.move; exact rfl) | (apply Ok1.assign; exact rfl) | (apply Ok1.indexAddrA; (iterate 5 exact rfl); omega; omega))) | (apply R.is0; (apply R.store; (iterate 6 exact rfl); exact Upd.head; exact hset)) | apply R.nil | (apply T.is; first | (apply T.drawC (id := 9) [0,2,3] (by decide); ((apply A.take 0; exact rfl; exact rfl; kernel_rfl; kernel_rfl; kernel_rfl; (apply Ok1.move; exact rfl)) <;> (apply A.take 1; exact rfl; exact rfl; kernel_rfl; kernel_rfl; kernel_rfl; (apply Ok1.move; exact rfl)) <;> (apply A.take 2; exact rfl; exact rfl; kernel_rfl; kernel_rfl; kernel_rfl; (apply Ok1.move; exact rfl)) <;> (apply A.take 3; exact rfl; exact rfl; kernel_rfl; kernel_rfl; kernel_rfl; (apply Ok1.add64; exact rfl; exact rfl; omega; omega)) <;> (apply A.take 4; exact rfl; exact rfl; kernel_rfl; kernel_rfl; kernel_rfl; (apply Ok1.indexAddrA; (iterate 5 exact rfl); omega; omega)) <;> (apply A.take 5; exact rfl; exact rfl; kernel_rfl; kernel_rfl; kernel_rfl; (apply Ok1.load; exact rfl; apply Ld.own1; exact rfl; exact rfl; exact At.head; with_reducible (exact hzk))) <;> (apply A.take 6; exact rfl; exact rfl; kernel_rfl; kernel_rfl; kernel_rfl; (apply Ok1.addU; exact rfl; exact rfl; omega; omega)) <;> (apply A.take 7; exact rfl; exact rfl; kernel_rfl; kernel_rfl; kernel_rfl; (apply Ok1.move; exact rfl)) <;> (apply A.take 8; exact rfl; exact rfl; kernel_rfl; kernel_rfl; kernel_rfl; (apply Ok1.indexAddrA; (iterate 5 exact rfl); omega; omega)) <;> (apply A.take 9; exact rfl; exact rfl; kernel_rfl; kernel_rfl; kernel_rfl; (apply Ok1.load; exact rfl; apply Ld.own1; exact rfl; exact rfl; (focus ((repeat' (first | exact At.head | apply At.tail)); done)); with_reducible (exact hai))) <;> (apply A.take 10; exact rfl; exact rfl; kernel_rfl; kernel_rfl; kernel_rfl; (apply Ok1.move; exact rfl)) <;> (apply A.take 11; exact rfl; exact rfl; kernel_rfl; kernel_rfl; kernel_rfl; (apply Ok1.indexAddrA; (iterate 5 exact rfl); omega; omega)) <;> (apply A.take 12; exact rfl; exact rfl; kernel_rfl; kernel_rfl; kernel_rfl; (apply Ok1.load; exact rfl; apply Ld.own1; exact rfl; exact rfl; (focus ((repeat' (first | exact At.head | apply At.tail)); done)); with_reducible (exact hbk))) <;> (apply A.take 13; exact rfl; exact rfl; kernel_rfl; kernel_rfl; kernel_rfl; (apply Ok1.mulU; exact rfl; exact rfl; omega; omega)) <;> (apply A.take 14; exact rfl; exact rfl; kernel_rfl; kernel_rfl; kernel_rfl; (apply Ok1.addU; exact rfl; exact rfl; omega; omega)) <;> (apply A.take 15; exact rfl; exact rfl; kernel_rfl; kernel_rfl; kernel_rfl; (apply Ok1.assign; exact rfl)) <;> (apply A.done; kernel_rfl))) | apply T.seq | apply T.region | apply T.block | apply T.skip | (apply T.cond_t; exact rfl)))
          refine ⟨(k + 1, (ov + zk + a * b) / 65536, z.set (i + k) ((ov + zk + a * b) % 65536)), ⟨by simp only; omega, by simp only; omega, by simp only [List.length_set]; exact hz, ?_, hst _ (hvs _) hv⟩, by simp only; omega, ⟨rfl, rfl, rfl, rfl, rfl, congrArg (fun z => some (Value.int .u64 z)) hdiv, rfl, trivial⟩, ?_⟩
          · intro d hdm
            rcases List.mem_or_eq_of_mem_set hdm with h | rfl
            · exact hd d h
            · exact Nat.mod_lt _ (by decide)
          · (focus ((repeat' (first | exact Keep.nil _ | exact Ext.one _ _ | apply Keep.cons)); done))
        · have he : i + k = 12 := by omega
          have hk2 : k = 12 - i := by omega
          rw [he, hk2] at hv
          have hv2 := hout _ _ hv
          repeat' (first | (apply R.is1; first | (apply R.isBin; (apply R.pure; exact rfl; first | (apply Ok1.add64; exact rfl; exact rfl; omega; omega) | (apply Ok1.lss_f; exact rfl; exact rfl; omega))) | (apply R.pure; exact rfl; first | (apply Ok1.move; exact rfl) | (apply Ok1.assign; exact rfl))) | apply R.nil | (apply T.is; first | apply T.seq | apply T.region | apply T.exit | (apply T.cond_f; exact rfl)))
          exact ⟨(i + 1, z), ⟨by simp only; omega, hz, hd, hv2⟩, by simp only; omega, ⟨rfl, rfl, rfl, rfl, rfl, trivial⟩, by (focus ((repeat' (first | exact Keep.nil _ | exact Ext.one _ _ | apply Keep.cons)); done))⟩
    · have he : i = 12 := by omega
      subst he
      have hfin : u64n z0 = u64n (dig 12 (U * V)) := by
        have h1 := dig_val hd0
        rw [hz0] at h1
        rw [← h1, ← dig_mod 12 (val z0), hv0, Nat.mod_mul_mod, dig_mod]
      rw [← hfin]
      have hl : (u64n z0).length = 12 := by rw [u64n_len, hz0]
      have ho := u64n_one z0
      repeat' (first | (apply R.is1; first | (apply R.isBin; (apply R.pure; exact rfl; (apply Ok1.lss_f; exact rfl; exact rfl; omega))) | (apply R.pure; exact rfl; first | (apply Ok1.load; exact rfl; apply Ld.ownk; exact rfl; exact rfl; exact At.head; exact subE_all hl) | (apply Ok1.move; exact rfl))) | (apply R.is0; (apply R.store; (iterate 4 exact rfl); exact hl; exact ho; (focus ((repeat' (first | exact Upd.head | apply Upd.tail)); done)); exact setE_all hl)) | apply R.nil | (apply T.is; first | apply T.seq | apply T.region | apply T.exit | apply T.ret | (apply T.cond_f; exact rfl)))
      apply RetOk.c
      exact rfl
      apply Ld.ownk
      exact rfl
      exact rfl
      (focus ((repeat' (first | exact At.head | apply At.tail)); done))
      exact subE_all hl
      rfl
end Go.Proofs.Ytiegdpmkgegbaaa
