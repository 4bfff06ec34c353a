/- Plain: deltas of beginnings of the same logs, in whichever order. -/
import Derived.Test.YtligpachgcmkcaaRs1
set_option linter.unusedSimpArgs false
set_option linter.unusedVariables false
namespace Go.Proofs.Ytligpachgcmkcaa
open Go.RowKit Go.Shelf

def maxs (us vs : List Int) : List Int := (us.zip vs).map fun x => max x.1 x.2
theorem je_max {xs : List Int} (hn : xs.Nodup) (hl : xs.length ≤ 256) {a b : Nat} (ha : a ≤ xs.length) (hb : b ≤ xs.length) : jE (xs.take a) (xs.take b) 0 = 0 ∧ jL (xs.take a) (xs.take b) 0 = xs.take (max a b) := by
  have hla : (xs.take a).length = a := by rw [List.length_take]; omega
  have hlb : (xs.take b).length = b := by rw [List.length_take]; omega
  have hbo : both (xs.take a) (xs.take b) 0 = min a b := by unfold both; omega
  have hja : jAll (xs.take a) (xs.take b) 0 = xs.take (max a b) := by
    rw [jAll, hbo]
    rcases Nat.le_total b a with h | h
    · rw [Nat.min_eq_right h, Nat.max_eq_left h, List.drop_of_length_le (by omega), List.append_nil]
    · rw [Nat.min_eq_left h, Nat.max_eq_right h]
      have : xs.take a = (xs.take b).take a := by rw [List.take_take, Nat.min_eq_left h]
      rw [this, List.take_append_drop]
  have hje : jE (xs.take a) (xs.take b) 0 = 0 := by
    unfold jE
    rw [hbo, hja, List.drop_zero, List.take_take, List.take_take, if_neg, if_neg, if_neg]
    · rw [List.length_take]; omega
    · exact fun h => h (hn.sublist (List.take_sublist _ _))
    · intro h
      apply h
      congr 1
      omega
  exact ⟨hje, by rw [jL, if_pos hje, hja]⟩
theorem sr_take {xs : List Int} (h : SR xs) (k : Nat) : SR (xs.take k) := fun y hy => h y (List.mem_of_mem_take hy)
theorem lok_pre {ls : List (List Int)} {vs : List Int} (h : LOk ls) : LOk (preD ls vs) := by
  intro xs hx
  obtain ⟨y, hy, rfl⟩ := List.mem_map.1 hx
  have h1 := h y.1 (List.of_mem_zip hy).1
  exact ⟨sr_take h1.1 _, h1.2.1.sublist (List.take_sublist _ _), by rw [List.length_take]; omega⟩
theorem merge4 {ls : List (List Int)} {us vs : List Int} (h4 : ls.length = 4) (hu4 : us.length = 4) (hv4 : vs.length = 4) (h : LOk ls) (hu : VOk ls us) (hv : VOk ls vs) :
    appX (preD ls us) (sinD (preD ls vs) [0, 0, 0, 0]) = 0 ∧ appL (preD ls us) (sinD (preD ls vs) [0, 0, 0, 0]) = preD ls (maxs us vs) ∧ VOk ls (maxs us vs) := by
  match ls, h4, us, hu4, vs, hv4 with
  | [l0, l1, l2, l3], _, [u0, u1, u2, u3], _, [v0, v1, v2, v3], _ =>
  simp only [VOk, List.zip_cons_cons, List.zip_nil_right, List.mem_cons, List.not_mem_nil, or_false, forall_eq_or_imp, forall_eq] at hu hv
  obtain ⟨a0, a1, a2, a3⟩ := hu
  obtain ⟨b0, b1, b2, b3⟩ := hv
  have one : ∀ l ∈ [l0, l1, l2, l3], ∀ u v : Int, (0 ≤ u ∧ u ≤ l.length) → (0 ≤ v ∧ v ≤ l.length) → jE (l.take u.toNat) (l.take v.toNat) 0 = 0 ∧ jL (l.take u.toNat) (l.take v.toNat) 0 = l.take (max u v).toNat := by
    intro l hl u v hu hv
    have h1 := h l hl
    have h2 := je_max h1.2.1 h1.2.2 (a := u.toNat) (b := v.toNat) (by omega) (by omega)
    rw [show (max u v).toNat = max u.toNat v.toNat by omega]
    exact h2
  have c0 := one l0 (by simp) _ _ a0 b0
  have c1 := one l1 (by simp) _ _ a1 b1
  have c2 := one l2 (by simp) _ _ a2 b2
  have c3 := one l3 (by simp) _ _ a3 b3
  have hz : (preD [l0, l1, l2, l3] [u0, u1, u2, u3]).zip (sinD (preD [l0, l1, l2, l3] [v0, v1, v2, v3]) [0, 0, 0, 0]) = [(l0.take u0.toNat, 0, l0.take v0.toNat), (l1.take u1.toNat, 0, l1.take v1.toNat), (l2.take u2.toNat, 0, l2.take v2.toNat), (l3.take u3.toNat, 0, l3.take v3.toNat)] := by
    simp [preD, sinD]
  have hx0 : appX (preD [l0, l1, l2, l3] [u0, u1, u2, u3]) (sinD (preD [l0, l1, l2, l3] [v0, v1, v2, v3]) [0, 0, 0, 0]) = 0 := by
    refine app_eq (sin_dr (lok_pre h) ?_) ?_ ?_
    · intro x hx
      simp only [preD, List.zip_cons_cons, List.zip_nil_right, List.map_cons, List.map_nil, List.mem_cons, List.not_mem_nil, or_false] at hx
      rcases hx with rfl | rfl | rfl | rfl <;> simp
    · rw [hz]
      intro x hx
      simp only [List.mem_cons, List.not_mem_nil, or_false] at hx
      rcases hx with rfl | rfl | rfl | rfl <;> simp
    · rw [hz]
      intro x hx
      simp only [List.mem_cons, List.not_mem_nil, or_false] at hx
      rcases hx with rfl | rfl | rfl | rfl
      · exact c0.1
      · exact c1.1
      · exact c2.1
      · exact c3.1
  refine ⟨hx0, ?_, ?_⟩
  · rw [appL, if_pos hx0, hz]
    simp only [List.map_cons, List.map_nil, JL, Int.toNat_zero, c0.2, c1.2, c2.2, c3.2, preD, maxs, List.zip_cons_cons, List.zip_nil_right]
  · simp only [VOk, maxs, List.zip_cons_cons, List.zip_nil_right, List.map_cons, List.map_nil, List.mem_cons, List.not_mem_nil, or_false, forall_eq_or_imp, forall_eq]
    omega
theorem pre_lens {ls : List (List Int)} {vs : List Int} (hl : vs.length = ls.length) (hv : VOk ls vs) : (preD ls vs).map (fun x => (x.length : Int)) = vs := by
  rw [preD, List.map_map]
  have h1 : ((ls.zip vs).map ((fun x : List Int => (x.length : Int)) ∘ fun x => x.1.take x.2.toNat)) = (ls.zip vs).map (·.2) := List.map_congr_left fun x hx => by
    have := hv x hx
    simp only [Function.comp_apply, List.length_take]
    omega
  rw [h1, List.map_snd_zip (by omega)]
theorem maxs_len {us vs : List Int} (h1 : us.length = 4) (h2 : vs.length = 4) : (maxs us vs).length = 4 := by simp [maxs, h1, h2]
theorem maxs_swap {us vs ws : List Int} (h1 : us.length = 4) (h2 : vs.length = 4) (h3 : ws.length = 4) : maxs (maxs us ws) vs = maxs (maxs us vs) ws := by
  match us, h1, vs, h2, ws, h3 with
  | [u0, u1, u2, u3], _, [v0, v1, v2, v3], _, [w0, w1, w2, w3], _ =>
    simp only [maxs, List.zip_cons_cons, List.zip_nil_right, List.map_cons, List.map_nil, List.cons.injEq, and_true]
    omega
theorem maxs_ge {us vs ws : List Int} (h1 : us.length = 4) (h2 : vs.length = 4) (h3 : ws.length = 4) : ∀ x ∈ (maxs (maxs us vs) ws).zip vs, x.2 ≤ x.1 := by
  match us, h1, vs, h2, ws, h3 with
  | [u0, u1, u2, u3], _, [v0, v1, v2, v3], _, [w0, w1, w2, w3], _ =>
    intro x hx
    simp only [maxs, List.zip_cons_cons, List.zip_nil_right, List.map_cons, List.map_nil, List.mem_cons, List.not_mem_nil, or_false] at hx
    rcases hx with rfl | rfl | rfl | rfl <;> simp only <;> omega
/-- Beginnings of the logs. -/
def Beg (ls hs : List (List Int)) : Prop := ∃ vs, vs.length = 4 ∧ VOk ls vs ∧ hs = preD ls vs
/-- The first i logs' beginnings, and nothing. -/
def BegI (ls hs : List (List Int)) (i : Nat) : Prop := ∃ vs, vs.length = i ∧ VOk ls vs ∧ hs = preD ls vs ++ List.replicate (4 - i) []
theorem BegI.done {ls hs : List (List Int)} (h : BegI ls hs 4) : Beg ls hs := by
  obtain ⟨vs, h1, h2, h3⟩ := h
  exact ⟨vs, h1, h2, by simpa using h3⟩
theorem BegI.zero (ls : List (List Int)) : BegI ls [[], [], [], []] 0 := ⟨[], rfl, by simp [VOk], by simp [preD, List.replicate]⟩
theorem zip_snoc {α β : Type} {ls : List α} {vs : List β} {x : α} {v : β} (h : ls[vs.length]? = some x) : ls.zip (vs ++ [v]) = ls.zip vs ++ [(x, v)] := by
  induction vs generalizing ls with
  | nil =>
    cases ls with
    | nil => cases h
    | cons a l => simp only [List.length_nil, List.getElem?_cons_zero, Option.some.injEq] at h; simp [h]
  | cons b vs ih =>
    cases ls with
    | nil => cases h
    | cons a l =>
      simp only [List.length_cons, List.getElem?_cons_succ] at h
      simp [ih h]
theorem BegI.next {ls hs : List (List Int)} {i : Nat} (h : BegI ls hs i) (hi : i < 4) {xs : List Int} (hx : ls[i]? = some xs) {c : Nat} (hc : c ≤ xs.length) (h0 : revE hs i (xs.take c) = 0) (hl : ls.length = 4) : BegI ls (revL hs i (xs.take c)) (i + 1) := by
  obtain ⟨vs, hv, hV, rfl⟩ := h
  have hpl : (preD ls vs).length = i := by simp [preD, hv, hl]; omega
  have hg : (preD ls vs ++ List.replicate (4 - i) []).getD (i : Int).toNat [] = [] := by
    rw [Int.toNat_natCast, List.getD_eq_getElem?_getD, List.getElem?_append_right (by omega), hpl, Nat.sub_self, show 4 - i = (4 - (i + 1)) + 1 by omega, List.replicate_succ]
    rfl
  have hz : ls.zip (vs ++ [(c : Int)]) = ls.zip vs ++ [(xs, (c : Int))] := zip_snoc (by rw [hv]; exact hx)
  refine ⟨vs ++ [(c : Int)], by rw [List.length_append, hv, List.length_singleton], ?_, ?_⟩
  · unfold VOk
    rw [hz]
    intro y hy
    rcases List.mem_append.1 hy with h1 | h1
    · exact hV y h1
    · simp only [List.mem_singleton] at h1
      rw [h1]
      simp only
      omega
  · rw [revL, if_pos h0, hg, List.nil_append, Int.toNat_natCast, show 4 - i = (4 - (i + 1)) + 1 by omega, set_mid hpl]
    congr 1
    rw [preD, preD, hz, List.map_append]
    simp
end Go.Proofs.Ytligpachgcmkcaa
