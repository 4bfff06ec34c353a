/- Plain: sorted lists without doubles. -/
import Derived.Test.YtligpachgcmkcaaSl3
import Derived.Lib.RowBridge
set_option linter.unusedSimpArgs false
set_option linter.unusedVariables false
namespace Go.Proofs.Ytligpachgcmkcaa
open Go.Lib

def srt (l : List Int) : List Int := l.mergeSort fun x y => decide (x ≤ y)
theorem srt_perm (l : List Int) : (srt l).Perm l := List.mergeSort_perm _ _
theorem srt_asc (l : List Int) : (srt l).Pairwise (· ≤ ·) := by
  have := List.pairwise_mergeSort (le := fun x y : Int => decide (x ≤ y)) (fun a b c h1 h2 => by simp only [decide_eq_true_eq] at *; omega) (fun a b => by simp only [Bool.or_eq_true, decide_eq_true_eq]; omega) l
  exact this.imp fun h => of_decide_eq_true h
theorem compactUpTo_congr {d d' : Array Int} {m : Nat} (h : ∀ j, j < m → d[j]! = d'[j]!) : compactUpTo d m = compactUpTo d' m := by
  induction m with
  | zero => rfl
  | succ m ih =>
    rw [compactUpTo_succ, compactUpTo_succ, ih fun j hj => h j (by omega), h m (by omega)]
    congr 1
    have hk : keeps d m = keeps d' m := by
      unfold keeps
      rcases Nat.eq_zero_or_pos m with h0 | h0
      · simp [h0]
      · rw [h m (by omega), h (m - 1) (by omega)]
    rw [hk]
theorem compact_nil : compact ([] : List Int) = [] := rfl
theorem compact_snoc (zs : List Int) (x : Int) : compact (zs ++ [x]) = compact zs ++ (if zs.getLast? = some x then [] else [x]) := by
  unfold compact
  rw [List.length_append, List.length_singleton, compactUpTo_succ]
  have h1 : compactUpTo (zs ++ [x]).toArray zs.length = compactUpTo zs.toArray zs.length := compactUpTo_congr fun j hj => by
    rw [getElem!_pos _ j (by simp; omega), getElem!_pos _ j (by simp; omega)]
    simp [List.getElem_append_left, hj]
  rw [h1]
  congr 1
  have h2 : (zs ++ [x]).toArray[zs.length]! = x := by rw [getElem!_pos _ _ (by simp)]; simp
  rw [h2]
  unfold keeps
  rcases Nat.eq_zero_or_pos zs.length with h0 | h0
  · have : zs = [] := List.eq_nil_of_length_eq_zero h0
    subst this
    simp
  · rw [h2]
    have h3 : (zs ++ [x]).toArray[zs.length - 1]! = zs.getLast (by intro e; rw [e] at h0; simp at h0) := by
      rw [getElem!_pos _ _ (by simp; omega)]
      simp only [List.getElem_toArray]
      rw [List.getElem_append_left (by omega), List.getLast_eq_getElem]
    rw [h3, List.getLast?_eq_some_getLast (by intro e; rw [e] at h0; simp at h0)]
    have h4 : ¬ zs.length = 0 := by omega
    simp only [h4, false_or, ne_eq, decide_not, Bool.not_eq_true', decide_eq_false_iff_not, Option.some.injEq]
    by_cases he : x = zs.getLast (by intro e; rw [e] at h0; simp at h0)
    · simp [← he]
    · have he2 : ¬ zs.getLast (by intro e; rw [e] at h0; simp at h0) = x := fun h => he h.symm
      simp [he, he2]
theorem compact_facts (n : Nat) : ∀ zs : List Int, zs.length = n → zs.Pairwise (· ≤ ·) → (∀ y, y ∈ compact zs ↔ y ∈ zs) ∧ (compact zs).Pairwise (· < ·) ∧ ((compact zs).length = zs.length ↔ zs.Nodup) := by
  induction n with
  | zero =>
    intro zs h _
    have : zs = [] := List.eq_nil_of_length_eq_zero h
    subst this
    rw [compact_nil]
    simp
  | succ n ih =>
    intro zs h hs
    have hne : zs ≠ [] := by intro e; rw [e] at h; simp at h
    obtain ⟨ws, x, rfl⟩ : ∃ ws x, zs = ws ++ [x] := ⟨_, _, (List.dropLast_concat_getLast hne).symm⟩
    have hl : ws.length = n := by simpa using h
    rw [List.pairwise_append] at hs
    obtain ⟨hs1, _, hs3⟩ := hs
    have hle : ∀ a ∈ ws, a ≤ x := fun a ha => hs3 a ha x (List.mem_singleton.2 rfl)
    obtain ⟨h1, h2, h3⟩ := ih ws hl hs1
    have hcl := compact_length_le ws
    rw [compact_snoc]
    by_cases hx : ws.getLast? = some x
    · have hmem : x ∈ ws := List.mem_of_getLast? hx
      rw [if_pos hx, List.append_nil]
      refine ⟨fun y => ?_, h2, ?_⟩
      · rw [h1, List.mem_append, List.mem_singleton]
        constructor
        · exact .inl
        · rintro (h | rfl)
          · exact h
          · exact hmem
      · rw [List.length_append, List.length_singleton]
        constructor
        · intro h; omega
        · intro h
          exact absurd rfl ((List.nodup_append.1 h).2.2 x hmem x (List.mem_singleton.2 rfl))
    · have hlt : ∀ a ∈ ws, a < x := by
        intro a ha
        have h5 := hle a ha
        have hwne : ws ≠ [] := List.ne_nil_of_mem ha
        have h6 : a ≤ ws.getLast hwne := by
          have h8 := List.dropLast_concat_getLast hwne
          rw [← h8] at ha hs1
          rcases List.mem_append.1 ha with h | h
          · exact (List.pairwise_append.1 hs1).2.2 a h _ (List.mem_singleton.2 rfl)
          · rw [List.mem_singleton.1 h]; exact Int.le_refl _
        have h7 : ws.getLast hwne ≠ x := by
          intro e
          rw [List.getLast?_eq_some_getLast hwne, e] at hx
          exact hx rfl
        have h9 := hle _ (List.getLast_mem hwne)
        omega
      rw [if_neg hx]
      refine ⟨fun y => ?_, ?_, ?_⟩
      · rw [List.mem_append, List.mem_append, h1]
      · rw [List.pairwise_append]
        refine ⟨h2, by simp, fun a ha b hb => ?_⟩
        rw [List.mem_singleton.1 hb]
        exact hlt a ((h1 a).1 ha)
      · rw [List.length_append, List.length_append, List.length_singleton]
        rw [List.nodup_append]
        constructor
        · intro h
          refine ⟨h3.1 (by omega), by simp, fun a ha b hb => ?_⟩
          rw [List.mem_singleton.1 hb]
          have := hlt a ha
          omega
        · rintro ⟨h, _⟩
          have := h3.2 h
          omega
/-- The sorted list of those that are in it. -/
def uniq (l : List Int) : List Int := compact (srt l)
theorem uniq_mem (l : List Int) (y : Int) : y ∈ uniq l ↔ y ∈ l := by
  rw [uniq, (compact_facts _ _ rfl (srt_asc l)).1 y]
  exact (srt_perm l).mem_iff
theorem uniq_asc (l : List Int) : (uniq l).Pairwise (· < ·) := (compact_facts _ _ rfl (srt_asc l)).2.1
theorem uniq_len (l : List Int) : (uniq l).length = l.length ↔ l.Nodup := by
  have h := (compact_facts _ _ rfl (srt_asc l)).2.2
  rw [(srt_perm l).length_eq, (srt_perm l).nodup_iff] at h
  exact h
theorem uniq_le (l : List Int) : (uniq l).length ≤ l.length := by
  have := compact_length_le (srt l)
  rw [(srt_perm l).length_eq] at this
  exact this
end Go.Proofs.Ytligpachgcmkcaa
