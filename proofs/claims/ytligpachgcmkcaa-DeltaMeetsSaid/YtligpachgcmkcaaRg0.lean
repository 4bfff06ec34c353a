/- Plain: logs only grow. -/
import Derived.Test.YtligpachgcmkcaaRv9
set_option linter.unusedSimpArgs false
set_option linter.unusedVariables false
namespace Go.Proofs.Ytligpachgcmkcaa
open Go.RowKit Go.Shelf

def Grw (ls ls' : List (List Int)) : Prop := ls'.length = ls.length ∧ ∀ (i : Nat) (xs : List Int), ls[i]? = some xs → ∃ zs, ls'[i]? = some (xs ++ zs)
theorem Grw.refl (ls : List (List Int)) : Grw ls ls := ⟨rfl, fun i xs h => ⟨[], by rw [List.append_nil]; exact h⟩⟩
theorem Grw.rev (ls : List (List Int)) (hl : ls.length = 4) (seed : Int) (xs : List Int) : Grw ls (revL ls seed xs) := by
  unfold revL
  by_cases h : revE ls seed xs = 0
  · rw [if_pos h]
    refine ⟨List.length_set, fun i ys hi => ?_⟩
    rw [List.getElem?_set]
    by_cases he : seed.toNat = i
    · rw [if_pos he]
      subst he
      have hlt := (List.getElem?_eq_some_iff.1 hi).1
      rw [if_pos hlt]
      exact ⟨xs, by rw [List.getD_eq_getElem?_getD, hi]; rfl⟩
    · rw [if_neg he]
      exact ⟨[], by rw [List.append_nil]; exact hi⟩
  · rw [if_neg h]; exact Grw.refl ls
theorem app_je {l : List Jx} (h : appE l = 0) : ∀ x ∈ l, JE x = 0 := by
  intro x hx
  unfold appE at h
  split at h
  · cases h
  · split at h
    · cases h
    · rename_i h3
      split at h
      · cases h
      · rename_i h6
        rcases je_cases x with h0 | h0 | h0
        · exact h0
        · exact absurd ⟨x, hx, h0⟩ h3
        · exact absurd ⟨x, hx, h0⟩ h6
theorem Grw.app (ls : List (List Int)) (dd : List (Int × List Int)) (hl : dd.length = ls.length) : Grw ls (appL ls dd) := by
  unfold appL
  by_cases h : appX ls dd = 0
  · rw [if_pos h]
    have hE : appE (ls.zip dd) = 0 := by
      unfold appX at h
      split at h
      · exact h
      · cases h
    refine ⟨by simp [hl], fun i xs hi => ?_⟩
    have hlt := (List.getElem?_eq_some_iff.1 hi).1
    obtain ⟨y, hy⟩ : ∃ y, dd[i]? = some y := ⟨_, List.getElem?_eq_getElem (by omega)⟩
    have hz : (ls.zip dd)[i]? = some (xs, y) := by rw [List.getElem?_zip_eq_some]; exact ⟨hi, hy⟩
    have hj := app_je hE _ (List.mem_of_getElem? hz)
    refine ⟨y.2.drop (both xs y.2 y.1.toNat), ?_⟩
    rw [List.getElem?_map, hz]
    unfold JE at hj
    simp only [Option.map_some, JL, jL, hj, if_true]
    rfl
  · rw [if_neg h]; exact Grw.refl ls
theorem Grw.mem {gs gs' : List Lg} (h : Grw (lgs gs) (lgs gs')) {y : Int} (hy : y ∈ lcat gs) : y ∈ lcat gs' := by
  obtain ⟨g, hg, hyg⟩ := List.mem_flatMap.1 hy
  obtain ⟨i, hi, rfl⟩ := List.getElem_of_mem hg
  obtain ⟨zs, hz⟩ := h.2 i gs[i].xs (by rw [lgs, List.getElem?_map, List.getElem?_eq_getElem hi]; rfl)
  rw [lgs, List.getElem?_map] at hz
  cases hg' : gs'[i]? with
  | none => rw [hg'] at hz; cases hz
  | some g' =>
    rw [hg'] at hz
    simp only [Option.map_some, Option.some.injEq] at hz
    exact List.mem_flatMap.2 ⟨g', List.mem_of_getElem? hg', by rw [hz]; exact List.mem_append_left _ hyg⟩
theorem Grw.le {gs gs' : List Lg} (h : Grw (lgs gs) (lgs gs')) : ∀ x ∈ (gs'.map fun g => (g.xs.length : Int)).zip (gs.map fun g => (g.xs.length : Int)), x.2 ≤ x.1 := by
  intro x hx
  obtain ⟨i, hi, rfl⟩ := List.getElem_of_mem hx
  simp only [List.length_zip, List.length_map] at hi
  simp only [List.getElem_zip, List.getElem_map]
  obtain ⟨zs, hz⟩ := h.2 i gs[i].xs (by rw [lgs, List.getElem?_map, List.getElem?_eq_getElem (by omega)]; rfl)
  rw [lgs, List.getElem?_map, List.getElem?_eq_getElem (by omega)] at hz
  simp only [Option.map_some, Option.some.injEq] at hz
  rw [hz, List.length_append]
  omega
end Go.Proofs.Ytligpachgcmkcaa
