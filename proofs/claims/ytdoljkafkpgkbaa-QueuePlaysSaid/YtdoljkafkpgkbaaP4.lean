/- Plain laws: the document's count, by insertion. -/
import Derived.Test.YtdoljkafkpgkbaaP2
set_option linter.unusedSimpArgs false
set_option linter.unusedVariables false
namespace Go.Proofs.Ytdoljkafkpgkbaa
open Go.RowKit Go.Shelf Go.Sort

theorem lessCl_iff (c d : Cl) : lessCl c d = true ↔ ltC c d := by
  unfold lessCl ltC
  repeat' split
  all_goals simp only [decide_eq_true_eq, Bool.false_eq_true, false_iff]
  all_goals omega
/-- What is in the list once the first i have been gone through. -/
structure Ins (rs out : List Rm) (i : Nat) : Prop where
  mem : ∀ z, z ∈ out ↔ z ∈ rs.take i ∧ Heavy rs z
  nd : out.Nodup
  asc : out.Pairwise fun a b => ¬ ltC b.cl a.cl
theorem Ins.nil (rs : List Rm) : Ins rs [] 0 := ⟨by simp, by simp, by simp⟩
theorem Ins.len {rs out : List Rm} {i : Nat} (h : Ins rs out i) : out.length ≤ i := by
  have h1 : out.length ≤ (rs.take i).length := nodup_sub_len h.nd fun x hx => ((h.mem x).1 hx).1
  rw [List.length_take] at h1; omega
theorem Ins.skip {rs out : List Rm} {i : Nat} (h : Ins rs out i) {r : Rm} (hr : rs[i]? = some r) (hc : ¬ (Heavy rs r ∧ r ∉ rs.take i)) : Ins rs out (i + 1) := by
  refine ⟨fun z => ?_, h.nd, h.asc⟩
  rw [h.mem, List.take_add_one, hr]
  simp only [Option.toList_some, List.mem_append, List.mem_singleton]
  constructor
  · rintro ⟨h1, h2⟩; exact ⟨.inl h1, h2⟩
  · rintro ⟨h1 | h1, h2⟩
    · exact ⟨h1, h2⟩
    · subst h1
      exact ⟨Classical.byContradiction fun h3 => hc ⟨h2, h3⟩, h2⟩
theorem Ins.put {rs out : List Rm} {i at_ : Nat} (h : Ins rs out i) {r : Rm} (hr : rs[i]? = some r) (hc : Heavy rs r ∧ r ∉ rs.take i) (ha : at_ ≤ out.length) (h1 : ∀ j x, j < at_ → out[j]? = some x → ltC x.cl r.cl) (h2 : ∀ x, out[at_]? = some x → ¬ ltC x.cl r.cl) :
    Ins rs (out.take at_ ++ [r] ++ out.drop at_) (i + 1) := by
  have hsplit : out.take at_ ++ out.drop at_ = out := List.take_append_drop at_ out
  have hpw := h.asc
  rw [← hsplit, List.pairwise_append] at hpw
  obtain ⟨p1, p2, p3⟩ := hpw
  have hlow : ∀ x ∈ out.take at_, ltC x.cl r.cl := by
    intro x hx
    obtain ⟨j, hj, rfl⟩ := List.getElem_of_mem hx
    rw [List.length_take] at hj
    exact h1 j _ (by omega) (by rw [List.getElem_take]; exact List.getElem?_eq_getElem (by omega))
  have hhigh : ∀ x ∈ out.drop at_, ¬ ltC x.cl r.cl := by
    intro x hx hlt
    cases hd : out.drop at_ with
    | nil => rw [hd] at hx; cases hx
    | cons y l =>
      have hy : out[at_]? = some y := by
        have : (out.drop at_)[0]? = some y := by rw [hd]; rfl
        rwa [List.getElem?_drop, Nat.add_zero] at this
      have hny := h2 y hy
      rw [hd] at hx p2
      rcases List.mem_cons.1 hx with rfl | hx
      · exact hny hlt
      · have := (List.pairwise_cons.1 p2).1 x hx
        unfold ltC at *
        omega
  have hnot : r ∉ out := fun hm => hc.2 ((h.mem r).1 hm).1
  refine ⟨fun z => ?_, ?_, ?_⟩
  · have : z ∈ out.take at_ ++ [r] ++ out.drop at_ ↔ z ∈ out ∨ z = r := by
      conv => rhs; rw [← hsplit]
      simp only [List.mem_append, List.mem_singleton]
      constructor
      · rintro ((a | b) | c)
        · exact .inl (.inl a)
        · exact .inr b
        · exact .inl (.inr c)
      · rintro ((a | c) | b)
        · exact .inl (.inl a)
        · exact .inr c
        · exact .inl (.inr b)
    rw [this, h.mem, List.take_add_one, hr]
    simp only [Option.toList_some, List.mem_append, List.mem_singleton]
    constructor
    · rintro (⟨a, b⟩ | rfl)
      · exact ⟨.inl a, b⟩
      · exact ⟨.inr rfl, hc.1⟩
    · rintro ⟨a | rfl, b⟩
      · exact .inl ⟨a, b⟩
      · exact .inr rfl
  · have hp : (out.take at_ ++ [r] ++ out.drop at_).Perm (r :: out) := by
      conv => rhs; rw [← hsplit]
      rw [List.append_assoc]
      exact List.perm_middle
    rw [hp.nodup_iff, List.nodup_cons]
    exact ⟨hnot, h.nd⟩
  · rw [List.append_assoc, List.pairwise_append]
    refine ⟨p1, ?_, ?_⟩
    · rw [List.singleton_append, List.pairwise_cons]
      exact ⟨hhigh, p2⟩
    · intro a ha b hb
      rw [List.singleton_append] at hb
      rcases List.mem_cons.1 hb with rfl | hb
      · have := hlow a ha
        unfold ltC at *
        omega
      · exact p3 a ha b hb
theorem Ins.done {rs out : List Rm} (h : Ins rs out rs.length) : out = cntL rs := by
  refine IsCnt.eq ⟨fun z => ?_, h.nd, ?_⟩
  · rw [h.mem, List.take_length]
    exact ⟨fun h => h.2, fun h => ⟨h.1, h⟩⟩
  · refine h.asc.imp fun {a b} hab => ?_
    rw [cmpCl_neg]; exact hab
end Go.Proofs.Ytdoljkafkpgkbaa
