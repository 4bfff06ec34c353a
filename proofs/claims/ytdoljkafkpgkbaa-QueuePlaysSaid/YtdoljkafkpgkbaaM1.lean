/- Plain laws of the maps' model: what is found after a put or a delete; what stays well formed. -/
import Derived.Test.YtdoljkafkpgkbaaEng16
set_option linter.unusedSimpArgs false
set_option linter.unusedVariables false
set_option linter.unusedSectionVars false
namespace Go.Proofs.Ytdoljkafkpgkbaa

section
variable {κ α : Type} [DecidableEq κ]
def mkeys (ms : Ms κ α) : List κ := ms.map (·.1)
theorem mget_none {k : κ} : ∀ {ms : Ms κ α}, mget k ms = none ↔ k ∉ mkeys ms
  | [] => by simp [mget, mkeys]
  | x :: r => by
    have ih := mget_none (k := k) (ms := r)
    by_cases h : x.1 = k
    · simp [mget, mkeys, h]
    · simp only [mget, h, if_false, ih, mkeys, List.map_cons, List.mem_cons, not_or]
      exact ⟨fun h' => ⟨fun e => h e.symm, h'⟩, fun h' => h'.2⟩
theorem mget_mem {k : κ} {a : α} : ∀ {ms : Ms κ α}, mget k ms = some a → ∃ b, (k, a, b) ∈ ms
  | [], h => by simp [mget] at h
  | x :: r, h => by
    by_cases e : x.1 = k
    · simp only [mget, e, if_true, Option.some.injEq] at h
      subst h; subst e
      exact ⟨x.2.2, List.mem_cons_self⟩
    · simp only [mget, e, if_false] at h
      obtain ⟨b, hb⟩ := mget_mem h
      exact ⟨b, List.mem_cons_of_mem _ hb⟩
theorem mget_of_mem {e : κ × α × Nat} : ∀ {ms : Ms κ α}, (mkeys ms).Nodup → e ∈ ms → mget e.1 ms = some e.2.1
  | [], _, h => by cases h
  | x :: r, hn, h => by
    simp only [mkeys, List.map_cons, List.nodup_cons] at hn
    rcases List.mem_cons.1 h with rfl | h
    · simp [mget]
    · have : x.1 ≠ e.1 := fun he => hn.1 (he ▸ List.mem_map.2 ⟨e, h, rfl⟩)
      simp only [mget, this, if_false]
      exact mget_of_mem hn.2 h
theorem mset_keys (k : κ) (a : α) : ∀ (ms : Ms κ α), mkeys (mset k a ms) = mkeys ms
  | [] => rfl
  | x :: r => by
    by_cases h : x.1 = k
    · simp [mset, mkeys, h]
    · have := mset_keys k a r
      simp only [mset, h, if_false, mkeys, List.map_cons] at this ⊢
      rw [this]
theorem mset_borns (k : κ) (a : α) : ∀ (ms : Ms κ α), (mset k a ms).map (·.2.2) = ms.map (·.2.2)
  | [] => rfl
  | x :: r => by
    by_cases h : x.1 = k
    · simp [mset, h]
    · simp only [mset, h, if_false, List.map_cons, mset_borns k a r]
theorem mset_len (k : κ) (a : α) (ms : Ms κ α) : (mset k a ms).length = ms.length := by
  have := congrArg List.length (mset_borns k a ms); simpa using this
theorem mset_mem {k : κ} {a : α} {e : κ × α × Nat} : ∀ {ms : Ms κ α}, e ∈ mset k a ms → e ∈ ms ∨ (e.1 = k ∧ e.2.1 = a ∧ ∃ a', (e.1, a', e.2.2) ∈ ms)
  | [], h => by cases h
  | x :: r, h => by
    by_cases hk : x.1 = k
    · simp only [mset, hk, if_true] at h
      rcases List.mem_cons.1 h with rfl | h
      · exact .inr ⟨rfl, rfl, x.2.1, by rw [← hk]; exact List.mem_cons_self⟩
      · exact .inl (List.mem_cons_of_mem _ h)
    · simp only [mset, hk, if_false] at h
      rcases List.mem_cons.1 h with rfl | h
      · exact .inl List.mem_cons_self
      · rcases mset_mem h with h | ⟨h1, h2, a', h3⟩
        · exact .inl (List.mem_cons_of_mem _ h)
        · exact .inr ⟨h1, h2, a', List.mem_cons_of_mem _ h3⟩
theorem mget_mset {k : κ} {a o : α} (c : κ) : ∀ {ms : Ms κ α}, mget k ms = some o → mget c (mset k a ms) = if k = c then some a else mget c ms
  | [], h => by simp [mget] at h
  | x :: r, h => by
    by_cases hk : x.1 = k
    · simp only [mset, hk, if_true, mget]
      split <;> rfl
    · simp only [mget, hk, if_false] at h
      have ih := mget_mset c h (a := a)
      simp only [mset, hk, if_false, mget, ih]
      by_cases hc : x.1 = c
      · rw [if_pos hc, if_pos hc, if_neg (fun e => hk (by rw [hc, ← e]))]
      · rw [if_neg hc, if_neg hc]
theorem mget_snoc {k : κ} {a : α} {b : Nat} (c : κ) : ∀ {ms : Ms κ α}, mget k ms = none → mget c (ms ++ [(k, a, b)]) = if k = c then some a else mget c ms
  | [], _ => by simp [mget]
  | x :: r, h => by
    by_cases hk : x.1 = k
    · simp [mget, hk] at h
    · simp only [mget, hk, if_false] at h
      have ih := mget_snoc c h (a := a) (b := b)
      simp only [List.cons_append, mget, ih]
      by_cases hc : x.1 = c
      · rw [if_pos hc, if_pos hc, if_neg (fun e => hk (by rw [hc, ← e]))]
      · rw [if_neg hc, if_neg hc]
theorem mdel_sub (k : κ) : ∀ (ms : Ms κ α), (mdel k ms).Sublist ms
  | [] => .slnil
  | x :: r => by
    by_cases hk : x.1 = k
    · simp only [mdel, hk, if_true]; exact List.sublist_cons_self _ _
    · simp only [mdel, hk, if_false]; exact (mdel_sub k r).cons_cons _
theorem mget_mdel {k : κ} (c : κ) : ∀ {ms : Ms κ α}, (mkeys ms).Nodup → mget c (mdel k ms) = if k = c then none else mget c ms
  | [], _ => by simp [mdel, mget]
  | x :: r, hn => by
    simp only [mkeys, List.map_cons, List.nodup_cons] at hn
    by_cases hk : x.1 = k
    · simp only [mdel, hk, if_true, mget]
      split
      · rename_i hc
        exact mget_none.2 (by rw [← hc, ← hk]; exact hn.1)
      · rfl
    · have ih := mget_mdel (k := k) c hn.2
      simp only [mdel, hk, if_false, mget, ih]
      by_cases hc : x.1 = c
      · rw [if_pos hc, if_pos hc, if_neg (fun e => hk (by rw [hc, ← e]))]
      · rw [if_neg hc, if_neg hc]
/-- A map that is in order: keys once each, stamps once each and below the clock. -/
structure MWf (s : Ms κ α × Nat) : Prop where
  bnd : ∀ e ∈ s.1, e.2.2 < s.2
  nd : (s.1.map (·.2.2)).Nodup
  keys : (mkeys s.1).Nodup
theorem MWf.nil : MWf (([] : Ms κ α), 0) := ⟨by simp, by simp, by simp [mkeys]⟩
theorem MWf.set {s : Ms κ α × Nat} (h : MWf s) (k : κ) (a : α) : MWf (mset k a s.1, s.2) := by
  refine ⟨fun e he => ?_, by rw [mset_borns]; exact h.nd, by rw [mset_keys]; exact h.keys⟩
  rcases mset_mem he with he | ⟨_, _, a', h3⟩
  · exact h.bnd e he
  · exact h.bnd (e.1, a', e.2.2) h3
theorem MWf.snoc {s : Ms κ α × Nat} (h : MWf s) {k : κ} {a : α} (hk : mget k s.1 = none) : MWf (s.1 ++ [(k, a, s.2)], s.2 + 1) := by
  refine ⟨fun e he => ?_, ?_, ?_⟩
  · rcases List.mem_append.1 he with he | he
    · have := h.bnd e he; simp only; omega
    · rw [List.mem_singleton.1 he]; simp
  · rw [List.map_append, List.nodup_append]
    refine ⟨h.nd, by simp, fun x hx y hy e => ?_⟩
    obtain ⟨z, hz, rfl⟩ := List.mem_map.1 hx
    have := h.bnd z hz
    simp only [List.map_cons, List.map_nil, List.mem_singleton] at hy
    omega
  · simp only [mkeys, List.map_append, List.nodup_append]
    refine ⟨h.keys, by simp, fun x hx y hy e => ?_⟩
    simp only [List.map_cons, List.map_nil, List.mem_singleton] at hy
    exact mget_none.1 hk (hy ▸ e ▸ hx)
theorem MWf.del {s : Ms κ α × Nat} (h : MWf s) (k : κ) : MWf (mdel k s.1, s.2) :=
  ⟨fun e he => h.bnd e ((mdel_sub k s.1).subset he), ((mdel_sub k s.1).map _).nodup h.nd, ((mdel_sub k s.1).map _).nodup h.keys⟩
end
end Go.Proofs.Ytdoljkafkpgkbaa
