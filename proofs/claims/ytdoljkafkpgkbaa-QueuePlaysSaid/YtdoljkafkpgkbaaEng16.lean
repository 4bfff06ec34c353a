/- Ranging over a map that is only read: the entry stepped to; all entries have been met. -/
import Derived.Test.YtdoljkafkpgkbaaEng14
set_option linter.unusedSimpArgs false
set_option linter.unusedVariables false
set_option linter.unusedSectionVars false
namespace Go.Proofs.Ytdoljkafkpgkbaa
open Go.RowKit Go.Shelf

section
variable {X : Cx} {σ : Env} {L : Lst} {ty : TypeId} {pos : String} {af : Array Edge} {d : Option Nat} {g : Option (Nat × Bool)} {x : Operand} {κ α : Type} {kv : κ → Value} {vv : α → Value} {ms : Ms κ α} {clk b c : Nat}
theorem find_born {ms : Ms κ α} {e : κ × α × Nat} (he : e ∈ ms) (hnd : (ms.map (·.2.2)).Nodup) : (Array.mk (ms.map fun x => (⟨kv x.1, vv x.2.1, x.2.2⟩ : MapEntry))).find? (fun y => y.born == e.2.2) = some ⟨kv e.1, vv e.2.1, e.2.2⟩ := by
  rw [List.find?_toArray]
  induction ms with
  | nil => cases he
  | cons m ms ih =>
    simp only [List.map_cons, List.nodup_cons] at hnd
    simp only [List.map_cons, List.find?_cons]
    rcases List.mem_cons.1 he with rfl | he
    · simp
    · have : m.2.2 ≠ e.2.2 := fun h => hnd.1 (h ▸ List.mem_map.2 ⟨e, he, rfl⟩)
      simp only [beq_eq_false_iff_ne.2 this]
      exact ih he hnd.2
theorem Ok1.entry {e : κ × α × Nat} {seen : List Nat} (hx : ev σ x = some (.pointer (some ⟨c, 0, none⟩))) (hit : At L c (.mapIter (some b) clk ⟨seen ++ [e.2.2]⟩ clk)) (hat : At L b (mobj kv vv ms clk)) (he : e ∈ ms) (hnd : (ms.map (·.2.2)).Nodup) :
    Ok1 X ⟨d, .entry x, ty, pos, af, g⟩ σ L (.tuple ⟨[kv e.1, vv e.2.1]⟩) := .mk fun a w ha hw => by
  have hb := hw.get _ _ hat.mem
  have hc := hw.get _ _ hit.mem
  have g1 : (getObj c).run X.P w = .ok (.mapIter (some b) clk ⟨seen ++ [e.2.2]⟩ clk) w := by simp only [getObj, Sem.run, hc]
  have g2 : (getObj b).run X.P w = .ok (mobj kv vv ms clk) w := by simp only [getObj, Sem.run, hb]; rfl
  have hback : (Array.mk (seen ++ [e.2.2])).back? = some e.2.2 := by simp
  have hf := find_born (kv := kv) (vv := vv) he hnd
  simp only [execOp, ha.ev hx, Instr.entry, Sem.run_bind, g1, Result.andThen_ok, hback, g2, mobj, bne_self_eq_false, Bool.false_eq_true, if_false, hf, Sem.run_pure]
end

theorem nodup_map_born {κ α : Type} {l : Ms κ α} (h : (l.map (·.2.2)).Nodup) : l.Nodup := by
  induction l with
  | nil => simp
  | cons m l ih =>
    simp only [List.map_cons, List.nodup_cons] at h ⊢
    exact ⟨fun hm => h.1 (List.mem_map.2 ⟨m, hm, rfl⟩), ih h.2⟩
theorem nodup_sub_len {β : Type} [DecidableEq β] : ∀ {l m : List β}, l.Nodup → (∀ x ∈ l, x ∈ m) → l.length ≤ m.length
  | [], _, _, _ => Nat.zero_le _
  | a :: l, m, h, hs => by
    rw [List.nodup_cons] at h
    have h1 := hs a List.mem_cons_self
    have h2 : l.length ≤ (m.erase a).length := nodup_sub_len h.2 fun x hx => by
      have hne : x ≠ a := fun e => h.1 (e ▸ hx)
      exact (List.mem_erase_of_ne hne).2 (hs x (List.mem_cons_of_mem _ hx))
    rw [List.length_erase_of_mem h1] at h2
    have : 0 < m.length := List.length_pos_of_mem h1
    simp only [List.length_cons]
    omega
/-- Which entries have been met. -/
structure Met {κ α : Type} (ms vis : Ms κ α) : Prop where
  nd : (vis.map (·.2.2)).Nodup
  sub : ∀ e ∈ vis, e ∈ ms
theorem Met.start {κ α : Type} (ms : Ms κ α) : Met ms [] := ⟨by simp, by simp⟩
theorem Met.step {κ α : Type} {ms vis : Ms κ α} (h : Met ms vis) {e : κ × α × Nat} (he : e ∈ ms) (hn : e.2.2 ∉ vis.map (·.2.2)) : Met ms (vis ++ [e]) := by
  refine ⟨?_, ?_⟩
  · rw [List.map_append, List.nodup_append]
    refine ⟨h.nd, by simp, ?_⟩
    intro a ha b hb e'
    simp only [List.map_cons, List.map_nil, List.mem_singleton] at hb
    subst hb; subst e'
    exact hn ha
  · intro x hx
    rcases List.mem_append.1 hx with hx | hx
    · exact h.sub x hx
    · rw [List.mem_singleton.1 hx]; exact he
theorem Met.perm {κ α : Type} {ms vis : Ms κ α} (h : Met ms vis) (hnd : (ms.map (·.2.2)).Nodup) (hall : ∀ e ∈ ms, e.2.2 ∈ vis.map (·.2.2)) : vis.Perm ms := by
  classical
  have nv : vis.Nodup := nodup_map_born h.nd
  have nm : ms.Nodup := nodup_map_born hnd
  refine (List.perm_ext_iff_of_nodup nv nm).2 fun e => ⟨h.sub e, fun he => ?_⟩
  obtain ⟨e', h1, h2⟩ := List.mem_map.1 (hall e he)
  have h3 := h.sub e' h1
  have : e' = e := by
    have inj : ∀ (ms : Ms κ α), (ms.map (·.2.2)).Nodup → e' ∈ ms → e ∈ ms → e'.2.2 = e.2.2 → e' = e := by
      intro ms
      induction ms with
      | nil => intro _ h; cases h
      | cons m ms ih =>
        intro hn h1 h2 h3
        simp only [List.map_cons, List.nodup_cons] at hn
        rcases List.mem_cons.1 h1 with a1 | a1
        · rcases List.mem_cons.1 h2 with a2 | a2
          · rw [a1, a2]
          · exact (hn.1 (a1 ▸ h3 ▸ List.mem_map.2 ⟨e, a2, rfl⟩)).elim
        · rcases List.mem_cons.1 h2 with a2 | a2
          · exact (hn.1 (a2 ▸ h3 ▸ List.mem_map.2 ⟨e', a1, rfl⟩)).elim
          · exact ih hn.2 a1 a2 h3
    exact inj ms hnd h3 he h2
  exact this ▸ h1
theorem Met.le {κ α : Type} {ms vis : Ms κ α} (h : Met ms vis) (hnd : (ms.map (·.2.2)).Nodup) {e : κ × α × Nat} (he : e ∈ ms) (hn : e.2.2 ∉ vis.map (·.2.2)) : vis.length < ms.length := by
  have h2 := h.step he hn
  have h1 : ((vis ++ [e]).map (·.2.2)).length ≤ (ms.map (·.2.2)).length := nodup_sub_len h2.nd fun x hx => by
    obtain ⟨y, hy, rfl⟩ := List.mem_map.1 hx
    exact List.mem_map.2 ⟨y, h2.sub y hy, rfl⟩
  simp only [List.length_map, List.length_append, List.length_cons, List.length_nil] at h1
  omega
end Go.Proofs.Ytdoljkafkpgkbaa
