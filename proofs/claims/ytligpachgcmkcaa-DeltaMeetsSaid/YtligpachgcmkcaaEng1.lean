/- Chg, Hp: what a call may have changed and what is known of the memory; T: the judgement of a walk over a symbolic frame and a list of known blocks; its rules for the control words, and the entry. -/
import Derived.WalkKit
import Derived.Scope
import Derived.Orders
import Derived.Shelf.Abstract
import Derived.Sort.Grow
import Derived.Deep.Draws
set_option linter.unusedSimpArgs false
set_option linter.unusedVariables false
namespace Go.Proofs.Ytligpachgcmkcaa
open Go.RowKit Go.Shelf

/-- What may have changed: the blocks of S, and nothing else that was there. -/
structure Chg (S : List Nat) (w w' : World) : Prop where
  os : w'.os = w.os
  tape : w'.tape = w.tape
  output : w'.output = w.output
  size : w.heap.size ≤ w'.heap.size
  drawn : w.drawn ≤ w'.drawn
  block : ∀ k, k < w.heap.size → k ∉ S → w'.heap[k]? = w.heap[k]?

theorem Chg.refl (S : List Nat) (w : World) : Chg S w w := ⟨rfl, rfl, rfl, Nat.le_refl _, Nat.le_refl _, fun _ _ _ => rfl⟩
theorem Chg.trans {S : List Nat} {a b c : World} (h : Chg S a b) (k : Chg S b c) : Chg S a c :=
  ⟨k.os.trans h.os, k.tape.trans h.tape, k.output.trans h.output, Nat.le_trans h.size k.size, Nat.le_trans h.drawn k.drawn,
   fun i hi hs => (k.block i (Nat.lt_of_lt_of_le hi h.size) hs).trans (h.block i hi hs)⟩
theorem Chg.mono {S S' : List Nat} {w w' : World} (h : Chg S w w') (hs : ∀ b ∈ S, b ∈ S') : Chg S' w w' :=
  ⟨h.os, h.tape, h.output, h.size, h.drawn, fun k hk hk' => h.block k hk fun hm => hk' (hs k hm)⟩
theorem Chg.below {w w' : World} (h : Chg [] w w') : Below w.heap.size w w' :=
  ⟨h.os, h.tape, h.output, h.size, fun k hk => h.block k hk (by simp)⟩
/-- The blocks of S lay beyond what w had: of w nothing has changed. -/
theorem Chg.fresh {S : List Nat} {w w' : World} (h : Chg S w w') (hs : ∀ b ∈ S, w.heap.size ≤ b) : Chg [] w w' :=
  ⟨h.os, h.tape, h.output, h.size, h.drawn, fun k hk _ => h.block k hk fun hm => by have := hs k hm; omega⟩
theorem Chg.alloc (S : List Nat) (w : World) (o : Obj) : Chg S w (w.alloc o) :=
  ⟨rfl, rfl, rfl, by simp, Nat.le_refl _, fun k hk _ => Below.heap_alloc w o k hk⟩
theorem Chg.drew (S : List Nat) (w : World) : Chg S w w.drew := ⟨rfl, rfl, rfl, Nat.le_refl _, by simp, fun _ _ _ => rfl⟩
theorem Chg.setCell {S : List Nat} (w : World) {a : Addr} (v : Value) (h : a.block ∈ S) : Chg S w (w.setCell a v) :=
  ⟨rfl, rfl, rfl, by simp, Nat.le_refl _, fun k _ hk' => Below.heap_setCell w a v k fun e => hk' (e ▸ h)⟩
theorem Chg.setObj {S : List Nat} (w : World) {r : Nat} (o : Obj) (h : r ∈ S) : Chg S w { w with heap := w.heap.setIfInBounds r o } :=
  ⟨rfl, rfl, rfl, by simp, Nat.le_refl _, fun k _ hk' => by
    have : r ≠ k := fun e => hk' (e ▸ h)
    simp [this]⟩
theorem Chg.cell {S : List Nat} {w w' : World} (h : Chg S w w') {a : Addr} {v : Value} (hc : w.cell? a = some v) (hs : a.block ∉ S) : w'.cell? a = some v := by
  rw [← hc]; exact World.cell?_of_block (w := w) (h.block _ (World.block_lt_of_cell? w a hc) hs)
theorem Chg.heap {S : List Nat} {w w' : World} (h : Chg S w w') {b : Nat} {o : Obj} (hc : w.heap[b]? = some o) (hs : b ∉ S) : w'.heap[b]? = some o := by
  rw [← hc]; exact h.block _ (Array.getElem?_eq_some_iff.1 hc).1 hs
theorem Chg.grow {w w' : World} (h : Chg [] w w') : ∃ q os, w' = Sort.grow (w.drewN q) os := by
  refine ⟨w'.drawn - w.drawn, w'.heap.extract w.heap.size w'.heap.size, ?_⟩
  obtain ⟨h1, h2, h3, h4, h5, h6⟩ := h
  cases w with | mk heap tape drawn os output =>
  cases w' with | mk heap' tape' drawn' os' output' =>
  simp only [Sort.grow, World.drewN] at *
  subst h1; subst h2; subst h3
  congr 1
  · apply Array.ext_getElem?
    intro i
    by_cases hi : i < heap.size
    · rw [h6 i hi (by simp)]; simp [Array.getElem?_append, hi]
    · have hi' : heap.size ≤ i := by omega
      simp only [Array.getElem?_append, hi, if_false]
      by_cases hj : i < heap'.size
      · simp only [Array.getElem?_extract, Nat.min_self]
        rw [if_pos (by omega), Nat.add_sub_cancel' hi']
      · simp [Array.getElem?_eq_none (show heap'.size ≤ i by omega), Array.getElem?_eq_none]; omega
  · omega

abbrev Lst := List (Nat × Obj)

/-- Of the world w: since w0 only the blocks of S (or new ones) have changed; the blocks of L hold what L says; they are apart, and each is new or one of S. -/
structure Hp (w0 : World) (S : List Nat) (L : Lst) (w : World) : Prop where
  chg : Chg S w0 w
  get : ∀ b o, (b, o) ∈ L → w.heap[b]? = some o
  nod : (L.map (·.1)).Nodup
  own : ∀ b o, (b, o) ∈ L → w0.heap.size ≤ b ∨ b ∈ S

theorem Hp.start (w : World) (S : List Nat) : Hp w S [] w := ⟨.refl _ _, by simp, by simp, by simp⟩

theorem Hp.lt {w0 w : World} {S : List Nat} {L : Lst} (h : Hp w0 S L w) {b : Nat} {o : Obj} (hm : (b, o) ∈ L) : b < w.heap.size :=
  (Array.getElem?_eq_some_iff.1 (h.get b o hm)).1

/-- A step that changes nothing of what is known. -/
theorem Hp.step {w0 w w' : World} {S : List Nat} {L : Lst} (h : Hp w0 S L w) (hc : Chg [] w w') : Hp w0 S L w' :=
  ⟨h.chg.trans (hc.mono (by simp)), fun b o hm => hc.heap (h.get b o hm) (by simp), h.nod, h.own⟩

theorem Hp.alloc {w0 w : World} {S : List Nat} {L : Lst} (h : Hp w0 S L w) (o : Obj) : Hp w0 S ((w.heap.size, o) :: L) (w.alloc o) := by
  have h1 := h.step (Chg.alloc [] w o)
  refine ⟨h1.chg, ?_, ?_, ?_⟩
  · intro b o' hm
    rcases List.mem_cons.1 hm with e | hm
    · cases e; show (w.heap.push o)[w.heap.size]? = _; simp
    · exact h1.get b o' hm
  · simp only [List.map_cons, List.nodup_cons]
    refine ⟨fun hm => ?_, h.nod⟩
    obtain ⟨⟨b, o'⟩, hm, e⟩ := List.mem_map.1 hm
    have := h.lt hm
    simp at e; omega
  · intro b o' hm
    rcases List.mem_cons.1 hm with e | hm
    · cases e; exact .inl h.chg.size
    · exact h.own b o' hm

/-- L' is L with block b's object turned to o'. -/
inductive Upd : Lst → Nat → Obj → Obj → Lst → Prop where
  | head {b o o' r} : Upd ((b, o) :: r) b o o' ((b, o') :: r)
  | tail {x r b o o' r'} : Upd r b o o' r' → Upd (x :: r) b o o' (x :: r')
/-- L holds (b, o). -/
inductive At : Lst → Nat → Obj → Prop where
  | head {b o r} : At ((b, o) :: r) b o
  | tail {x r b o} : At r b o → At (x :: r) b o

theorem At.mem {L : Lst} {b : Nat} {o : Obj} (h : At L b o) : (b, o) ∈ L := by
  induction h with
  | head => exact List.mem_cons_self
  | tail _ ih => exact List.mem_cons_of_mem _ ih
theorem Upd.mem {L L' : Lst} {b : Nat} {o o' : Obj} (h : Upd L b o o' L') : (b, o) ∈ L := by
  induction h with
  | head => exact List.mem_cons_self
  | tail _ ih => exact List.mem_cons_of_mem _ ih
theorem Upd.map {L L' : Lst} {b : Nat} {o o' : Obj} (h : Upd L b o o' L') : L'.map (·.1) = L.map (·.1) := by
  induction h with
  | head => rfl
  | tail _ ih => simp [ih]
theorem Upd.mem' {L L' : Lst} {b : Nat} {o o' : Obj} (h : Upd L b o o' L') (hn : (L.map (·.1)).Nodup) :
    ∀ c p, (c, p) ∈ L' → (c = b ∧ p = o') ∨ (c ≠ b ∧ (c, p) ∈ L) := by
  induction h with
  | head =>
    intro c p hm
    simp only [List.map_cons, List.nodup_cons] at hn
    rcases List.mem_cons.1 hm with e | hm
    · cases e; exact .inl ⟨rfl, rfl⟩
    · refine .inr ⟨fun e => ?_, List.mem_cons_of_mem _ hm⟩
      exact hn.1 (List.mem_map.2 ⟨(c, p), hm, e⟩)
  | @tail x r b o o' r' h ih =>
    intro c p hm
    simp only [List.map_cons, List.nodup_cons] at hn
    rcases List.mem_cons.1 hm with e | hm
    · subst e
      refine .inr ⟨?_, List.mem_cons_self⟩
      rintro rfl
      exact hn.1 (List.mem_map.2 ⟨(c, o), h.mem, rfl⟩)
    · rcases ih hn.2 c p hm with h1 | ⟨h1, h2⟩
      · exact .inl h1
      · exact .inr ⟨h1, List.mem_cons_of_mem _ h2⟩

/-- A step that has changed block b alone, which now holds o'. -/
theorem Hp.upd {w0 w w' : World} {S : List Nat} {L L' : Lst} {b : Nat} {o o' : Obj} (h : Hp w0 S L w) (hu : Upd L b o o' L') (hc : Chg [b] w w') (hb : w'.heap[b]? = some o') : Hp w0 S L' w' := by
  have hown := h.own b o hu.mem
  refine ⟨?_, ?_, ?_, ?_⟩
  · refine ⟨hc.os.trans h.chg.os, hc.tape.trans h.chg.tape, hc.output.trans h.chg.output, Nat.le_trans h.chg.size hc.size, Nat.le_trans h.chg.drawn hc.drawn, fun k hk hks => ?_⟩
    have hk' : k ≠ b := by
      rintro rfl
      rcases hown with h1 | h1
      · omega
      · exact hks h1
    exact (hc.block k (Nat.lt_of_lt_of_le hk h.chg.size) (by simpa using hk')).trans (h.chg.block k hk hks)
  · intro c p hm
    rcases hu.mem' h.nod c p hm with ⟨rfl, rfl⟩ | ⟨hne, hm⟩
    · exact hb
    · exact hc.heap (h.get c p hm) (by simpa using hne)
  · rw [hu.map]; exact h.nod
  · intro c p hm
    rcases hu.mem' h.nod c p hm with ⟨rfl, rfl⟩ | ⟨_, hm⟩
    · exact hown
    · exact h.own c p hm

theorem Hp.sub {w0 w : World} {S : List Nat} {L L' : Lst} (h : Hp w0 S L w) (hs : List.Sublist L' L) : Hp w0 S L' w :=
  ⟨h.chg, fun b o hm => h.get b o (hs.subset hm), List.Sublist.nodup (hs.map _) h.nod, fun b o hm => h.own b o (hs.subset hm)⟩
theorem Hp.perm {w0 w : World} {S : List Nat} {L L' : Lst} (h : Hp w0 S L w) (hs : List.Perm L' L) : Hp w0 S L' w :=
  ⟨h.chg, fun b o hm => h.get b o (hs.subset hm), ((hs.map _).nodup_iff).2 h.nod, fun b o hm => h.own b o (hs.subset hm)⟩

/-! ### the frame -/
abbrev Env := List (Nat × Value)
def look : Env → Nat → Option Value
  | [], _ => none
  | (k, v) :: r, t => match Nat.beq k t with | true => some v | false => look r t
def ev (σ : Env) : Operand → Option Value
  | .tmp t => look σ t
  | .const v => some v
  | .global g => some (.pointer (some ⟨g, 0, none⟩))
  | .func f => some (.func (.func f) #[] #[])
def evs (σ : Env) : List Operand → Option (List Value)
  | [] => some []
  | x :: xs => match ev σ x with
    | none => none
    | some v => match evs σ xs with
      | none => none
      | some vs => some (v :: vs)

structure Mod (n : Nat) (a : Act) (σ : Env) : Prop where
  size : a.tmps.size = n
  defers : a.defers = []
  ok : ∀ t v, look σ t = some v → a.tmps.getD t undef = v

theorem Mod.ev {n : Nat} {a : Act} {σ : Env} (h : Mod n a σ) {x : Operand} {v : Value} (hx : ev σ x = some v) : a.eval x = v := by
  cases x <;> simp only [Act.eval, Ytligpachgcmkcaa.ev] at * <;> first | exact h.ok _ _ hx | exact Option.some.inj hx

theorem Mod.put {n : Nat} {a : Act} {σ : Env} (h : Mod n a σ) {d : Nat} (hd : d < n) (v : Value) : Mod n (a.put (some d) v) ((d, v) :: σ) := by
  refine ⟨by simp [Act.put, h.size], h.defers, fun t u hu => ?_⟩
  simp only [look] at hu
  simp only [Act.put]
  by_cases e : d = t
  · subst e
    simp [Nat.beq_refl] at hu
    subst hu
    simp [Array.getD, h.size, hd]
  · have e' : Nat.beq d t = false := by
      cases hb : Nat.beq d t with
      | false => rfl
      | true => exact (e (Nat.eq_of_beq_eq_true hb)).elim
    rw [e'] at hu
    rw [← h.ok t u hu]
    simp only [Array.getD, Array.size_setIfInBounds]
    split
    · rename_i ht
      show (a.tmps.setIfInBounds d v)[t]'_ = a.tmps[t]
      rw [Array.getElem_setIfInBounds ht, if_neg e]
    · rfl
end Go.Proofs.Ytligpachgcmkcaa
