/- Drawn regions with several makings ready at once: states that meet. -/
import Derived.Test.YtligpachgcmkcaaEng27
set_option linter.unusedSimpArgs false
set_option linter.unusedVariables false
namespace Go.Proofs.Ytligpachgcmkcaa
open Go.RowKit Go.Shelf

section
variable {X : Cx} {all : Array Oper} {C L L' : Lst} {fuel fuel' : Nat} {listed listed' : Array Bool} {K : Env → Lst → Prop} {σ σ' : Env}
theorem A.weak (h : A X all C fuel listed K σ' L') (hs : Sub σ' σ) (hk : Keep L L') : A X all C fuel listed K σ L := ⟨fun a w ha hw hC => h.run a w (ha.sub hs) (hw.keep hk) hC⟩
theorem A.merge (P : Env → Lst → Prop) (fuel' : Nat) (listed' : Array Bool) (h1 : ∀ σ L, P σ L → A X all C fuel' listed' K σ L) (h2 : (∀ σ L, P σ L → A X all C fuel' listed' K σ L) → A X all C fuel listed K σ L) : A X all C fuel listed K σ L := h2 h1
/-- Those of a list, one by one. -/
def AllOf (X : Cx) (all : Array Oper) (C : Lst) (fuel : Nat) (listed : Array Bool) (K : Env → Lst → Prop) (σ : Env) (L : Lst) : List Nat → Prop
  | [] => True
  | i :: is => (∃ o, all[i]? = some o ∧ R X all [o] (fun σ' L' => SubL C L' ∧ A X all C fuel (listed.setIfInBounds i true) K σ' L') σ L) ∧ AllOf X all C fuel listed K σ L is
theorem AllOf.get : ∀ {rs : List Nat}, AllOf X all C fuel listed K σ L rs → ∀ i ∈ rs, ∃ o, all[i]? = some o ∧ R X all [o] (fun σ' L' => SubL C L' ∧ A X all C fuel (listed.setIfInBounds i true) K σ' L') σ L
  | [], _, i, hi => by cases hi
  | j :: js, h, i, hi => by
    rcases List.mem_cons.1 hi with rfl | hi
    · exact h.1
    · exact AllOf.get h.2 i hi
theorem A.multi (rs : List Nat) (hr : Region.ready .any all listed = rs) (hne : rs ≠ []) (h : AllOf X all C fuel listed K σ L rs) : A X all C (fuel + 1) listed K σ L :=
  ⟨fun a w ha hw hC => wpAnyC_all hr hne fun w' hc i hi => by
    obtain ⟨o, ho, h2⟩ := h.get i hi
    exact A.step ho h2 ha (hw.step hc) (hC.step hc)⟩
end
section
variable {X : Cx} {σ : Env} {L L' : Lst} {d : Option Nat} {dd b : Nat} {ty : TypeId} {pos : String} {af : Array Edge} {g : Option (Nat × Bool)} {x : Operand} {t e : TypeId} {r re : TRow}
variable {all : Array Oper} {rest : List Oper} {K : Env → Lst → Prop}
theorem mark_run {P : Program} (tb : Tb P) (ht : tb.row t = some r) (hk : r.k = .slice e) (he : tb.row e = some re) (hke : re.k = .int .u8) {w : World} {n c : Nat} {cs : List Value} (hb : w.heap[b]? = some (.cells ⟨cs⟩ e (0, 0))) :
    ∃ w', (convert t t (.slice (some ⟨b, 0, none⟩) n c)).run P w = .ok (.slice (some ⟨b, 0, none⟩) n c) w' ∧ w'.heap[b]? = some (.cells ⟨cs⟩ e (cs.length, cs.length + 1)) ∧ Chg [b] w w' := by
  have h2 : P.underlying t = some (.slice e) := by have := (tb.get ht).is; rw [hk] at this; exact this
  have h3 : P.underlying e = some (.int .u8) := by have := (tb.get he).is; rw [hke] at this; exact this
  have hsh : w.shape? b = some (e, cs.length) := by simp [World.shape?, hb]
  refine ⟨w.freeze ⟨b, cs.length, none⟩ 1, ?_, ?_, ?_⟩
  · simp [convert, run_underlying h2, run_underlying h3, markStringish, hsh]
  · simp [World.freeze, Array.getElem?_modify, hb]
  · refine ⟨rfl, rfl, rfl, ?_, Nat.le_refl _, ?_⟩
    · simp [World.freeze]
    · intro k hk hkb
      have hne : b ≠ k := fun h => hkb (by simp [h])
      simp [World.freeze, Array.getElem?_modify, hne]
/-- A constant's bytes get their mark. -/
theorem R.convSame {n c : Nat} {cs : List Value} (hn : Nat.blt dd X.n = true) (ht : X.tb.row t = some r) (hk : r.k = .slice e) (he : X.tb.row e = some re) (hke : re.k = .int .u8) (hx : ev σ x = some (.slice (some ⟨b, 0, none⟩) n c))
    (hu : Upd L b (.cells ⟨cs⟩ e (0, 0)) (.cells ⟨cs⟩ e (cs.length, cs.length + 1)) L') (h : R X all rest K ((dd, .slice (some ⟨b, 0, none⟩) n c) :: σ) L') :
    R X all (⟨some dd, .convert t t x, ty, pos, af, none⟩ :: rest) K σ L :=
  R.value rfl rfl hn fun a w ha hw => by
    obtain ⟨w', g1, g2, g3⟩ := mark_run (n := n) (c := c) X.tb ht hk he hke (hw.get _ _ hu.mem)
    refine ⟨_, w', L', ?_, hw.upd hu g3 g2, h⟩
    simp [execOp, ha.ev hx, g1]
/-- A slice's first ones as an array. -/
theorem Ok1.arrPtr {p : Option Addr} {n m c : Nat} (ht : X.tb.row t = some r) (hk : r.k = .arr n e) (hx : ev σ x = some (.slice p m c)) (hm : n ≤ m) : Ok1 X ⟨d, .sliceToArrayPointer t x, ty, pos, af, g⟩ σ L (.pointer p) := .mk fun a w ha hw => by
  have h2 := (X.tb.get ht).is
  rw [hk] at h2
  simp only [TK.is] at h2
  simp [execOp, Instr.arrayAt, run_underlying h2, ha.ev hx, Nat.not_lt.2 hm]
theorem ovsome {sz n : Nat} {ov : Ov} {xs : List Value} (h : OvOk sz ov n xs) (hn : 0 < n) : ∃ b j k, ov = some (b, j, k) := by
  cases ov with
  | none => have := h.2; omega
  | some z => obtain ⟨b, j, k⟩ := z; exact ⟨b, j, k, rfl⟩
end
end Go.Proofs.Ytligpachgcmkcaa
