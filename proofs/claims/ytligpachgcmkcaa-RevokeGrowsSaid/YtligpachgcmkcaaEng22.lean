/- A struct of plain cells that came in. -/
import Derived.Test.YtligpachgcmkcaaEng15
set_option linter.unusedSimpArgs false
set_option linter.unusedVariables false
namespace Go.Proofs.Ytligpachgcmkcaa
open Go.ChangeShapes Go.WideShapes Go.ChangeAt Go.RowKit

theorem open_flat {α : Type} {P : Program} {H : Type} {enc : TypeId × Value → H} {w : World} {base : Nat} {spare : Nat → Bool} {held : Bool} (f : α → List Value) (tb : Tb P) {t : TypeId} {r : TRow} {fs : List (Nat × Nat × Nat)} {ks : List TK} {v : Value} {d : DataW H} {p : List MemPlace} (ht : tb.row t = some r) (hk : r.k = .strct fs) (hf : flatE tb 8 t = some ks) (hl : Nat.beq ks.length r.size = true)
    (dec : ∀ cs, allW ks cs → ∃ a, f a = cs) {rc : Reach} {b0 : Nat} (hv : Value.okWide P w rc b0 t v) (h : DataW.Trod enc P w base spare held t v d p) : ∃ a, v = .agg ⟨f a⟩ ∧ allW ks (f a) := by
  have his := (tb.get ht).is
  rw [hk] at his
  obtain ⟨fields, h1, _⟩ := his
  obtain ⟨cs, rfl, _⟩ := okWide_struct h1 hv
  obtain ⟨fuel, hfu⟩ := h
  have hce : P.cellsOf t = ks.length := by rw [cells_of w (tb.get ht).size, Nat.eq_of_beq_eq_true hl]
  have h3 := trod_flat tb 8 t ks hf hce _ _ _ hfu
  obtain ⟨a, ha⟩ := dec _ h3
  refine ⟨a, ?_, by rw [ha]; exact h3⟩
  rw [ha]
  cases cs
  rfl
end Go.Proofs.Ytligpachgcmkcaa
