/- Equal bools, equal flat values; a walk that stops; calls that write nothing. -/
import Derived.Test.YtligpachgcmkcaaEng28
set_option linter.unusedSimpArgs false
set_option linter.unusedVariables false
namespace Go.Proofs.Ytligpachgcmkcaa
open Go.RowKit Go.Shelf
section
variable {X : Cx} {σ : Env} {L : Lst} {ty t : TypeId} {pos : String} {af : Array Edge} {x y : Operand} {r : TRow}
theorem Ok1.eqlB2 {d : Option Nat} {g : Option (Nat × Bool)} {ty2 : TypeId} {b : Bool} (ht : X.tb.row t = some r) (hk : r.k = .bool) (hx : ev σ x = some (.bool b)) (hy : ev σ y = some (.bool b)) : Ok1 X ⟨d, .binOp .eql t x y ty2, ty, pos, af, g⟩ σ L (.bool true) := .mk fun a w ha hw => by
  have hu : X.P.underlying t = some .bool := by have := (X.tb.get ht).is; rw [hk] at this; exact this
  have hE : ∀ n, (Op.equalIn (n + 1) t (.bool b) (.bool b)).run X.P w = .ok true w := by
    intro n
    rw [Op.equalIn]
    simp [run_underlying hu]
  obtain ⟨n, hm⟩ : ∃ n, Op.maxDepth = n + 1 := ⟨_, rfl⟩
  simp [execOp, ha.ev hx, ha.ev hy, eqGuard, binOp, Op.equal, hm, hE]
end
section
variable {X : Cx} {σ : Env} {L : Lst} {ty t : TypeId} {pos : String} {af : Array Edge} {x y : Operand} {r : TRow} {xs ys : List Value} {ks : List TK}
theorem Ok1.eqlFq2 {d : Option Nat} {g : Option (Nat × Bool)} {ty2 : TypeId} {q : Bool} (hx : ev σ x = some (.agg ⟨xs⟩)) (hy : ev σ y = some (.agg ⟨ys⟩)) (ht : X.tb.row t = some r) (hk : r.k.agg = some true) (hf : flatE X.tb 8 t = some ks) (h1 : allOk ks xs = true) (h2 : allOk ks ys = true) (hq : xs = ys ↔ q = true) :
    Ok1 X ⟨d, .binOp .eql t x y ty2, ty, pos, af, g⟩ σ L (.bool q) := by
  have h := Ok1.eqlF (X := X) (L := L) (ty2 := ty2) (d := d) (ty := ty) (pos := pos) (af := af) (g := g) hx hy ht hk hf h1 h2
  have e : ∀ (i : Decidable (xs = ys)), @decide (xs = ys) i = q := by intro i; cases q <;> simp_all
  rw [e] at h
  exact h
end
/-- The walk stops here. -/
structure Stop (p : Prop) : Prop where
  of : p
section
variable {X : Cx} {Q : Post} {σ : Env} {L : Lst}
theorem T.stop (i : Nat) {ops : Array Oper} {g : Bool} {c d : Code} (h : Stop (T X (.seq (.seq (.region i ops g) c) d) Q σ L)) : T X (.seq (.seq (.region i ops g) c) d) Q σ L := h.of
theorem T.stop1 (i : Nat) {ops : Array Oper} {g : Bool} {d : Code} (h : Stop (T X (.seq (.region i ops g) d) Q σ L)) : T X (.seq (.region i ops g) d) Q σ L := h.of
theorem T.stopA {c : Code} (d : Code) (hd : c = d) (h : Stop (T X c Q σ L)) : T X c Q σ L := h.of
end
theorem CallW.toM {P : Program} {f : FuncId} {vs : List Value} {w : World} {v : Value} (h : CallW P f vs w fun x _ => x = v) : CallM P f vs [] w fun x L => x = v ∧ L = [] :=
  ⟨fun _ => h.run.mono fun e w' ⟨x, h1, h2, h3⟩ => ⟨x, [], h1, ⟨h2, rfl⟩, ⟨h3, by simp, by simp, by simp⟩⟩⟩
end Go.Proofs.Ytligpachgcmkcaa
