/- Calls by contract; a function's contract out of its walk. -/
import Derived.Test.YtdfdfohfnjefiaaEng4
set_option linter.unusedSimpArgs false
set_option linter.unusedVariables false
namespace Go.Proofs.Ytdfdfohfnjefiaa
open Go.RowKit Go.Shelf

/-- Called with these values, in whatever world, it returns v; nothing that was there has changed. -/
structure CallP (P : Program) (f : FuncId) (vs : List Value) (v : Value) : Prop where
  run : ∀ w, Calls P f vs.toArray w fun e w' => e = .returned v ∧ Chg [] w w'
/-- The same, in this world. -/
structure CallW (P : Program) (f : FuncId) (vs : List Value) (w : World) (R : Value → World → Prop) : Prop where
  run : Calls P f vs.toArray w fun e w' => ∃ v, e = .returned v ∧ R v w' ∧ Chg [] w w'

section
variable {X : Cx} {σ : Env} {L L' : Lst} {dd : Nat} {ty : TypeId} {pos : String} {af : Array Edge} {x y c : Operand} {v vx vy : Value} {t : TypeId} {f : FuncId} {ats : Array TypeId}
variable {all : Array Oper} {rest : List Oper} {K : Env → Lst → Prop} {r : TRow} {xs : List Operand} {vs : List Value}

theorem R.callP (he : X.tb.fns.contains f = true) (hx : evs σ xs = some vs) (hn : Nat.blt dd X.n = true) (hc : CallP X.P f vs v) (h : R X all rest K ((dd, v) :: σ) L) :
    R X all (⟨some dd, .call { callee := .value (.func f), args := xs.toArray, argTypes := ats }, ty, pos, af, none⟩ :: rest) K σ L :=
  R.call (α := Unit) (v := fun _ => v) (L' := fun _ => L) (I := fun _ => True) he hx hn (fun w hw => (hc.run w).mono fun e w' ⟨h1, h2⟩ => ⟨(), h1, hw.step h2, trivial⟩) (fun _ _ => h)
/-- The value is one of those of which R1 holds (in no world's terms). -/
theorem R.callW {R1 : Value → Prop} (he : X.tb.fns.contains f = true) (hx : evs σ xs = some vs) (hn : Nat.blt dd X.n = true) (hc : ∀ w, Hp X.w0 X.S L w → CallW X.P f vs w fun v _ => R1 v) (h : ∀ v, R1 v → R X all rest K ((dd, v) :: σ) L) :
    R X all (⟨some dd, .call { callee := .value (.func f), args := xs.toArray, argTypes := ats }, ty, pos, af, none⟩ :: rest) K σ L :=
  R.call (α := Value) (v := fun v => v) (L' := fun _ => L) (I := R1) he hx hn (fun w hw => (hc w hw).run.mono fun e w' ⟨v, h1, h2, h3⟩ => ⟨v, h1, hw.step h3, h2⟩) h
/-- A call in a world of which facts are known: one value. -/
theorem R.callV (he : X.tb.fns.contains f = true) (hx : evs σ xs = some vs) (hn : Nat.blt dd X.n = true) (hc : ∀ w, Hp X.w0 X.S L w → CallW X.P f vs w fun u _ => u = v) (h : R X all rest K ((dd, v) :: σ) L) :
    R X all (⟨some dd, .call { callee := .value (.func f), args := xs.toArray, argTypes := ats }, ty, pos, af, none⟩ :: rest) K σ L :=
  R.callW (R1 := fun u => u = v) he hx hn hc fun u hu => by subst hu; exact h

theorem enterP {P : Program} (tb : Tb P) {f : FuncId} {fn : Func} {c : Code} {vs : List Value} {n : Nat} {v : Value}
    (hf : P.funcs[f]? = some fn) (hb : fn.body = some c) (hn : fn.ntmps = n) (hvn : Nat.ble vs.length n = true)
    (h : ∀ w, T ⟨P, tb, n, w, []⟩ c (retQ ⟨P, tb, n, w, []⟩ fn.results.toList fun u _ => u = v) (number 0 vs) []) : CallP P f vs v :=
  ⟨fun w => (enter hf hb hn (Nat.le_of_ble_eq_true hvn) (Hp.start w []) (h w)).mono fun e w' ⟨u, L', h1, h2, h3⟩ => ⟨by rw [h1, h2], h3.chg⟩⟩
theorem enterW {P : Program} (tb : Tb P) {f : FuncId} {fn : Func} {c : Code} {vs : List Value} {n : Nat} {R1 : Value → Prop} {w : World}
    (hf : P.funcs[f]? = some fn) (hb : fn.body = some c) (hn : fn.ntmps = n) (hvn : Nat.ble vs.length n = true)
    (h : T ⟨P, tb, n, w, []⟩ c (retQ ⟨P, tb, n, w, []⟩ fn.results.toList fun u _ => R1 u) (number 0 vs) []) : CallW P f vs w fun u _ => R1 u :=
  ⟨(enter hf hb hn (Nat.le_of_ble_eq_true hvn) (Hp.start w []) h).mono fun e w' ⟨u, L', h1, h2, h3⟩ => ⟨u, h1, h2, h3.chg⟩⟩

theorem Ok1.pick_h {b : Bool} {d : Option Nat} {g : Option (Nat × Bool)} (hc : ev σ c = some (.bool b)) (hb : b = true) (h : ev σ x = some v) : Ok1 X ⟨d, .pick c x y, ty, pos, af, g⟩ σ L v := .pick_t (hb ▸ hc) h
theorem Ok1.pick_n {b : Bool} {d : Option Nat} {g : Option (Nat × Bool)} (hc : ev σ c = some (.bool b)) (hb : b = false) (h : ev σ y = some v) : Ok1 X ⟨d, .pick c x y, ty, pos, af, g⟩ σ L v := .pick_f (hb ▸ hc) h
theorem T.cond_h {X : Cx} {Q : Post} {z : Operand} {b : Bool} {x y : Code} (hc : ev σ z = some (.bool b)) (hb : b = true) (h : T X x Q σ L) : T X (.cond z x y) Q σ L := .cond_t (hb ▸ hc) h
theorem T.cond_n {X : Cx} {Q : Post} {z : Operand} {b : Bool} {x y : Code} (hc : ev σ z = some (.bool b)) (hb : b = false) (h : T X y Q σ L) : T X (.cond z x y) Q σ L := .cond_f (hb ▸ hc) h
end
end Go.Proofs.Ytdfdfohfnjefiaa
