/- Calls of a function value. -/
import Derived.Test.YtligpachgcmkcaaEng14
set_option linter.unusedSimpArgs false
set_option linter.unusedVariables false
set_option linter.unusedSectionVars false
namespace Go.Proofs.Ytligpachgcmkcaa
open Go.RowKit Go.Shelf

section
variable {X : Cx} {σ : Env} {L Li Lr : Lst} {dd : Nat} {ty : TypeId} {pos : String} {af : Array Edge} {f : FuncId} {ats : Array TypeId} {c : Operand} {fa cb : List Value}
variable {all : Array Oper} {rest : List Oper} {K : Env → Lst → Prop} {xs : List Operand} {vs : List Value} {v : Value}
/-- The arguments' list of a call. -/
theorem evs_map {n : Nat} {a : Act} (ha : Mod n a σ) : ∀ {xs : List Operand} {vs : List Value}, evs σ xs = some vs → xs.map a.eval = vs
  | [], vs, h => by simp [evs] at h; simp [← h]
  | x :: xs, vs, h => by
    simp only [evs] at h
    cases h1 : ev σ x with
    | none => simp [h1] at h
    | some u =>
      cases h2 : evs σ xs with
      | none => simp [h1, h2] at h
      | some us =>
        simp [h1, h2] at h
        subst h
        simp [ha.ev h1, evs_map ha h2]
theorem R.callF {α : Type} {v : α → Value} {L' : α → Lst} {I : α → Prop}
    (hcv : ev σ c = some (.func (.func f) fa.toArray cb.toArray)) (he : X.tb.fns.contains f = true) (hx : evs σ xs = some vs) (hn : Nat.blt dd X.n = true)
    (hc : ∀ w, Hp X.w0 X.S L w → Calls X.P f (fa ++ vs ++ cb).toArray w fun e w' => ∃ x, e = .returned (v x) ∧ Hp X.w0 X.S (L' x) w' ∧ I x)
    (h : ∀ x, I x → R X all rest K ((dd, v x) :: σ) (L' x)) :
    R X all ({ dst := some dd, op := .call { callee := .value c, args := xs.toArray, argTypes := ats }, type := ty, pos := pos, after := af, guard := none } :: rest) K σ L := by
  refine ⟨fun a w ha hw => wpList_plain rfl fun K' hK' => ?_⟩
  unfold Oper.wp
  have hr : (execOp a.eval { dst := some dd, op := .call { callee := .value c, args := xs.toArray, argTypes := ats }, type := ty, pos := pos, after := af, guard := none }).run X.P w = .ok (.enter f (fa ++ vs ++ cb).toArray) w := by
    have := X.tb.ent he (fa ++ vs ++ cb).toArray w
    have hm : xs.toArray.map a.eval = vs.toArray := by rw [List.map_toArray, evs_map ha hx]
    simp only [execOp, resolve, ha.ev hcv, hm, Deferred.ofValue, Sem.run_bind, Sem.run_pure, Result.andThen_ok, invoke, List.append_toArray]
    exact this
  rw [hr, Oper.upon_enter]
  refine (hc w hw).mono fun e w' ⟨x, he, hw', hx⟩ => ?_
  subst he
  exact hK' _ _ ((h x hx).run _ _ (ha.put (blt_lt hn) _) hw')
/-- A function value, called by its contract: one value, nothing old has changed. -/
theorem R.callFV (hcv : ev σ c = some (.func (.func f) fa.toArray cb.toArray)) (he : X.tb.fns.contains f = true) (hx : evs σ xs = some vs) (hn : Nat.blt dd X.n = true)
    (hc : ∀ w, Hp X.w0 X.S L w → CallW X.P f (fa ++ vs ++ cb) w fun u _ => u = v) (h : R X all rest K ((dd, v) :: σ) L) :
    R X all ({ dst := some dd, op := .call { callee := .value c, args := xs.toArray, argTypes := ats }, type := ty, pos := pos, after := af, guard := none } :: rest) K σ L :=
  R.callF (α := Unit) (v := fun _ => v) (L' := fun _ => L) (I := fun _ => True) hcv he hx hn (fun w hw => (hc w hw).run.mono fun e w' ⟨u, h1, h2, h3⟩ => ⟨(), by rw [h1, h2], hw.step h3, trivial⟩) fun _ _ => h
theorem R.callFP (hcv : ev σ c = some (.func (.func f) fa.toArray cb.toArray)) (he : X.tb.fns.contains f = true) (hx : evs σ xs = some vs) (hn : Nat.blt dd X.n = true)
    (hc : CallP X.P f (fa ++ vs ++ cb) v) (h : R X all rest K ((dd, v) :: σ) L) :
    R X all ({ dst := some dd, op := .call { callee := .value c, args := xs.toArray, argTypes := ats }, type := ty, pos := pos, after := af, guard := none } :: rest) K σ L :=
  R.callFV hcv he hx hn (fun w hw => ⟨(hc.run w).mono fun e w' ⟨h1, h2⟩ => ⟨_, h1, rfl, h2⟩⟩) h
end
section
variable {X : Cx} {σ : Env} {L : Lst} {dd c : Nat} {ty t : TypeId} {pos : String} {af : Array Edge} {r : TRow} {x : Operand} {all : Array Oper} {rest : List Oper} {K : Env → Lst → Prop}
/-- Ranging over no map. -/
theorem R.rangeN {kt et : TypeId} (hn : Nat.blt dd X.n = true) (ht : X.tb.row t = some r) (hk : r.k = .map kt et) (hx : ev σ x = some (.map none)) (h : ∀ c, R X all rest K ((dd, .pointer (some ⟨c, 0, none⟩)) :: σ) ((c, .mapIter none 0 #[] 0) :: L)) :
    R X all (⟨some dd, .range t x, ty, pos, af, none⟩ :: rest) K σ L :=
  R.value rfl rfl hn fun a w ha hw => by
    have hu : X.P.underlying t = some (.map kt et) := by have := (X.tb.get ht).is; rw [hk] at this; exact this
    refine ⟨_, w.alloc (.mapIter none 0 #[] 0), _, ?_, hw.alloc _, h _⟩
    simp [execOp, ha.ev hx, Instr.range, run_underlying hu]
theorem R.nextN (hn : Nat.blt dd X.n = true) (hx : ev σ x = some (.pointer (some ⟨c, 0, none⟩))) (hit : At L c (.mapIter none 0 #[] 0)) (h : R X all rest K ((dd, .tuple ⟨[.bool false]⟩) :: σ) L) :
    R X all (⟨some dd, .next x false, ty, pos, af, none⟩ :: rest) K σ L :=
  R.value rfl rfl hn fun a w ha hw => by
    have hc := hw.get _ _ hit.mem
    have g1 : (getObj c).run X.P w = .ok (.mapIter none 0 #[] 0) w := by simp only [getObj, Sem.run, hc]
    refine ⟨_, w, L, ?_, hw, h⟩
    simp [execOp, ha.ev hx, Instr.next, g1]
end
/-- A row of an own slice (or a part of it), read back. -/
theorem own_row {α : Type} {v : α → List Value} {rs : List α} {sz : Nat} (hv : ∀ a, (v a).length = sz) {j : Nat} {a : α} (hr : rs[j]? = some a) {k : Nat} (hk : k < sz) {junk : List Value} : (fl v rs ++ junk)[j * sz + k]? = (v a)[k]? := by
  have h1 := (List.getElem?_eq_some_iff.1 hr).1
  have h2 := Nat.mul_le_mul_right sz (show j + 1 ≤ rs.length from h1)
  rw [Nat.add_mul, Nat.one_mul] at h2
  rw [List.getElem?_append_left (by rw [fl_len hv]; omega), fl_get hv hr hk]
section
variable {X : Cx} {L : Lst} {t : TypeId} {r : TRow} {α : Type} {v : α → List Value} {rs : List α} {sz b j f o : Nat} {a : α} {junk : List Value} {te : TypeId} {fz : Nat × Nat} {u : Value} {us : List Value}
theorem Ld.ownrow1 (hat : At L b (.cells ⟨fl v rs ++ junk⟩ te fz)) (hv : ∀ a, (v a).length = sz) (hr : rs[j]? = some a) (ho : o = j * sz + f) (ht : X.tb.row t = some r) (hk : r.k.agg = some false) (hf : (v a)[f]? = some u) : Ld X L t ⟨b, o, none⟩ u :=
  .own1 ht hk hat (by rw [ho, own_row hv hr (by rw [← hv a]; exact (List.getElem?_eq_some_iff.1 hf).1)]; exact hf)
theorem Ld.ownrowk (hat : At L b (.cells ⟨fl v rs ++ junk⟩ te fz)) (hv : ∀ a, (v a).length = sz) (hr : rs[j]? = some a) (ho : o = j * sz + f) (ht : X.tb.row t = some r) (hk : r.k.agg = some true) (hf : subE (v a) f r.size = some us) : Ld X L t ⟨b, o, none⟩ (.agg ⟨us⟩) := by
  obtain ⟨h1, h2⟩ := subE_spec hf
  refine .ofk ht hk h1 fun w hw i hi => ?_
  have h3 := h2 i hi
  have hlt : f + i < sz := by
    rcases Nat.lt_or_ge (f + i) sz with h | h
    · exact h
    · rw [List.getElem?_eq_none (by rw [hv]; exact h), List.getElem?_eq_getElem (by omega)] at h3; cases h3
  rw [hat.cell hw, ho, show j * sz + f + i = j * sz + (f + i) by omega, own_row hv hr hlt, h3]
end
theorem CallP.at {P : Program} {f : FuncId} {vs : List Value} {v : Value} (h : CallP P f vs v) (w : World) : CallW P f vs w fun u _ => u = v := ⟨(h.run w).mono fun e w' ⟨h1, h2⟩ => ⟨_, h1, rfl, h2⟩⟩
end Go.Proofs.Ytligpachgcmkcaa
