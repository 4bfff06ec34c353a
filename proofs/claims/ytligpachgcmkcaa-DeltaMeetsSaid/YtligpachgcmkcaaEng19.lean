/- Calls of a function value. -/
import Derived.Test.YtligpachgcmkcaaEng14
set_option linter.unusedSimpArgs false
set_option linter.unusedVariables false
set_option linter.unusedSectionVars false
namespace Go.Proofs.Ytligpachgcmkcaa
open Go.RowKit Go.Shelf

section
variable {X : Cx} {σ : Env} {L Li Lr : Lst} {dd : Nat} {ty : TypeId} {pos : String} {af : Array Edge} {f : FuncId} {ats : Array TypeId} {c : Operand} {fa cb : List Value}
variable {all : Array Oper} {rest : List Oper} {K : Env → Lst → Prop} {xs : List Operand} {vs : List Value} {v : Value}
/-- The arguments' list of a call. -/
theorem evs_map {n : Nat} {a : Act} (ha : Mod n a σ) : ∀ {xs : List Operand} {vs : List Value}, evs σ xs = some vs → xs.map a.eval = vs
  | [], vs, h => by simp [evs] at h; simp [← h]
  | x :: xs, vs, h => by
    simp only [evs] at h
    cases h1 : ev σ x with
    | none => simp [h1] at h
    | some u =>
      cases h2 : evs σ xs with
      | none => simp [h1, h2] at h
      | some us =>
        simp [h1, h2] at h
        subst h
        simp [ha.ev h1, evs_map ha h2]
theorem R.callF {α : Type} {v : α → Value} {L' : α → Lst} {I : α → Prop}
    (hcv : ev σ c = some (.func (.func f) fa.toArray cb.toArray)) (he : X.tb.fns.contains f = true) (hx : evs σ xs = some vs) (hn : Nat.blt dd X.n = true)
    (hc : ∀ w, Hp X.w0 X.S L w → Calls X.P f (fa ++ vs ++ cb).toArray w fun e w' => ∃ x, e = .returned (v x) ∧ Hp X.w0 X.S (L' x) w' ∧ I x)
    (h : ∀ x, I x → R X all rest K ((dd, v x) :: σ) (L' x)) :
    R X all ({ dst := some dd, op := .call { callee := .value c, args := xs.toArray, argTypes := ats }, type := ty, pos := pos, after := af, guard := none } :: rest) K σ L := by
  refine ⟨fun a w ha hw => wpList_plain rfl fun K' hK' => ?_⟩
  unfold Oper.wp
  have hr : (execOp a.eval { dst := some dd, op := .call { callee := .value c, args := xs.toArray, argTypes := ats }, type := ty, pos := pos, after := af, guard := none }).run X.P w = .ok (.enter f (fa ++ vs ++ cb).toArray) w := by
    have := X.tb.ent he (fa ++ vs ++ cb).toArray w
    have hm : xs.toArray.map a.eval = vs.toArray := by rw [List.map_toArray, evs_map ha hx]
    simp only [execOp, resolve, ha.ev hcv, hm, Deferred.ofValue, Sem.run_bind, Sem.run_pure, Result.andThen_ok, invoke, List.append_toArray]
    exact this
  rw [hr, Oper.upon_enter]
  refine (hc w hw).mono fun e w' ⟨x, he, hw', hx⟩ => ?_
  subst he
  exact hK' _ _ ((h x hx).run _ _ (ha.put (blt_lt hn) _) hw')
/-- A function value, called by its contract: one value, nothing old has changed. -/
theorem R.callFV (hcv : ev σ c = some (.func (.func f) fa.toArray cb.toArray)) (he : X.tb.fns.contains f = true) (hx : evs σ xs = some vs) (hn : Nat.blt dd X.n = true)
    (hc : ∀ w, Hp X.w0 X.S L w → CallW X.P f (fa ++ vs ++ cb) w fun u _ => u = v) (h : R X all rest K ((dd, v) :: σ) L) :
    R X all ({ dst := some dd, op := .call { callee := .value c, args := xs.toArray, argTypes := ats }, type := ty, pos := pos, after := af, guard := none } :: rest) K σ L :=
  R.callF (α := Unit) (v := fun _ => v) (L' := fun _ => L) (I := fun _ => True) hcv he hx hn (fun w hw => (hc w hw).run.mono fun e w' ⟨u, h1, h2, h3⟩ => ⟨(), by rw [h1, h2], hw.step h3, trivial⟩) fun _ _ => h
theorem R.callFP (hcv : ev σ c = some (.func (.func f) fa.toArray cb.toArray)) (he : X.tb.fns.contains f = true) (hx : evs σ xs = some vs) (hn : Nat.blt dd X.n = true)
    (hc : CallP X.P f (fa ++ vs ++ cb) v) (h : R X all rest K ((dd, v) :: σ) L) :
    R X all ({ dst := some dd, op := .call { callee := .value c, args := xs.toArray, argTypes := ats }, type := ty, pos := pos, after := af, guard := none } :: rest) K σ L :=
  R.callFV hcv he hx hn (fun w hw => ⟨(hc.run w).mono fun e w' ⟨h1, h2⟩ => ⟨_, h1, rfl, h2⟩⟩) h
end
section
variable {X : Cx} {σ : Env} {L : Lst} {dd c : Nat} {ty t : TypeId} {pos : String} {af : Array Edge} {r : TRow} {x : Operand} {all : Array Oper} {rest : List Oper} {K : Env → Lst → Prop}
/-- Ranging over no map. -/
theorem R.rangeN {kt et : TypeId} (hn : Nat.blt dd X.n = true) (ht : X.tb.row t = some r) (hk : r.k = .map kt et) (hx : ev σ x = some (.map none)) (h : ∀ c, R X all rest K ((dd, .pointer (some ⟨c, 0, none⟩)) :: σ) ((c, .mapIter none 0 #[] 0) :: L)) :
    R X all (⟨some dd, .range t x, ty, pos, af, none⟩ :: rest) K σ L :=
  R.value rfl rfl hn fun a w ha hw => by
    have hu : X.P.underlying t = some (.map kt et) := by have := (X.tb.get ht).is; rw [hk] at this; exact this
    refine ⟨_, w.alloc (.mapIter none 0 #[] 0), _, ?_, hw.alloc _, h _⟩
    simp [execOp, ha.ev hx, Instr.range, run_underlying hu]
theorem R.nextN (hn : Nat.blt dd X.n = true) (hx : ev σ x = some (.pointer (some ⟨c, 0, none⟩))) (hit : At L c (.mapIter none 0 #[] 0)) (h : R X all rest K ((dd, .tuple ⟨[.bool false]⟩) :: σ) L) :
    R X all (⟨some dd, .next x false, ty, pos, af, none⟩ :: rest) K σ L :=
  R.value rfl rfl hn fun a w ha hw => by
    have hc := hw.get _ _ hit.mem
    have g1 : (getObj c).run X.P w = .ok (.mapIter none 0 #[] 0) w := by simp only [getObj, Sem.run, hc]
    refine ⟨_, w, L, ?_, hw, h⟩
    simp [execOp, ha.ev hx, Instr.next, g1]
end
/-- A row of an own slice (or a part of it), read back. -/
theorem own_row {α : Type} {v : α → List Value} {rs : List α} {sz : Nat} (hv : ∀ a, (v a).length = sz) {j : Nat} {a : α} (hr : rs[j]? = some a) {k : Nat} (hk : k < sz) {junk : List Value} : (fl v rs ++ junk)[j * sz + k]? = (v a)[k]? := by
  have h1 := (List.getElem?_eq_some_iff.1 hr).1
  have h2 := Nat.mul_le_mul_right sz (show j + 1 ≤ rs.length from h1)
  rw [Nat.add_mul, Nat.one_mul] at h2
  rw [List.getElem?_append_left (by rw [fl_len hv]; omega), fl_get hv hr hk]
section
variable {X : Cx} {L : Lst} {t : TypeId} {r : TRow} {α : Type} {v : α → List Value} {rs : List α} {sz b j f o : Nat} {a : α} {junk : List Value} {te : TypeId} {fz : Nat × Nat} {u : Value} {us : List Value}
theorem Ld.ownrow1 (hat : At L b (.cells ⟨fl v rs ++ junk⟩ te fz)) (hv : ∀ a, (v a).length = sz) (hr : rs[j]? = some a) (ho : o = j * sz + f) (ht : X.tb.row t = some r) (hk : r.k.agg = some false) (hf : (v a)[f]? = some u) : Ld X L t ⟨b, o, none⟩ u :=
  .own1 ht hk hat (by rw [ho, own_row hv hr (by rw [← hv a]; exact (List.getElem?_eq_some_iff.1 hf).1)]; exact hf)
theorem Ld.ownrowk (hat : At L b (.cells ⟨fl v rs ++ junk⟩ te fz)) (hv : ∀ a, (v a).length = sz) (hr : rs[j]? = some a) (ho : o = j * sz + f) (ht : X.tb.row t = some r) (hk : r.k.agg = some true) (hf : subE (v a) f r.size = some us) : Ld X L t ⟨b, o, none⟩ (.agg ⟨us⟩) := by
  obtain ⟨h1, h2⟩ := subE_spec hf
  refine .ofk ht hk h1 fun w hw i hi => ?_
  have h3 := h2 i hi
  have hlt : f + i < sz := by
    rcases Nat.lt_or_ge (f + i) sz with h | h
    · exact h
    · rw [List.getElem?_eq_none (by rw [hv]; exact h), List.getElem?_eq_getElem (by omega)] at h3; cases h3
  rw [hat.cell hw, ho, show j * sz + f + i = j * sz + (f + i) by omega, own_row hv hr hlt, h3]
end
theorem CallP.at {P : Program} {f : FuncId} {vs : List Value} {v : Value} (h : CallP P f vs v) (w : World) : CallW P f vs w fun u _ => u = v := ⟨(h.run w).mono fun e w' ⟨h1, h2⟩ => ⟨_, h1, rfl, h2⟩⟩
end Go.Proofs.Ytligpachgcmkcaa
/- Rules: a cut of an own slice; delete on no map. -/
set_option linter.unusedSimpArgs false
set_option linter.unusedVariables false
set_option linter.unusedSectionVars false
namespace Go.Proofs.Ytligpachgcmkcaa
open Go.RowKit Go.Shelf

def cutV (ov : Ov) (n : Nat) : Value := match ov with
  | none => .slice none 0 0
  | some (b, _, _) => .slice (some ⟨b, 0, none⟩) n n
section
variable {X : Cx} {σ : Env} {L L' : Lst} {dd b e : Nat} {ty : TypeId} {pos : String} {af : Array Edge} {d : Option Nat} {g : Option (Nat × Bool)} {x y z : Operand} {t t2 kt et : TypeId} {r re : TRow}
variable {all : Array Oper} {rest : List Oper} {K : Env → Lst → Prop}
variable {κ : Type} [DecidableEq κ] {kv : κ → Value} {vk : Value}
/-- Its first ones, and room for no more. -/
theorem Ok1.sliceCut {ov : Ov} {n sz : Nat} {xs : List Value} {hi mx : Operand} {h : Int} (ht : X.tb.row t = some r) (hk : r.k = .slice e) (he : X.tb.row e = some re) (hx : ev σ x = some (slV ov n)) (hok : OvOk sz ov n xs) (hh : ev σ hi = some (.int .i64 h)) (hm : ev σ mx = some (.int .i64 h)) (h0 : 0 ≤ h) (h1 : h ≤ n) :
    Ok1 X ⟨d, .slice t x none (some hi) (some mx), ty, pos, af, g⟩ σ L (cutV ov h.toNat) := by
  cases ov with
  | none =>
    have h2 : n = 0 := hok.2
    have h3 : h = 0 := by omega
    subst h3
    exact Ok1.slice0 (h := 0) (m := 0) (l := 0) ht hk he hx (by simp [bd, hm]) (by simp [bd, hh]) rfl ⟨rfl, rfl, rfl⟩ (.inr (by simp))
  | some q =>
    obtain ⟨b, j, junk⟩ := q
    exact Ok1.sliceTo (h := h) (m := h) ht hk he hx (by simp [bd, hm]) (by simp [bd, hh]) h0 (by omega) (by omega) (.inr (by simp))
theorem delete_nil0 {P : Program} {w : World} (hkt : KeyT P kt kv) (hu : P.underlying t = some (.map kt et)) (k : κ) (ats : Array TypeId) (h0 : ats[0]? = some t) (ty : TypeId) :
    (Builtin.delete_ ats ty #[.map none, kv k]).run P w = .ok (.tuple #[]) w := by
  unfold Builtin.delete_
  simp only [h0, Array.getElem?_toList, List.getElem?_toArray, List.getElem?_cons_zero, List.getElem?_cons_succ, Sem.run_bind, run_underlying hu, Result.andThen_ok, hkt.chk, Sem.run_pure]
theorem R.mapDel0 (k : κ) (hkt : KeyT X.P kt kv) (ht : X.tb.row t = some r) (hk : r.k = .map kt et) (hx : ev σ x = some (.map none)) (hy : ev σ y = some vk) (hv : vk = kv k)
    (h : R X all rest K σ L) : R X all (⟨none, .call { callee := .builtin .delete, args := #[x, y], argTypes := #[t, t2] }, ty, pos, af, none⟩ :: rest) K σ L :=
  R.value0 rfl rfl fun a' w ha hw => by
    have h1 := delete_nil0 (w := w) hkt (TB.map X.tb ht hk) k #[t, t2] rfl ty
    refine ⟨.tuple #[], w, L, ?_, hw, h⟩
    simp [execOp, resolve, ha.ev hx, ha.ev hy, hv, invoke, builtin, h1]
end
theorem u64_wrap (i : Int) : 0 ≤ IntKind.u64.wrap i ∧ IntKind.u64.wrap i ≤ 18446744073709551615 := by
  simp [IntKind.wrap, IntKind.bits, IntKind.signed]; omega
def ovp (ov : Ov) : Option Addr := match ov with | none => none | some (b, _, _) => some ⟨b, 0, none⟩
def ovc (ov : Ov) (n : Nat) : Nat := match ov with | none => 0 | some (_, j, _) => n + j
theorem slV_eq {sz n : Nat} {ov : Ov} {xs : List Value} (h : OvOk sz ov n xs) : slV ov n = .slice (ovp ov) n (ovc ov n) := by
  cases ov with
  | none => have : n = 0 := h.2; subst this; rfl
  | some x => rfl
theorem RdSl.own' {α : Type} {v : α → List Value} {e sz : Nat} {ov : Ov} {rs : List α} {w0 w : World} {S : List Nat} {L : Lst} (hw : Hp w0 S L w) (hb : ∀ x ∈ blkL e ov (fl v rs), x ∈ L) (hok : OvOk sz ov rs.length (fl v rs)) (hv : ∀ a, (v a).length = sz) : RdSl w (ovp ov) v rs := by
  have := RdSl.own hw hb hok hv
  cases ov <;> exact this
theorem Ok1.lenOv {X : Cx} {σ : Env} {L : Lst} {t e : TypeId} {r : TRow} {ov : Ov} {n sz : Nat} {xs : List Value} {x : Operand} {ty : TypeId} {pos : String} {af : Array Edge} {d : Option Nat} {g : Option (Nat × Bool)}
    (ht : X.tb.row t = some r) (hk : r.k = .slice e) (hx : ev σ x = some (slV ov n)) (hok : OvOk sz ov n xs) : Ok1 X ⟨d, .call { callee := .builtin .len, args := #[x], argTypes := #[t] }, ty, pos, af, g⟩ σ L (.int .i64 n) := by
  cases ov with
  | none => have := hok.2; subst this; exact Ok1.lenS ht hk hx
  | some q => obtain ⟨b, j, junk⟩ := q; exact Ok1.lenS ht hk hx
theorem rep_get {n i : Nat} {a : Value} {k : List Value} (h : i < n) : (List.replicate n a ++ k)[0 + i * 1]? = some a := by
  rw [Nat.zero_add, Nat.mul_one, List.getElem?_append_left (by rw [List.length_replicate]; exact h), List.getElem?_replicate, if_pos h]
theorem RdSl.of {α : Type} {v : α → List Value} {rs : List α} {w0 w : World} {S : List Nat} {L : Lst} {b : Nat} {e : TypeId} {fz : Nat × Nat} {cs junk : List Value} (hw : Hp w0 S L w) (hat : At L b (.cells ⟨cs⟩ e fz)) (hc : cs = fl v rs ++ junk) : RdSl w (some ⟨b, 0, none⟩) v rs := by
  subst hc
  right
  refine ⟨b, 0, rfl, fun k hk => ?_⟩
  have := hw.get b _ hat.mem
  simp only [World.cell?, this]
  simp [hk, List.getElem?_append_left]
theorem Off.of {w0 w : World} {S : List Nat} {L Li Lr : Lst} {b k : Nat} {o : Obj} (hw : Hp w0 S L w) (he : Ext L Li Lr) (hat : At Lr b o) : Off (some ⟨b, k, none⟩) (blks Li) := by
  intro a ha
  cases ha
  exact RdSl.off hw he hat.mem
theorem RdSl.chg {α : Type} {v : α → List Value} {rs : List α} {w w' : World} {S : List Nat} {p : Option Addr} (h : RdSl w p v rs) (hc : Chg S w w') (ho : Off p S) : RdSl w' p v rs := by
  rcases h with h | ⟨b, o, hp, h⟩
  · exact .inl h
  · refine .inr ⟨b, o, hp, fun k hk => ?_⟩
    have h1 := h k hk
    have h2 := ho _ hp
    rw [List.getElem?_eq_getElem hk] at h1 ⊢
    exact hc.cell h1 h2
theorem Off.nil (p : Option Addr) : Off p [] := fun _ _ => List.not_mem_nil
end Go.Proofs.Ytligpachgcmkcaa
