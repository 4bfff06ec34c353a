/- Rules for single operations: moves, loads and stores, new variables, fields, indexes, numbers, tests. -/
import Derived.Test.YtdfdfohfnjefiaaEng2
set_option linter.unusedSimpArgs false
set_option linter.unusedVariables false
namespace Go.Proofs.Ytdfdfohfnjefiaa
open Go.RowKit Go.Shelf

section
variable {X : Cx} {σ : Env} {L L' : Lst} {d : Option Nat} {ty : TypeId} {pos : String} {af : Array Edge} {g : Option (Nat × Bool)} {x y c : Operand} {v vx vy : Value} {t : TypeId}
variable {all : Array Oper} {rest : List Oper} {K : Env → Lst → Prop} {r : TRow}

theorem Ok1.move (h : ev σ x = some v) : Ok1 X ⟨d, .move x, ty, pos, af, g⟩ σ L v := .mk fun a w ha hw => by simp [execOp, ha.ev h]
theorem Ok1.assign (h : ev σ x = some v) : Ok1 X ⟨d, .assign x, ty, pos, af, g⟩ σ L v := .mk fun a w ha hw => by simp [execOp, ha.ev h]
theorem Ok1.pick_t (hc : ev σ c = some (.bool true)) (h : ev σ x = some v) : Ok1 X ⟨d, .pick c x y, ty, pos, af, g⟩ σ L v := .mk fun a w ha hw => by
  simp [execOp, ha.ev h, ha.ev hc, asBool]
theorem Ok1.pick_f (hc : ev σ c = some (.bool false)) (h : ev σ y = some v) : Ok1 X ⟨d, .pick c x y, ty, pos, af, g⟩ σ L v := .mk fun a w ha hw => by
  simp [execOp, ha.ev h, ha.ev hc, asBool]

/-! ### lists of cells -/
def copyE : List Value → Option (List Value)
  | [] => some []
  | v :: r => match copyE r with | some s => some (v :: s) | none => none
theorem copyE_eq {l r : List Value} (h : copyE l = some r) : r = l := by
  induction l generalizing r with
  | nil => simp [copyE] at h; exact h
  | cons v l ih =>
    simp only [copyE] at h
    cases e : copyE l with
    | none => rw [e] at h; cases h
    | some s => rw [e] at h; cases h; rw [ih e]
/-- The k cells from o on. -/
def subE : List Value → Nat → Nat → Option (List Value)
  | _, _, 0 => some []
  | [], _, _ + 1 => none
  | c :: cs, 0, k + 1 => match subE cs 0 k with | some r => some (c :: r) | none => none
  | _ :: cs, o + 1, k + 1 => subE cs o (k + 1)
theorem subE_spec : ∀ {cs : List Value} {o k : Nat} {vs : List Value}, subE cs o k = some vs → vs.length = k ∧ ∀ i, i < k → cs[o + i]? = vs[i]?
  | _, _, 0, vs, h => by simp [subE] at h; subst h; simp
  | [], _, k + 1, vs, h => by simp [subE] at h
  | c :: cs, 0, k + 1, vs, h => by
    simp only [subE] at h
    cases e : subE cs 0 k with
    | none => rw [e] at h; cases h
    | some r =>
      rw [e] at h; cases h
      obtain ⟨h1, h2⟩ := subE_spec e
      refine ⟨by simp [h1], fun i hi => ?_⟩
      cases i with
      | zero => rfl
      | succ i => have := h2 i (by omega); simp at this ⊢; exact this
  | c :: cs, o + 1, k + 1, vs, h => by
    simp only [subE] at h
    obtain ⟨h1, h2⟩ := subE_spec h
    refine ⟨h1, fun i hi => ?_⟩
    rw [Nat.add_right_comm]; simpa using h2 i hi
/-- cs with vs laid over the cells from o on. -/
def setE : List Value → Nat → List Value → Option (List Value)
  | cs, _, [] => some cs
  | [], _, _ :: _ => none
  | _ :: cs, 0, v :: vs => match setE cs 0 vs with | some r => some (v :: r) | none => none
  | c :: cs, o + 1, v :: vs => match setE cs o (v :: vs) with | some r => some (c :: r) | none => none
theorem setE_spec : ∀ {cs : List Value} {o : Nat} {vs r : List Value}, setE cs o vs = some r → r.length = cs.length ∧ (vs = [] ∨ o + vs.length ≤ cs.length) ∧ ∀ j, r[j]? = if o ≤ j ∧ j < o + vs.length then vs[j - o]? else cs[j]?
  | cs, o, [], r, h => by
    simp [setE] at h; subst h
    refine ⟨rfl, .inl rfl, fun j => ?_⟩
    rw [if_neg (by rintro ⟨h1, h2⟩; simp at h2; omega)]
  | [], _, _ :: _, r, h => by simp [setE] at h
  | c :: cs, 0, v :: vs, r, h => by
    simp only [setE] at h
    cases e : setE cs 0 vs with
    | none => rw [e] at h; cases h
    | some r' =>
      rw [e] at h; cases h
      obtain ⟨h1, h2, h3⟩ := setE_spec e
      refine ⟨by simp [h1], .inr ?_, fun j => ?_⟩
      · rcases h2 with h2 | h2
        · subst h2; simp
        · simp at h2 ⊢; omega
      · cases j with
        | zero => simp
        | succ j => have := h3 j; simp at this ⊢; exact this
  | c :: cs, o + 1, v :: vs, r, h => by
    simp only [setE] at h
    cases e : setE cs o (v :: vs) with
    | none => rw [e] at h; cases h
    | some r' =>
      rw [e] at h; cases h
      obtain ⟨h1, h2, h3⟩ := setE_spec e
      refine ⟨by simp [h1], .inr ?_, fun j => ?_⟩
      · rcases h2 with h2 | h2
        · cases h2
        · simp at h2 ⊢; omega
      · cases j with
        | zero => rw [if_neg (by omega)]; simp
        | succ j =>
          have := h3 j
          simp only [List.getElem?_cons_succ, this]
          by_cases hc : o ≤ j ∧ j < o + (v :: vs).length
          · rw [if_pos hc, if_pos (by omega), Nat.add_sub_add_right]
          · rw [if_neg hc, if_neg (by omega)]

def cellsE : Value → Option (List Value)
  | .agg ⟨l⟩ => some l
  | v => some [v]
theorem cellsE_eq {v : Value} {l : List Value} (h : cellsE v = some l) : v.cells = ⟨l⟩ := by
  cases v <;> simp [cellsE, Value.cells] at h ⊢ <;> first | (subst h; rfl) | skip

/-! ### loads -/
structure Ld (X : Cx) (L : Lst) (t : TypeId) (p : Addr) (v : Value) : Prop where
  run : ∀ w, Hp X.w0 X.S L w → (loadVar t p).run X.P w = .ok v w

theorem At.cell {w : World} {S : List Nat} {w0 : World} {b : Nat} {cs : List Value} {te : TypeId} {fz : Nat × Nat} (h : At L b (.cells ⟨cs⟩ te fz)) (hw : Hp w0 S L w) (o : Nat) : w.cell? ⟨b, o, none⟩ = cs[o]? := by
  have := hw.get _ _ h.mem
  simp [World.cell?, this]

theorem run_cells (P : Program) (w : World) (p : Addr) (hp : p.spot = none) (vs : List Value) : ∀ (k i : Nat) (acc : Array Value), (∀ j, j < k → w.cell? ⟨p.block, p.off + (i + j), none⟩ = vs[i + j]?) → i + k = vs.length →
    (loadCellsFrom p i k acc).run P w = .ok (acc ++ ⟨vs.drop i⟩) w
  | 0, i, acc, h, hl => by
    have h0 : vs.drop i = [] := List.drop_eq_nil_of_le (by omega)
    rw [loadCellsFrom, h0, Sem.run_pure]
    have e : acc ++ (⟨[]⟩ : Array Value) = acc := Array.append_empty
    rw [e]
  | k + 1, i, acc, h, hl => by
    have hi : i < vs.length := by omega
    have h0 := h 0 (by omega)
    simp only [Nat.add_zero] at h0
    have ha : p.add i = ⟨p.block, p.off + i, none⟩ := by
      cases p; simp at hp; subst hp
      simp only [Addr.add]; split
      · rename_i e; subst e; rfl
      · rfl
    rw [loadCellsFrom, Sem.run_bind, run_load, ha, h0, List.getElem?_eq_getElem hi]
    simp only [Result.andThen_ok]
    rw [run_cells P w p hp vs k (i + 1) _ (fun j hj => by have := h (j + 1) (by omega); rwa [show i + (j + 1) = i + 1 + j by omega] at this) (by omega)]
    have e : acc.push vs[i] ++ (⟨vs.drop (i + 1)⟩ : Array Value) = acc ++ ⟨vs.drop i⟩ := by
      apply Array.toList_inj.1
      simp only [Array.toList_append, Array.toList_push]
      rw [List.drop_eq_getElem_cons hi, List.append_assoc]
      rfl
    rw [e]

theorem Ld.of1 {p : Addr} (ht : X.tb.row t = some r) (hk : r.k.agg = some false) (h : ∀ w, Hp X.w0 X.S L w → w.cell? p = some v) : Ld X L t p v := .mk fun w hw => by
  simp [loadVar, (X.tb.get ht).agg hk, run_load, h w hw]
theorem Ld.ofk {b o : Nat} {vs : List Value} (ht : X.tb.row t = some r) (hk : r.k.agg = some true) (hl : vs.length = r.size) (h : ∀ w, Hp X.w0 X.S L w → ∀ i, i < r.size → w.cell? ⟨b, o + i, none⟩ = vs[i]?) : Ld X L t ⟨b, o, none⟩ (.agg ⟨vs⟩) := .mk fun w hw => by
  have h2 := run_cells X.P w ⟨b, o, none⟩ rfl vs r.size 0 #[] (fun j hj => by rw [Nat.zero_add]; exact h w hw j hj) (by omega)
  have e : (#[] : Array Value) ++ (⟨vs.drop 0⟩ : Array Value) = ⟨vs⟩ := by apply Array.toList_inj.1; simp
  rw [e] at h2
  rw [loadVar, Sem.run_bind, (X.tb.get ht).agg hk]
  simp only [Result.andThen_ok, if_true, Sem.run_bind, (X.tb.get ht).size, loadCells, h2, Sem.run_pure]

theorem Ld.own1 {b o : Nat} {cs : List Value} {te : TypeId} {fz : Nat × Nat} (ht : X.tb.row t = some r) (hk : r.k.agg = some false) (hat : At L b (.cells ⟨cs⟩ te fz)) (hc : cs[o]? = some v) : Ld X L t ⟨b, o, none⟩ v :=
  .of1 ht hk fun w hw => (hat.cell hw o).trans hc
theorem Ld.ownk {b o : Nat} {cs vs : List Value} {te : TypeId} {fz : Nat × Nat} (ht : X.tb.row t = some r) (hk : r.k.agg = some true) (hat : At L b (.cells ⟨cs⟩ te fz)) (hc : subE cs o r.size = some vs) : Ld X L t ⟨b, o, none⟩ (.agg ⟨vs⟩) :=
  .ofk ht hk (subE_spec hc).1 fun w hw i hi => (hat.cell hw _).trans ((subE_spec hc).2 i hi)
theorem Hp.old {w0 w : World} {S : List Nat} {p : Addr} (hw : Hp w0 S L w) (hc : w0.cell? p = some v) (hs : p.block ∉ S) : w.cell? p = some v := hw.chg.cell hc hs
theorem Ld.old1 {p : Addr} (ht : X.tb.row t = some r) (hk : r.k.agg = some false) (hc : X.w0.cell? p = some v) (hs : p.block ∉ X.S) : Ld X L t p v :=
  .of1 ht hk fun w hw => hw.old hc hs
theorem Ld.oldk {b o : Nat} {vs : List Value} (ht : X.tb.row t = some r) (hk : r.k.agg = some true) (hl : vs.length = r.size) (hc : ∀ i, i < r.size → X.w0.cell? ⟨b, o + i, none⟩ = vs[i]?) (hs : b ∉ X.S) : Ld X L t ⟨b, o, none⟩ (.agg ⟨vs⟩) :=
  .ofk ht hk hl fun w hw i hi => by
    have h1 := hc i hi
    rw [List.getElem?_eq_getElem (by omega)] at h1 ⊢
    exact hw.old h1 hs

theorem Ok1.load {p : Addr} (hx : ev σ x = some (.pointer (some p))) (h : Ld X L t p v) : Ok1 X ⟨d, .load t x, ty, pos, af, g⟩ σ L v := .mk fun a w ha hw => by
  simp [execOp, ha.ev hx, Instr.loadAt, Instr.sureAddr, h.run w hw]

/-! ### stores, new variables -/
theorem run_stores (P : Program) (p : Addr) (hp : p.spot = none) (te : TypeId) : ∀ (vs : List Value) (i : Nat) (w : World) (cs cs' : List Value), vs.all Value.oneCell' = true → w.heap[p.block]? = some (.cells ⟨cs⟩ te (0, 0)) → setE cs (p.off + i) vs = some cs' →
    ∃ w', (storeCells p vs i).run P w = .ok () w' ∧ w'.heap[p.block]? = some (.cells ⟨cs'⟩ te (0, 0)) ∧ Chg [p.block] w w'
  | [], i, w, cs, cs', h1, hb, hc => by
    simp only [setE, Option.some.injEq] at hc
    subst hc
    exact ⟨w, by simp [storeCells], hb, .refl _ _⟩
  | v :: vs, i, w, cs, cs', h1, hb, hc => by
    have ha : p.add i = ⟨p.block, p.off + i, none⟩ := by
      cases p; simp at hp; subst hp
      simp only [Addr.add]; split
      · rename_i e; subst e; rfl
      · rfl
    simp only [List.all_cons, Bool.and_eq_true] at h1
    -- one store, then the rest
    have key : ∀ (cs : List Value) (o : Nat) (cs' : List Value), setE cs o (v :: vs) = some cs' → o < cs.length ∧ setE (cs.set o v) (o + 1) vs = some cs' := by
      intro cs
      induction cs with
      | nil => intro o cs' h; simp [setE] at h
      | cons c cs ih =>
        intro o cs' h
        cases o with
        | zero =>
          simp only [setE] at h
          refine ⟨by simp, ?_⟩
          simp only [List.set_cons_zero]
          cases vs with
          | nil => simp [setE] at h ⊢; exact h
          | cons u us => simpa [setE] using h
        | succ o =>
          simp only [setE] at h
          cases e : setE cs o (v :: vs) with
          | none => rw [e] at h; cases h
          | some r' =>
            rw [e] at h; cases h
            obtain ⟨h2, h3⟩ := ih o r' e
            refine ⟨by simp; omega, ?_⟩
            simp only [List.set_cons_succ]
            cases vs with
            | nil => simp [setE] at h3 ⊢; exact h3
            | cons u us => simp [setE, h3]
    obtain ⟨h2, h3⟩ := key cs (p.off + i) cs' hc
    have hcell : w.cell? ⟨p.block, p.off + i, none⟩ = some cs[p.off + i] := by
      simp [World.cell?, hb, List.getElem?_eq_getElem h2]
    have hfz : w.frozen? ⟨p.block, p.off + i, none⟩ = false := by simp [World.frozen?, hb]
    have hst : (store (p.add i) v).run P w = .ok () (w.setCell ⟨p.block, p.off + i, none⟩ v) := by
      rw [ha, run_store P w _ v .plain h1.1, hcell]; simp [hfz]
    have hb' : (w.setCell ⟨p.block, p.off + i, none⟩ v).heap[p.block]? = some (.cells ⟨cs.set (p.off + i) v⟩ te (0, 0)) := by
      simp [World.setCell, Array.getElem?_modify, hb]
    obtain ⟨w', h4, h5, h6⟩ := run_stores P p hp te vs (i + 1) _ _ cs' h1.2 hb' (by rw [← Nat.add_assoc]; exact h3)
    refine ⟨w', ?_, h5, (Chg.setCell w v (by simp)).trans h6⟩
    rw [storeCells, Sem.run_bind, hst]
    simpa using h4

theorem R.store {b o : Nat} {cs cs' vs : List Value} {te : TypeId} (ht : X.tb.row t = some r) (hx : ev σ x = some (.pointer (some ⟨b, o, none⟩))) (hy : ev σ y = some v) (hv : cellsE v = some vs)
    (hl : vs.length = r.size) (h1 : vs.all Value.oneCell' = true) (hu : Upd L b (.cells ⟨cs⟩ te (0, 0)) (.cells ⟨cs'⟩ te (0, 0)) L') (hc : setE cs o vs = some cs') (h : R X all rest K σ L') :
    R X all (⟨none, .store t x y, ty, pos, af, none⟩ :: rest) K σ L :=
  R.skip rfl rfl fun a w ha hw => by
    obtain ⟨w', h2, h3, h4⟩ := run_stores X.P ⟨b, o, none⟩ rfl te vs 0 w cs cs' h1 (hw.get _ _ hu.mem) hc
    have hcs := cellsE_eq hv
    refine ⟨w', L', ?_, hw.upd hu h4 h3, h⟩
    simp [execOp, ha.ev hx, ha.ev hy, Instr.storeAt, Instr.sureAddr, storeVar, (X.tb.get ht).size, hcs, hl, h2]

theorem R.alloc {dd : Nat} {cs : List Value} (hn : Nat.blt dd X.n = true) (ht : X.tb.row t = some r) (hz : cellsE r.zero = some cs)
    (h : ∀ b, R X all rest K ((dd, .pointer (some ⟨b, 0, none⟩)) :: σ) ((b, .cells ⟨cs⟩ t (0, 0)) :: L)) : R X all (⟨some dd, .alloc t, ty, pos, af, none⟩ :: rest) K σ L :=
  R.value rfl rfl hn fun a w ha hw => by
    refine ⟨.pointer (some ⟨w.heap.size, 0, none⟩), w.alloc (.cells ⟨cs⟩ t (0, 0)), _, ?_, hw.alloc _, h _⟩
    have := cellsE_eq hz
    simp [execOp, Instr.alloc, (X.tb.get ht).zero, newVar, newRow, this]
theorem R.box {dd : Nat} {cs : List Value} (hn : Nat.blt dd X.n = true) (hx : ev σ x = some v) (hz : cellsE v = some cs)
    (h : ∀ b, R X all rest K ((dd, .pointer (some ⟨b, 0, none⟩)) :: σ) ((b, .cells ⟨cs⟩ t (0, 0)) :: L)) : R X all (⟨some dd, .box t x, ty, pos, af, none⟩ :: rest) K σ L :=
  R.value rfl rfl hn fun a w ha hw => by
    refine ⟨.pointer (some ⟨w.heap.size, 0, none⟩), w.alloc (.cells ⟨cs⟩ t (0, 0)), _, ?_, hw.alloc _, h _⟩
    have := cellsE_eq hz
    simp [execOp, Instr.box, ha.ev hx, newVar, newRow, this]

/-! ### fields, indexes -/
def fldE : List (Nat × Nat × Nat) → Nat → Option (Nat × Nat × Nat)
  | [], _ => none
  | f :: _, 0 => some f
  | _ :: r, i + 1 => fldE r i
theorem Flds.get {P : Program} : ∀ {fs : List Field} {s : List (Nat × Nat × Nat)} {i ft off sz : Nat}, Flds P fs s → fldE s i = some (ft, off, sz) →
    ∃ f, fs[i]? = some f ∧ f.type = ft ∧ f.offset = off ∧ (∀ w, (Go.sizeOf ft).run P w = .ok sz w) ∧ (f.name == "_") = false
  | [], [], i, _, _, _, _, h => by cases h
  | [], _ :: _, _, _, _, _, h, _ => h.elim
  | _ :: _, [], _, _, _, _, h, _ => h.elim
  | f :: fs, (t', o', z') :: s, 0, ft, off, sz, h, e => by cases e; exact ⟨f, rfl, h.1, h.2.1, h.2.2.1, h.2.2.2.1⟩
  | f :: fs, (t', o', z') :: s, i + 1, ft, off, sz, h, e => Flds.get (fs := fs) (i := i) h.2.2.2.2 e

theorem Addr.add_none (b o k : Nat) : Addr.add ⟨b, o, none⟩ k = ⟨b, o + k, none⟩ := by
  simp only [Addr.add]; split
  · rename_i e; subst e; rfl
  · rfl

theorem Ok1.fieldAddr {f b o ft off sz : Nat} {fs : List (Nat × Nat × Nat)} (ht : X.tb.row t = some r) (hk : r.k = .strct fs) (hx : ev σ x = some (.pointer (some ⟨b, o, none⟩))) (hf : fldE fs f = some (ft, off, sz)) (hz : Nat.beq sz 0 = false) :
    Ok1 X ⟨d, .fieldAddr t x f, ty, pos, af, g⟩ σ L (.pointer (some ⟨b, o + off, none⟩)) := .mk fun a w ha hw => by
  have h1 := (X.tb.get ht).is
  rw [hk] at h1
  obtain ⟨fields, h2, h3⟩ := h1
  obtain ⟨fl, h4, h5, h6, h7, _⟩ := h3.get hf
  have h4' : fields[f]? = some fl := by simpa using h4
  have hz' : sz ≠ 0 := fun e => by subst e; cases hz
  simp [execOp, ha.ev hx, Instr.fieldAt, run_underlying h2, h4', Instr.sureAddr, fieldPlace, h5, h6, h7, hz', Addr.add_none]

theorem Ok1.field1 {f ft off sz : Nat} {fs : List (Nat × Nat × Nat)} {cs : List Value} {r' : TRow} (ht : X.tb.row t = some r) (hk : r.k = .strct fs) (hx : ev σ x = some (.agg ⟨cs⟩)) (hf : fldE fs f = some (ft, off, sz)) (hft : X.tb.row ft = some r') (hk' : r'.k.agg = some false) (hc : cs[off]? = some v) :
    Ok1 X ⟨d, .field t x f, ty, pos, af, g⟩ σ L v := .mk fun a w ha hw => by
  have h1 := (X.tb.get ht).is
  rw [hk] at h1
  obtain ⟨fields, h2, h3⟩ := h1
  obtain ⟨fl, h4, h5, h6, h7, _⟩ := h3.get hf
  have h4' : fields[f]? = some fl := by simpa using h4
  simp [execOp, ha.ev hx, Instr.field, run_underlying h2, h4', asAgg, h5, h6, part, (X.tb.get hft).agg hk']
  rw [hc]; rfl
theorem extract_of_subE {cs vs : List Value} {o k : Nat} (h : subE cs o k = some vs) : (Array.mk cs).extract o (o + k) = ⟨vs⟩ := by
  obtain ⟨h1, h2⟩ := subE_spec h
  apply Array.ext_getElem?
  intro i
  rw [Array.getElem?_extract]
  by_cases hi : i < k
  · have h3 := h2 i hi
    have hlt : o + i < cs.length := by
      rcases Nat.lt_or_ge (o + i) cs.length with h | h
      · exact h
      · rw [List.getElem?_eq_none h, List.getElem?_eq_getElem (by omega)] at h3; cases h3
    rw [if_pos (by simp; omega)]
    simpa using h3
  · rw [if_neg (by simp; omega)]
    simp; omega
theorem subE_take {cs vs : List Value} {o k : Nat} (h : subE cs o k = some vs) : (cs.drop o).take k = vs := by
  have := congrArg Array.toList (extract_of_subE h)
  simpa using this
theorem Ok1.fieldk {f ft off sz : Nat} {fs : List (Nat × Nat × Nat)} {cs vs : List Value} {r' : TRow} (ht : X.tb.row t = some r) (hk : r.k = .strct fs) (hx : ev σ x = some (.agg ⟨cs⟩)) (hf : fldE fs f = some (ft, off, sz)) (hft : X.tb.row ft = some r') (hk' : r'.k.agg = some true) (hc : subE cs off sz = some vs) :
    Ok1 X ⟨d, .field t x f, ty, pos, af, g⟩ σ L (.agg ⟨vs⟩) := .mk fun a w ha hw => by
  have h1 := (X.tb.get ht).is
  rw [hk] at h1
  obtain ⟨fields, h2, h3⟩ := h1
  obtain ⟨fl, h4, h5, h6, h7, _⟩ := h3.get hf
  have h4' : fields[f]? = some fl := by simpa using h4
  simp [execOp, ha.ev hx, Instr.field, run_underlying h2, h4', asAgg, h5, h6, part, (X.tb.get hft).agg hk', h7, subE_take hc]

theorem Ok1.indexAddr {b o n cap e : Nat} {k : IntKind} {i : Int} {re : TRow} (ht : X.tb.row t = some r) (hk : r.k = .slice e) (he : X.tb.row e = some re) (hx : ev σ x = some (.slice (some ⟨b, o, none⟩) n cap)) (hy : ev σ y = some (.int k i)) (h0 : 0 ≤ i) (h1 : i < n) :
    Ok1 X ⟨d, .indexAddr t x y, ty, pos, af, g⟩ σ L (.pointer (some ⟨b, o + i.toNat * re.size, none⟩)) := .mk fun a w ha hw => by
  have h2 := (X.tb.get ht).is
  rw [hk] at h2
  simp only [TK.is] at h2
  simp [execOp, ha.ev hx, ha.ev hy, Instr.indexAt, asIntOf, run_underlying h2, h0, h1, (X.tb.get he).size, Addr.add_none]
theorem Ok1.indexAddrA {b o n e : Nat} {k : IntKind} {i : Int} {re : TRow} (ht : X.tb.row t = some r) (hk : r.k = .arr n e) (he : X.tb.row e = some re) (hx : ev σ x = some (.pointer (some ⟨b, o, none⟩))) (hy : ev σ y = some (.int k i)) (h0 : 0 ≤ i) (h1 : i < n) :
    Ok1 X ⟨d, .indexAddr t x y, ty, pos, af, g⟩ σ L (.pointer (some ⟨b, o + i.toNat * re.size, none⟩)) := .mk fun a w ha hw => by
  have h2 := (X.tb.get ht).is
  rw [hk] at h2
  simp only [TK.is] at h2
  simp [execOp, ha.ev hx, ha.ev hy, Instr.indexAt, Instr.sureAddr, asIntOf, run_underlying h2, h0, h1, (X.tb.get he).size, Addr.add_none]
theorem Ok1.index1 {n e : Nat} {k : IntKind} {i : Int} {re : TRow} {cs : List Value} (ht : X.tb.row t = some r) (hk : r.k = .arr n e) (he : X.tb.row e = some re) (hk' : re.k.agg = some false) (hx : ev σ x = some (.agg ⟨cs⟩)) (hy : ev σ y = some (.int k i)) (h0 : 0 ≤ i) (h1 : i < n) (hc : cs[i.toNat * re.size]? = some v) :
    Ok1 X ⟨d, .index t x y, ty, pos, af, g⟩ σ L v := .mk fun a w ha hw => by
  have h2 := (X.tb.get ht).is
  rw [hk] at h2
  simp only [TK.is] at h2
  simp [execOp, ha.ev hx, ha.ev hy, Instr.index, asIntOf, run_underlying h2, h0, h1, (X.tb.get he).size, part, (X.tb.get he).agg hk']
  rw [hc]; rfl
theorem Ok1.indexk {n e : Nat} {k : IntKind} {i : Int} {re : TRow} {cs vs : List Value} (ht : X.tb.row t = some r) (hk : r.k = .arr n e) (he : X.tb.row e = some re) (hk' : re.k.agg = some true) (hx : ev σ x = some (.agg ⟨cs⟩)) (hy : ev σ y = some (.int k i)) (h0 : 0 ≤ i) (h1 : i < n) (hc : subE cs (i.toNat * re.size) re.size = some vs) :
    Ok1 X ⟨d, .index t x y, ty, pos, af, g⟩ σ L (.agg ⟨vs⟩) := .mk fun a w ha hw => by
  have h2 := (X.tb.get ht).is
  rw [hk] at h2
  simp only [TK.is] at h2
  simp [execOp, ha.ev hx, ha.ev hy, Instr.index, asIntOf, run_underlying h2, h0, h1, (X.tb.get he).size, part, (X.tb.get he).agg hk', subE_take hc]
theorem Ok1.extract {i : Nat} {vs : List Value} (hx : ev σ x = some (.tuple ⟨vs⟩)) (hc : vs[i]? = some v) : Ok1 X ⟨d, .extract x i, ty, pos, af, g⟩ σ L v := .mk fun a w ha hw => by
  have hc' : (Array.mk vs)[i]? = some v := by simpa using hc
  simp [execOp, ha.ev hx, Instr.extract, hc']
theorem Ok1.nilCheck {p : Addr} (hx : ev σ x = some (.pointer (some p))) : Ok1 X ⟨d, .nilCheck x, ty, pos, af, g⟩ σ L (.pointer (some p)) := .mk fun a w ha hw => by simp [execOp, ha.ev hx]
theorem Ok1.nilCheckF {f : FuncId} {fa fb : Array Value} (hx : ev σ x = some (.func (.func f) fa fb)) : Ok1 X ⟨d, .nilCheck x, ty, pos, af, g⟩ σ L (.func (.func f) fa fb) := .mk fun a w ha hw => by simp [execOp, ha.ev hx]
theorem Ok1.makeFunc {fn : Fn} {f1 f2 : List Operand} {v1 v2 : List Value} (h1 : evs σ f1 = some v1) (h2 : evs σ f2 = some v2) : Ok1 X ⟨d, .makeFunc fn f1.toArray f2.toArray, ty, pos, af, g⟩ σ L (.func fn v1.toArray v2.toArray) := .mk fun a w ha hw => by
  have key : ∀ (xs : List Operand) (vs : List Value), evs σ xs = some vs → xs.map a.eval = vs := by
    intro xs
    induction xs with
    | nil => intro vs h; simp [evs] at h; simp [← h]
    | cons x xs ih =>
      intro vs h
      simp only [evs] at h
      cases h1 : ev σ x with
      | none => simp [h1] at h
      | some u =>
        cases h2 : evs σ xs with
        | none => simp [h1, h2] at h
        | some us => simp [h1, h2] at h; subst h; simp [ha.ev h1, ih us h2]
  simp [execOp, Instr.makeFunc, key _ _ h1, key _ _ h2]

/-! ### len -/
theorem Ok1.lenS {e : Nat} {p : Option Addr} {n cap : Nat} (ht : X.tb.row t = some r) (hk : r.k = .slice e) (hx : ev σ x = some (.slice p n cap)) : Ok1 X ⟨d, .call { callee := .builtin .len, args := #[x], argTypes := #[t] }, ty, pos, af, g⟩ σ L (.int .i64 n) := .mk fun a w ha hw => by
  have h2 := (X.tb.get ht).is
  rw [hk] at h2
  simp only [TK.is] at h2
  simp [execOp, resolve, ha.ev hx, invoke, builtin, Builtin.len_, run_underlying h2, goInt]
theorem Ok1.lenStr {s : ByteArray} (ht : X.tb.row t = some r) (hk : r.k = .string) (hx : ev σ x = some (.string s)) : Ok1 X ⟨d, .call { callee := .builtin .len, args := #[x], argTypes := #[t] }, ty, pos, af, g⟩ σ L (.int .i64 s.size) := .mk fun a w ha hw => by
  have h2 := (X.tb.get ht).is
  rw [hk] at h2
  simp only [TK.is] at h2
  simp [execOp, resolve, ha.ev hx, invoke, builtin, Builtin.len_, run_underlying h2, goInt]

/-! ### numbers -/
variable {ty2 : TypeId} {k : IntKind} {i j : Int}
theorem Ok1.add (hx : ev σ x = some (.int k i)) (hy : ev σ y = some (.int k j)) : Ok1 X ⟨d, .binOp .add t x y ty2, ty, pos, af, g⟩ σ L (.int k (k.wrap (i + j))) := .mk fun a w ha hw => by
  simp [execOp, ha.ev hx, ha.ev hy, eqGuard, binOp, Op.intArith]
theorem Ok1.sub (hx : ev σ x = some (.int k i)) (hy : ev σ y = some (.int k j)) : Ok1 X ⟨d, .binOp .sub t x y ty2, ty, pos, af, g⟩ σ L (.int k (k.wrap (i - j))) := .mk fun a w ha hw => by
  simp [execOp, ha.ev hx, ha.ev hy, eqGuard, binOp, Op.intArith]
theorem Ok1.mul (hx : ev σ x = some (.int k i)) (hy : ev σ y = some (.int k j)) : Ok1 X ⟨d, .binOp .mul t x y ty2, ty, pos, af, g⟩ σ L (.int k (k.wrap (i * j))) := .mk fun a w ha hw => by
  simp [execOp, ha.ev hx, ha.ev hy, eqGuard, binOp, Op.intArith]
theorem Ok1.quo (hx : ev σ x = some (.int k i)) (hy : ev σ y = some (.int k j)) (h : j ≠ 0) : Ok1 X ⟨d, .binOp .quo t x y ty2, ty, pos, af, g⟩ σ L (.int k (k.wrap (i.tdiv j))) := .mk fun a w ha hw => by
  simp [execOp, ha.ev hx, ha.ev hy, eqGuard, binOp, Op.intDiv, h]
theorem Ok1.rem (hx : ev σ x = some (.int k i)) (hy : ev σ y = some (.int k j)) (h : j ≠ 0) : Ok1 X ⟨d, .binOp .rem t x y ty2, ty, pos, af, g⟩ σ L (.int k (i.tmod j)) := .mk fun a w ha hw => by
  simp [execOp, ha.ev hx, ha.ev hy, eqGuard, binOp, Op.intDiv, h]
theorem wrap_in {i : Int} (h1 : -9223372036854775808 ≤ i) (h2 : i ≤ 9223372036854775807) : IntKind.i64.wrap i = i := IntWalk.i64_in i (by omega)
theorem Ok1.add64 (hx : ev σ x = some (.int .i64 i)) (hy : ev σ y = some (.int .i64 j)) (h1 : -9223372036854775808 ≤ i + j) (h2 : i + j ≤ 9223372036854775807) : Ok1 X ⟨d, .binOp .add t x y ty2, ty, pos, af, g⟩ σ L (.int .i64 (i + j)) := by
  have := Ok1.add (X := X) (σ := σ) (L := L) (d := d) (ty := ty) (pos := pos) (af := af) (g := g) (t := t) (ty2 := ty2) hx hy
  rwa [wrap_in h1 h2] at this
theorem Ok1.sub64 (hx : ev σ x = some (.int .i64 i)) (hy : ev σ y = some (.int .i64 j)) (h1 : -9223372036854775808 ≤ i - j) (h2 : i - j ≤ 9223372036854775807) : Ok1 X ⟨d, .binOp .sub t x y ty2, ty, pos, af, g⟩ σ L (.int .i64 (i - j)) := by
  have := Ok1.sub (X := X) (σ := σ) (L := L) (d := d) (ty := ty) (pos := pos) (af := af) (g := g) (t := t) (ty2 := ty2) hx hy
  rwa [wrap_in h1 h2] at this
theorem Ok1.mul64 (hx : ev σ x = some (.int .i64 i)) (hy : ev σ y = some (.int .i64 j)) (h1 : -9223372036854775808 ≤ i * j) (h2 : i * j ≤ 9223372036854775807) : Ok1 X ⟨d, .binOp .mul t x y ty2, ty, pos, af, g⟩ σ L (.int .i64 (i * j)) := by
  have := Ok1.mul (X := X) (σ := σ) (L := L) (d := d) (ty := ty) (pos := pos) (af := af) (g := g) (t := t) (ty2 := ty2) hx hy
  rwa [wrap_in h1 h2] at this
theorem Ok1.conv {k' : IntKind} {src dst : TypeId} {rs rd : TRow} (hd : X.tb.row dst = some rd) (hk : rd.k = .int k') (hs : X.tb.row src = some rs) (hk2 : rs.k = .int k) (hx : ev σ x = some (.int k i)) : Ok1 X ⟨d, .convert src dst x, ty, pos, af, g⟩ σ L (.int k' (k'.wrap i)) := .mk fun a w ha hw => by
  have h2 := (X.tb.get hd).is
  have h3 := (X.tb.get hs).is
  rw [hk] at h2
  rw [hk2] at h3
  simp only [TK.is] at h2 h3
  simp [execOp, ha.ev hx, convert, run_underlying h2, run_underlying h3, Conv.intToInt]
theorem Ok1.not {b : Bool} (hx : ev σ x = some (.bool b)) : Ok1 X ⟨d, .unOp .not t x, ty, pos, af, g⟩ σ L (.bool (!b)) := .mk fun a w ha hw => by
  simp [execOp, ha.ev hx, Op.unary]
theorem Ok1.not_t (hx : ev σ x = some (.bool true)) : Ok1 X ⟨d, .unOp .not t x, ty, pos, af, g⟩ σ L (.bool false) := Ok1.not hx
theorem Ok1.not_f (hx : ev σ x = some (.bool false)) : Ok1 X ⟨d, .unOp .not t x, ty, pos, af, g⟩ σ L (.bool true) := Ok1.not hx
theorem Ok1.neg (hx : ev σ x = some (.int k i)) : Ok1 X ⟨d, .unOp .neg t x, ty, pos, af, g⟩ σ L (.int k (k.wrap (0 - i))) := .mk fun a w ha hw => by
  simp [execOp, ha.ev hx, Op.unary, Op.intArith]

/-! ### tests of numbers: decided, or two ways -/
theorem Ok1.lss_t (hx : ev σ x = some (.int k i)) (hy : ev σ y = some (.int k j)) (h : i < j) : Ok1 X ⟨d, .binOp .lss t x y ty2, ty, pos, af, g⟩ σ L (.bool true) := .mk fun a w ha hw => by
  simp [execOp, ha.ev hx, ha.ev hy, eqGuard, binOp, Op.intCmp, h]
theorem Ok1.lss_f (hx : ev σ x = some (.int k i)) (hy : ev σ y = some (.int k j)) (h : j ≤ i) : Ok1 X ⟨d, .binOp .lss t x y ty2, ty, pos, af, g⟩ σ L (.bool false) := .mk fun a w ha hw => by
  simp [execOp, ha.ev hx, ha.ev hy, eqGuard, binOp, Op.intCmp, h]
theorem Ok1.leq_t (hx : ev σ x = some (.int k i)) (hy : ev σ y = some (.int k j)) (h : i ≤ j) : Ok1 X ⟨d, .binOp .leq t x y ty2, ty, pos, af, g⟩ σ L (.bool true) := .mk fun a w ha hw => by
  simp [execOp, ha.ev hx, ha.ev hy, eqGuard, binOp, Op.intCmp, h]
theorem Ok1.leq_f (hx : ev σ x = some (.int k i)) (hy : ev σ y = some (.int k j)) (h : j < i) : Ok1 X ⟨d, .binOp .leq t x y ty2, ty, pos, af, g⟩ σ L (.bool false) := .mk fun a w ha hw => by
  simp [execOp, ha.ev hx, ha.ev hy, eqGuard, binOp, Op.intCmp, h]
theorem Ok1.gtr_t (hx : ev σ x = some (.int k i)) (hy : ev σ y = some (.int k j)) (h : j < i) : Ok1 X ⟨d, .binOp .gtr t x y ty2, ty, pos, af, g⟩ σ L (.bool true) := .mk fun a w ha hw => by
  simp [execOp, ha.ev hx, ha.ev hy, eqGuard, binOp, Op.intCmp, h]
theorem Ok1.gtr_f (hx : ev σ x = some (.int k i)) (hy : ev σ y = some (.int k j)) (h : i ≤ j) : Ok1 X ⟨d, .binOp .gtr t x y ty2, ty, pos, af, g⟩ σ L (.bool false) := .mk fun a w ha hw => by
  simp [execOp, ha.ev hx, ha.ev hy, eqGuard, binOp, Op.intCmp, h]
theorem Ok1.geq_t (hx : ev σ x = some (.int k i)) (hy : ev σ y = some (.int k j)) (h : j ≤ i) : Ok1 X ⟨d, .binOp .geq t x y ty2, ty, pos, af, g⟩ σ L (.bool true) := .mk fun a w ha hw => by
  simp [execOp, ha.ev hx, ha.ev hy, eqGuard, binOp, Op.intCmp, h]
theorem Ok1.geq_f (hx : ev σ x = some (.int k i)) (hy : ev σ y = some (.int k j)) (h : i < j) : Ok1 X ⟨d, .binOp .geq t x y ty2, ty, pos, af, g⟩ σ L (.bool false) := .mk fun a w ha hw => by
  simp [execOp, ha.ev hx, ha.ev hy, eqGuard, binOp, Op.intCmp, h]
theorem Ok1.eql_t (hx : ev σ x = some (.int k i)) (hy : ev σ y = some (.int k j)) (h : i = j) : Ok1 X ⟨d, .binOp .eql t x y ty2, ty, pos, af, g⟩ σ L (.bool true) := .mk fun a w ha hw => by
  simp [execOp, ha.ev hx, ha.ev hy, eqGuard, binOp, Op.intCmp, h]
theorem Ok1.eql_f (hx : ev σ x = some (.int k i)) (hy : ev σ y = some (.int k j)) (h : i ≠ j) : Ok1 X ⟨d, .binOp .eql t x y ty2, ty, pos, af, g⟩ σ L (.bool false) := .mk fun a w ha hw => by
  simp [execOp, ha.ev hx, ha.ev hy, eqGuard, binOp, Op.intCmp, h]
theorem Ok1.neq_t (hx : ev σ x = some (.int k i)) (hy : ev σ y = some (.int k j)) (h : i ≠ j) : Ok1 X ⟨d, .binOp .neq t x y ty2, ty, pos, af, g⟩ σ L (.bool true) := .mk fun a w ha hw => by
  simp [execOp, ha.ev hx, ha.ev hy, eqGuard, binOp, Op.intCmp, h]
theorem Ok1.neq_f (hx : ev σ x = some (.int k i)) (hy : ev σ y = some (.int k j)) (h : i = j) : Ok1 X ⟨d, .binOp .neq t x y ty2, ty, pos, af, g⟩ σ L (.bool false) := .mk fun a w ha hw => by
  simp [execOp, ha.ev hx, ha.ev hy, eqGuard, binOp, Op.intCmp, h]

theorem Ok1.lss (hx : ev σ x = some (.int k i)) (hy : ev σ y = some (.int k j)) : Ok1 X ⟨d, .binOp .lss t x y ty2, ty, pos, af, g⟩ σ L (.bool (decide (i < j))) := .mk fun a w ha hw => by
  simp [execOp, ha.ev hx, ha.ev hy, eqGuard, binOp, Op.intCmp]
theorem Ok1.leq (hx : ev σ x = some (.int k i)) (hy : ev σ y = some (.int k j)) : Ok1 X ⟨d, .binOp .leq t x y ty2, ty, pos, af, g⟩ σ L (.bool (decide (i ≤ j))) := .mk fun a w ha hw => by
  simp [execOp, ha.ev hx, ha.ev hy, eqGuard, binOp, Op.intCmp]
theorem Ok1.gtr (hx : ev σ x = some (.int k i)) (hy : ev σ y = some (.int k j)) : Ok1 X ⟨d, .binOp .gtr t x y ty2, ty, pos, af, g⟩ σ L (.bool (decide (j < i))) := .mk fun a w ha hw => by
  simp [execOp, ha.ev hx, ha.ev hy, eqGuard, binOp, Op.intCmp]
theorem Ok1.geq (hx : ev σ x = some (.int k i)) (hy : ev σ y = some (.int k j)) : Ok1 X ⟨d, .binOp .geq t x y ty2, ty, pos, af, g⟩ σ L (.bool (decide (j ≤ i))) := .mk fun a w ha hw => by
  simp [execOp, ha.ev hx, ha.ev hy, eqGuard, binOp, Op.intCmp]
theorem Ok1.eql (hx : ev σ x = some (.int k i)) (hy : ev σ y = some (.int k j)) : Ok1 X ⟨d, .binOp .eql t x y ty2, ty, pos, af, g⟩ σ L (.bool (decide (i = j))) := .mk fun a w ha hw => by
  have : (i == j) = decide (i = j) := by by_cases h : i = j <;> simp [h]
  simp [execOp, ha.ev hx, ha.ev hy, eqGuard, binOp, Op.intCmp, this]
theorem Ok1.neq (hx : ev σ x = some (.int k i)) (hy : ev σ y = some (.int k j)) : Ok1 X ⟨d, .binOp .neq t x y ty2, ty, pos, af, g⟩ σ L (.bool (decide (i ≠ j))) := .mk fun a w ha hw => by
  have : (i != j) = decide (i ≠ j) := by by_cases h : i = j <;> simp [h]
  simp [execOp, ha.ev hx, ha.ev hy, eqGuard, binOp, Op.intCmp, this]
variable {dd : Nat}
theorem R.lss (hn : Nat.blt dd X.n = true) (hx : ev σ x = some (.int k i)) (hy : ev σ y = some (.int k j)) (h1 : i < j → R X all rest K ((dd, .bool true) :: σ) L) (h2 : j ≤ i → R X all rest K ((dd, .bool false) :: σ) L) : R X all (⟨some dd, .binOp .lss t x y ty2, ty, pos, af, none⟩ :: rest) K σ L := by
  by_cases h : i < j
  · exact R.pure hn (Ok1.lss_t hx hy h) (h1 h)
  · exact R.pure hn (Ok1.lss_f hx hy (by omega)) (h2 (by omega))
theorem R.leq (hn : Nat.blt dd X.n = true) (hx : ev σ x = some (.int k i)) (hy : ev σ y = some (.int k j)) (h1 : i ≤ j → R X all rest K ((dd, .bool true) :: σ) L) (h2 : j < i → R X all rest K ((dd, .bool false) :: σ) L) : R X all (⟨some dd, .binOp .leq t x y ty2, ty, pos, af, none⟩ :: rest) K σ L := by
  by_cases h : i ≤ j
  · exact R.pure hn (Ok1.leq_t hx hy h) (h1 h)
  · exact R.pure hn (Ok1.leq_f hx hy (by omega)) (h2 (by omega))
theorem R.gtr (hn : Nat.blt dd X.n = true) (hx : ev σ x = some (.int k i)) (hy : ev σ y = some (.int k j)) (h1 : j < i → R X all rest K ((dd, .bool true) :: σ) L) (h2 : i ≤ j → R X all rest K ((dd, .bool false) :: σ) L) : R X all (⟨some dd, .binOp .gtr t x y ty2, ty, pos, af, none⟩ :: rest) K σ L := by
  by_cases h : j < i
  · exact R.pure hn (Ok1.gtr_t hx hy h) (h1 h)
  · exact R.pure hn (Ok1.gtr_f hx hy (by omega)) (h2 (by omega))
theorem R.geq (hn : Nat.blt dd X.n = true) (hx : ev σ x = some (.int k i)) (hy : ev σ y = some (.int k j)) (h1 : j ≤ i → R X all rest K ((dd, .bool true) :: σ) L) (h2 : i < j → R X all rest K ((dd, .bool false) :: σ) L) : R X all (⟨some dd, .binOp .geq t x y ty2, ty, pos, af, none⟩ :: rest) K σ L := by
  by_cases h : j ≤ i
  · exact R.pure hn (Ok1.geq_t hx hy h) (h1 h)
  · exact R.pure hn (Ok1.geq_f hx hy (by omega)) (h2 (by omega))
theorem R.eql (hn : Nat.blt dd X.n = true) (hx : ev σ x = some (.int k i)) (hy : ev σ y = some (.int k j)) (h1 : i = j → R X all rest K ((dd, .bool true) :: σ) L) (h2 : i ≠ j → R X all rest K ((dd, .bool false) :: σ) L) : R X all (⟨some dd, .binOp .eql t x y ty2, ty, pos, af, none⟩ :: rest) K σ L := by
  by_cases h : i = j
  · exact R.pure hn (Ok1.eql_t hx hy h) (h1 h)
  · exact R.pure hn (Ok1.eql_f hx hy h) (h2 h)
theorem R.neq (hn : Nat.blt dd X.n = true) (hx : ev σ x = some (.int k i)) (hy : ev σ y = some (.int k j)) (h1 : i ≠ j → R X all rest K ((dd, .bool true) :: σ) L) (h2 : i = j → R X all rest K ((dd, .bool false) :: σ) L) : R X all (⟨some dd, .binOp .neq t x y ty2, ty, pos, af, none⟩ :: rest) K σ L := by
  by_cases h : i = j
  · exact R.pure hn (Ok1.neq_f hx hy h) (h2 h)
  · exact R.pure hn (Ok1.neq_t hx hy h) (h1 h)
end

/-! ### the function's end, and its entry -/
inductive ResIs (X : Cx) (σ : Env) (L : Lst) : List ResultVar → List Value → Prop where
  | nil : ResIs X σ L [] []
  | tmp {t : Nat} {v : Value} {rs : List ResultVar} {vs : List Value} : look σ t = some v → ResIs X σ L rs vs → ResIs X σ L (.tmp t :: rs) (v :: vs)
  | cell {a t : Nat} {p : Addr} {v : Value} {rs : List ResultVar} {vs : List Value} : look σ a = some (.pointer (some p)) → Ld X L t p v → ResIs X σ L rs vs → ResIs X σ L (.cell a t :: rs) (v :: vs)
def tup : List Value → Value
  | [v] => v
  | vs => .tuple vs.toArray
structure RetOk (X : Cx) (rs : List ResultVar) (Rp : Value → Lst → Prop) (σ : Env) (L : Lst) : Prop where
  ex : ∃ vs, ResIs X σ L rs vs ∧ Rp (tup vs) L
def retQ (X : Cx) (rs : List ResultVar) (Rp : Value → Lst → Prop) : Post := fun e σ L => match e with
  | .normal => RetOk X rs Rp σ L
  | .ret => RetOk X rs Rp σ L
  | _ => False
section
variable {X : Cx} {Rp : Value → Lst → Prop} {σ : Env} {L : Lst} {a b c' ta tb tc : Nat} {u v z : Value} {p q : Addr}
theorem RetOk.n (h : Rp (.tuple #[]) L) : RetOk X [] Rp σ L := ⟨[], .nil, h⟩
theorem RetOk.t (h1 : look σ a = some u) (h : Rp u L) : RetOk X [.tmp a] Rp σ L := ⟨[u], .tmp h1 .nil, h⟩
theorem RetOk.c (h1 : look σ a = some (.pointer (some p))) (h2 : Ld X L ta p u) (h : Rp u L) : RetOk X [.cell a ta] Rp σ L := ⟨[u], .cell h1 h2 .nil, h⟩
theorem RetOk.tt (h1 : look σ a = some u) (h2 : look σ b = some v) (h : Rp (.tuple ⟨[u, v]⟩) L) : RetOk X [.tmp a, .tmp b] Rp σ L := ⟨[u, v], .tmp h1 (.tmp h2 .nil), h⟩
theorem RetOk.ct (h1 : look σ a = some (.pointer (some p))) (h2 : Ld X L ta p u) (h3 : look σ b = some v) (h : Rp (.tuple ⟨[u, v]⟩) L) : RetOk X [.cell a ta, .tmp b] Rp σ L := ⟨[u, v], .cell h1 h2 (.tmp h3 .nil), h⟩
theorem RetOk.cc (h1 : look σ a = some (.pointer (some p))) (h2 : Ld X L ta p u) (h3 : look σ b = some (.pointer (some q))) (h4 : Ld X L tb q v) (h : Rp (.tuple ⟨[u, v]⟩) L) : RetOk X [.cell a ta, .cell b tb] Rp σ L := ⟨[u, v], .cell h1 h2 (.cell h3 h4 .nil), h⟩
theorem RetOk.ttt (h1 : look σ a = some u) (h2 : look σ b = some v) (h3 : look σ c' = some z) (h : Rp (.tuple ⟨[u, v, z]⟩) L) : RetOk X [.tmp a, .tmp b, .tmp c'] Rp σ L := ⟨[u, v, z], .tmp h1 (.tmp h2 (.tmp h3 .nil)), h⟩
end
def number : Nat → List Value → Env
  | _, [] => []
  | k, v :: r => (k, v) :: number (k + 1) r
theorem number_look : ∀ {vs : List Value} {k t : Nat} {v : Value}, look (number k vs) t = some v → k ≤ t ∧ vs[t - k]? = some v
  | [], _, _, _, h => by cases h
  | u :: r, k, t, v, h => by
    simp only [number, look] at h
    cases hb : Nat.beq k t with
    | true => rw [hb] at h; cases h; have := Nat.eq_of_beq_eq_true hb; subst this; simp
    | false =>
      rw [hb] at h
      obtain ⟨h1, h2⟩ := number_look h
      refine ⟨by omega, ?_⟩
      obtain ⟨m, rfl⟩ : ∃ m, t = k + 1 + m := ⟨t - (k + 1), by omega⟩
      rw [show k + 1 + m - k = m + 1 by omega]
      rw [show k + 1 + m - (k + 1) = m by omega] at h2
      simpa using h2

theorem ResIs.run {X : Cx} {σ : Env} {L : Lst} {a : Act} {w : World} (ha : Mod X.n a σ) (hw : Hp X.w0 X.S L w) : ∀ {rs : List ResultVar} {vs : List Value}, ResIs X σ L rs vs →
    (rs.mapM (m := Sem) fun | .tmp t => Pure.pure (a.tmps.getD t undef) | .cell b t => do loadVar t (← asAddr (a.tmps.getD b undef))).run X.P w = .ok vs w
  | _, _, .nil => by simp
  | _, _, .tmp h1 h2 => by
    have := ResIs.run ha hw h2
    simp only [List.mapM_cons, Sem.run_bind, Sem.run_pure, Result.andThen_ok, this]
    rw [ha.ok _ _ h1]
  | _, _, .cell (a := b) (t := t) (v := v) h1 h2 h3 => by
    have := ResIs.run ha hw h3
    rw [List.mapM_cons, Sem.run_bind]
    have h4 : (do let x ← asAddr (a.tmps.getD b undef); loadVar t x : Sem Value).run X.P w = .ok v w := by
      rw [ha.ok _ _ h1, Sem.run_bind]
      exact h2.run w hw
    simp only [h4, Result.andThen_ok, Sem.run_bind, this, Sem.run_pure]

theorem enter {P : Program} {tb : Tb P} {f : FuncId} {fn : Func} {c : Code} {vs : List Value} {w : World} {S : List Nat} {L : Lst} {Rp : Value → Lst → Prop} {n : Nat}
    (hf : P.funcs[f]? = some fn) (hb : fn.body = some c) (hn : fn.ntmps = n) (hvn : vs.length ≤ n) (hw : Hp w S L w)
    (h : T ⟨P, tb, n, w, S⟩ c (retQ ⟨P, tb, n, w, S⟩ fn.results.toList Rp) (number 0 vs) L) :
    Calls P f vs.toArray w fun e w' => ∃ v L', e = .returned v ∧ Rp v L' ∧ Hp w S L' w' := by
  refine calls_of_wp hf hb ?_
  have ha : Mod n { tmps := vs.toArray ++ Array.replicate (fn.ntmps - vs.toArray.size) undef, defers := [] } (number 0 vs) := by
    refine ⟨by simp [hn]; omega, rfl, fun t v hv => ?_⟩
    obtain ⟨_, h2⟩ := number_look hv
    rw [Nat.sub_zero] at h2
    obtain ⟨hl, he⟩ := List.getElem?_eq_some_iff.1 h2
    have h3 : (vs.toArray ++ Array.replicate (fn.ntmps - vs.toArray.size) undef)[t]? = some v := by
      rw [Array.getElem?_append, if_pos (by simpa using hl)]; simpa using h2
    simp only [Array.getD]
    obtain ⟨h4, h5⟩ := Array.getElem?_eq_some_iff.1 h3
    rw [dif_pos h4]; exact h5
  refine wp_mono (h.run _ w ha hw) fun e a w' ⟨σ, L', h1, h2, h3⟩ => ?_
  have key : RetOk ⟨P, tb, n, w, S⟩ fn.results.toList Rp σ L' → a.defers = [] ∧ ∃ v, (results fn a.tmps).run P w' = .ok v w' ∧ ∃ v' L', Ending.returned v = .returned v' ∧ Rp v' L' ∧ Hp w S L' w' := by
    rintro ⟨⟨vs, h4, h5⟩⟩
    refine ⟨h1.defers, tup vs, ?_, tup vs, L', rfl, h5, h2⟩
    have := ResIs.run h1 h2 h4
    have h6 : (fn.results.mapM (m := Sem) fun | .tmp t => Pure.pure (a.tmps.getD t undef) | .cell b t => do loadVar t (← asAddr (a.tmps.getD b undef))).run P w' = .ok vs.toArray w' := by
      rw [← Array.toArray_toList (xs := fn.results), List.mapM_toArray]
      simp only [Sem.run_map]
      erw [this]
      rfl
    simp only [results, Sem.run_bind]
    erw [h6]
    simp only [Result.andThen_ok, Sem.run_pure]
    congr 1
    cases vs with
    | nil => rfl
    | cons v vs => cases vs <;> rfl
  cases e <;> first | exact h3.elim | exact key h3
end Go.Proofs.Ytdfdfohfnjefiaa
