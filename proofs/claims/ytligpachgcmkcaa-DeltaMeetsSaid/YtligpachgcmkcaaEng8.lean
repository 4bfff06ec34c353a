/- Rules for single operations: moves, loads and stores, new variables, fields, indexes, numbers, tests. -/
import Derived.Test.YtligpachgcmkcaaEng2
import Derived.OrdersHeld
import Derived.Laws.StructEq
set_option linter.unusedSimpArgs false
set_option linter.unusedVariables false
namespace Go.Proofs.Ytligpachgcmkcaa
open Go.RowKit Go.Shelf

section
variable {X : Cx} {σ : Env} {L L' : Lst} {d : Option Nat} {ty : TypeId} {pos : String} {af : Array Edge} {g : Option (Nat × Bool)} {x y c : Operand} {v vx vy : Value} {t : TypeId}
variable {all : Array Oper} {rest : List Oper} {K : Env → Lst → Prop} {r : TRow}

theorem Ok1.move (h : ev σ x = some v) : Ok1 X ⟨d, .move x, ty, pos, af, g⟩ σ L v := .mk fun a w ha hw => by simp [execOp, ha.ev h]
theorem Ok1.assign (h : ev σ x = some v) : Ok1 X ⟨d, .assign x, ty, pos, af, g⟩ σ L v := .mk fun a w ha hw => by simp [execOp, ha.ev h]
theorem Ok1.pick_t (hc : ev σ c = some (.bool true)) (h : ev σ x = some v) : Ok1 X ⟨d, .pick c x y, ty, pos, af, g⟩ σ L v := .mk fun a w ha hw => by
  simp [execOp, ha.ev h, ha.ev hc, asBool]
theorem Ok1.pick_f (hc : ev σ c = some (.bool false)) (h : ev σ y = some v) : Ok1 X ⟨d, .pick c x y, ty, pos, af, g⟩ σ L v := .mk fun a w ha hw => by
  simp [execOp, ha.ev h, ha.ev hc, asBool]

/-! ### lists of cells -/
def copyE : List Value → Option (List Value)
  | [] => some []
  | v :: r => match copyE r with | some s => some (v :: s) | none => none
theorem copyE_eq {l r : List Value} (h : copyE l = some r) : r = l := by
  induction l generalizing r with
  | nil => simp [copyE] at h; exact h
  | cons v l ih =>
    simp only [copyE] at h
    cases e : copyE l with
    | none => rw [e] at h; cases h
    | some s => rw [e] at h; cases h; rw [ih e]
/-- The k cells from o on. -/
def subE : List Value → Nat → Nat → Option (List Value)
  | _, _, 0 => some []
  | [], _, _ + 1 => none
  | c :: cs, 0, k + 1 => match subE cs 0 k with | some r => some (c :: r) | none => none
  | _ :: cs, o + 1, k + 1 => subE cs o (k + 1)
theorem subE_spec : ∀ {cs : List Value} {o k : Nat} {vs : List Value}, subE cs o k = some vs → vs.length = k ∧ ∀ i, i < k → cs[o + i]? = vs[i]?
  | _, _, 0, vs, h => by simp [subE] at h; subst h; simp
  | [], _, k + 1, vs, h => by simp [subE] at h
  | c :: cs, 0, k + 1, vs, h => by
    simp only [subE] at h
    cases e : subE cs 0 k with
    | none => rw [e] at h; cases h
    | some r =>
      rw [e] at h; cases h
      obtain ⟨h1, h2⟩ := subE_spec e
      refine ⟨by simp [h1], fun i hi => ?_⟩
      cases i with
      | zero => rfl
      | succ i => have := h2 i (by omega); simp at this ⊢; exact this
  | c :: cs, o + 1, k + 1, vs, h => by
    simp only [subE] at h
    obtain ⟨h1, h2⟩ := subE_spec h
    refine ⟨h1, fun i hi => ?_⟩
    rw [Nat.add_right_comm]; simpa using h2 i hi
/-- cs with vs laid over the cells from o on. -/
def setE : List Value → Nat → List Value → Option (List Value)
  | cs, _, [] => some cs
  | [], _, _ :: _ => none
  | _ :: cs, 0, v :: vs => match setE cs 0 vs with | some r => some (v :: r) | none => none
  | c :: cs, o + 1, v :: vs => match setE cs o (v :: vs) with | some r => some (c :: r) | none => none
theorem setE_spec : ∀ {cs : List Value} {o : Nat} {vs r : List Value}, setE cs o vs = some r → r.length = cs.length ∧ (vs = [] ∨ o + vs.length ≤ cs.length) ∧ ∀ j, r[j]? = if o ≤ j ∧ j < o + vs.length then vs[j - o]? else cs[j]?
  | cs, o, [], r, h => by
    simp [setE] at h; subst h
    refine ⟨rfl, .inl rfl, fun j => ?_⟩
    rw [if_neg (by rintro ⟨h1, h2⟩; simp at h2; omega)]
  | [], _, _ :: _, r, h => by simp [setE] at h
  | c :: cs, 0, v :: vs, r, h => by
    simp only [setE] at h
    cases e : setE cs 0 vs with
    | none => rw [e] at h; cases h
    | some r' =>
      rw [e] at h; cases h
      obtain ⟨h1, h2, h3⟩ := setE_spec e
      refine ⟨by simp [h1], .inr ?_, fun j => ?_⟩
      · rcases h2 with h2 | h2
        · subst h2; simp
        · simp at h2 ⊢; omega
      · cases j with
        | zero => simp
        | succ j => have := h3 j; simp at this ⊢; exact this
  | c :: cs, o + 1, v :: vs, r, h => by
    simp only [setE] at h
    cases e : setE cs o (v :: vs) with
    | none => rw [e] at h; cases h
    | some r' =>
      rw [e] at h; cases h
      obtain ⟨h1, h2, h3⟩ := setE_spec e
      refine ⟨by simp [h1], .inr ?_, fun j => ?_⟩
      · rcases h2 with h2 | h2
        · cases h2
        · simp at h2 ⊢; omega
      · cases j with
        | zero => rw [if_neg (by omega)]; simp
        | succ j =>
          have := h3 j
          simp only [List.getElem?_cons_succ, this]
          by_cases hc : o ≤ j ∧ j < o + (v :: vs).length
          · rw [if_pos hc, if_pos (by omega), Nat.add_sub_add_right]
          · rw [if_neg hc, if_neg (by omega)]

def cellsE : Value → Option (List Value)
  | .agg ⟨l⟩ => some l
  | v => some [v]
theorem cellsE_eq {v : Value} {l : List Value} (h : cellsE v = some l) : v.cells = ⟨l⟩ := by
  cases v <;> simp [cellsE, Value.cells] at h ⊢ <;> first | (subst h; rfl) | skip

/-! ### loads -/
structure Ld (X : Cx) (L : Lst) (t : TypeId) (p : Addr) (v : Value) : Prop where
  run : ∀ w, Hp X.w0 X.S L w → (loadVar t p).run X.P w = .ok v w

theorem At.cell {w : World} {S : List Nat} {w0 : World} {b : Nat} {cs : List Value} {te : TypeId} {fz : Nat × Nat} (h : At L b (.cells ⟨cs⟩ te fz)) (hw : Hp w0 S L w) (o : Nat) : w.cell? ⟨b, o, none⟩ = cs[o]? := by
  have := hw.get _ _ h.mem
  simp [World.cell?, this]

theorem run_cells (P : Program) (w : World) (p : Addr) (hp : p.spot = none) (vs : List Value) : ∀ (k i : Nat) (acc : Array Value), (∀ j, j < k → w.cell? ⟨p.block, p.off + (i + j), none⟩ = vs[i + j]?) → i + k = vs.length →
    (loadCellsFrom p i k acc).run P w = .ok (acc ++ ⟨vs.drop i⟩) w
  | 0, i, acc, h, hl => by
    have h0 : vs.drop i = [] := List.drop_eq_nil_of_le (by omega)
    rw [loadCellsFrom, h0, Sem.run_pure]
    have e : acc ++ (⟨[]⟩ : Array Value) = acc := Array.append_empty
    rw [e]
  | k + 1, i, acc, h, hl => by
    have hi : i < vs.length := by omega
    have h0 := h 0 (by omega)
    simp only [Nat.add_zero] at h0
    have ha : p.add i = ⟨p.block, p.off + i, none⟩ := by
      cases p; simp at hp; subst hp
      simp only [Addr.add]; split
      · rename_i e; subst e; rfl
      · rfl
    rw [loadCellsFrom, Sem.run_bind, run_load, ha, h0, List.getElem?_eq_getElem hi]
    simp only [Result.andThen_ok]
    rw [run_cells P w p hp vs k (i + 1) _ (fun j hj => by have := h (j + 1) (by omega); rwa [show i + (j + 1) = i + 1 + j by omega] at this) (by omega)]
    have e : acc.push vs[i] ++ (⟨vs.drop (i + 1)⟩ : Array Value) = acc ++ ⟨vs.drop i⟩ := by
      apply Array.toList_inj.1
      simp only [Array.toList_append, Array.toList_push]
      rw [List.drop_eq_getElem_cons hi, List.append_assoc]
      rfl
    rw [e]

theorem Ld.of1 {p : Addr} (ht : X.tb.row t = some r) (hk : r.k.agg = some false) (h : ∀ w, Hp X.w0 X.S L w → w.cell? p = some v) : Ld X L t p v := .mk fun w hw => by
  simp [loadVar, (X.tb.get ht).agg hk, run_load, h w hw]
theorem Ld.ofk {b o : Nat} {vs : List Value} (ht : X.tb.row t = some r) (hk : r.k.agg = some true) (hl : vs.length = r.size) (h : ∀ w, Hp X.w0 X.S L w → ∀ i, i < r.size → w.cell? ⟨b, o + i, none⟩ = vs[i]?) : Ld X L t ⟨b, o, none⟩ (.agg ⟨vs⟩) := .mk fun w hw => by
  have h2 := run_cells X.P w ⟨b, o, none⟩ rfl vs r.size 0 #[] (fun j hj => by rw [Nat.zero_add]; exact h w hw j hj) (by omega)
  have e : (#[] : Array Value) ++ (⟨vs.drop 0⟩ : Array Value) = ⟨vs⟩ := by apply Array.toList_inj.1; simp
  rw [e] at h2
  rw [loadVar, Sem.run_bind, (X.tb.get ht).agg hk]
  simp only [Result.andThen_ok, if_true, Sem.run_bind, (X.tb.get ht).size, loadCells, h2, Sem.run_pure]

theorem Ld.own1 {b o : Nat} {cs : List Value} {te : TypeId} {fz : Nat × Nat} (ht : X.tb.row t = some r) (hk : r.k.agg = some false) (hat : At L b (.cells ⟨cs⟩ te fz)) (hc : cs[o]? = some v) : Ld X L t ⟨b, o, none⟩ v :=
  .of1 ht hk fun w hw => (hat.cell hw o).trans hc
theorem Ld.ownk {b o : Nat} {cs vs : List Value} {te : TypeId} {fz : Nat × Nat} (ht : X.tb.row t = some r) (hk : r.k.agg = some true) (hat : At L b (.cells ⟨cs⟩ te fz)) (hc : subE cs o r.size = some vs) : Ld X L t ⟨b, o, none⟩ (.agg ⟨vs⟩) :=
  .ofk ht hk (subE_spec hc).1 fun w hw i hi => (hat.cell hw _).trans ((subE_spec hc).2 i hi)
theorem Hp.old {w0 w : World} {S : List Nat} {p : Addr} (hw : Hp w0 S L w) (hc : w0.cell? p = some v) (hs : p.block ∉ S) : w.cell? p = some v := hw.chg.cell hc hs
theorem Ld.old1 {p : Addr} (ht : X.tb.row t = some r) (hk : r.k.agg = some false) (hc : X.w0.cell? p = some v) (hs : p.block ∉ X.S) : Ld X L t p v :=
  .of1 ht hk fun w hw => hw.old hc hs
theorem Ld.oldk {b o : Nat} {vs : List Value} (ht : X.tb.row t = some r) (hk : r.k.agg = some true) (hl : vs.length = r.size) (hc : ∀ i, i < r.size → X.w0.cell? ⟨b, o + i, none⟩ = vs[i]?) (hs : b ∉ X.S) : Ld X L t ⟨b, o, none⟩ (.agg ⟨vs⟩) :=
  .ofk ht hk hl fun w hw i hi => by
    have h1 := hc i hi
    rw [List.getElem?_eq_getElem (by omega)] at h1 ⊢
    exact hw.old h1 hs

theorem Ok1.load {p : Addr} (hx : ev σ x = some (.pointer (some p))) (h : Ld X L t p v) : Ok1 X ⟨d, .load t x, ty, pos, af, g⟩ σ L v := .mk fun a w ha hw => by
  simp [execOp, ha.ev hx, Instr.loadAt, Instr.sureAddr, h.run w hw]

/-! ### stores, new variables -/
theorem run_stores (P : Program) (p : Addr) (hp : p.spot = none) (te : TypeId) : ∀ (vs : List Value) (i : Nat) (w : World) (cs cs' : List Value), vs.all Value.oneCell' = true → w.heap[p.block]? = some (.cells ⟨cs⟩ te (0, 0)) → setE cs (p.off + i) vs = some cs' →
    ∃ w', (storeCells p vs i).run P w = .ok () w' ∧ w'.heap[p.block]? = some (.cells ⟨cs'⟩ te (0, 0)) ∧ Chg [p.block] w w'
  | [], i, w, cs, cs', h1, hb, hc => by
    simp only [setE, Option.some.injEq] at hc
    subst hc
    exact ⟨w, by simp [storeCells], hb, .refl _ _⟩
  | v :: vs, i, w, cs, cs', h1, hb, hc => by
    have ha : p.add i = ⟨p.block, p.off + i, none⟩ := by
      cases p; simp at hp; subst hp
      simp only [Addr.add]; split
      · rename_i e; subst e; rfl
      · rfl
    simp only [List.all_cons, Bool.and_eq_true] at h1
    -- one store, then the rest
    have key : ∀ (cs : List Value) (o : Nat) (cs' : List Value), setE cs o (v :: vs) = some cs' → o < cs.length ∧ setE (cs.set o v) (o + 1) vs = some cs' := by
      intro cs
      induction cs with
      | nil => intro o cs' h; simp [setE] at h
      | cons c cs ih =>
        intro o cs' h
        cases o with
        | zero =>
          simp only [setE] at h
          refine ⟨by simp, ?_⟩
          simp only [List.set_cons_zero]
          cases vs with
          | nil => simp [setE] at h ⊢; exact h
          | cons u us => simpa [setE] using h
        | succ o =>
          simp only [setE] at h
          cases e : setE cs o (v :: vs) with
          | none => rw [e] at h; cases h
          | some r' =>
            rw [e] at h; cases h
            obtain ⟨h2, h3⟩ := ih o r' e
            refine ⟨by simp; omega, ?_⟩
            simp only [List.set_cons_succ]
            cases vs with
            | nil => simp [setE] at h3 ⊢; exact h3
            | cons u us => simp [setE, h3]
    obtain ⟨h2, h3⟩ := key cs (p.off + i) cs' hc
    have hcell : w.cell? ⟨p.block, p.off + i, none⟩ = some cs[p.off + i] := by
      simp [World.cell?, hb, List.getElem?_eq_getElem h2]
    have hfz : w.frozen? ⟨p.block, p.off + i, none⟩ = false := by simp [World.frozen?, hb]
    have hst : (store (p.add i) v).run P w = .ok () (w.setCell ⟨p.block, p.off + i, none⟩ v) := by
      rw [ha, run_store P w _ v .plain h1.1, hcell]; simp [hfz]
    have hb' : (w.setCell ⟨p.block, p.off + i, none⟩ v).heap[p.block]? = some (.cells ⟨cs.set (p.off + i) v⟩ te (0, 0)) := by
      simp [World.setCell, Array.getElem?_modify, hb]
    obtain ⟨w', h4, h5, h6⟩ := run_stores P p hp te vs (i + 1) _ _ cs' h1.2 hb' (by rw [← Nat.add_assoc]; exact h3)
    refine ⟨w', ?_, h5, (Chg.setCell w v (by simp)).trans h6⟩
    rw [storeCells, Sem.run_bind, hst]
    simpa using h4

theorem R.store {b o : Nat} {cs cs' vs : List Value} {te : TypeId} (ht : X.tb.row t = some r) (hx : ev σ x = some (.pointer (some ⟨b, o, none⟩))) (hy : ev σ y = some v) (hv : cellsE v = some vs)
    (hl : vs.length = r.size) (h1 : vs.all Value.oneCell' = true) (hu : Upd L b (.cells ⟨cs⟩ te (0, 0)) (.cells ⟨cs'⟩ te (0, 0)) L') (hc : setE cs o vs = some cs') (h : R X all rest K σ L') :
    R X all (⟨none, .store t x y, ty, pos, af, none⟩ :: rest) K σ L :=
  R.skip rfl rfl fun a w ha hw => by
    obtain ⟨w', h2, h3, h4⟩ := run_stores X.P ⟨b, o, none⟩ rfl te vs 0 w cs cs' h1 (hw.get _ _ hu.mem) hc
    have hcs := cellsE_eq hv
    refine ⟨w', L', ?_, hw.upd hu h4 h3, h⟩
    simp [execOp, ha.ev hx, ha.ev hy, Instr.storeAt, Instr.sureAddr, storeVar, (X.tb.get ht).size, hcs, hl, h2]

theorem R.alloc {dd : Nat} {cs : List Value} (hn : Nat.blt dd X.n = true) (ht : X.tb.row t = some r) (hz : cellsE r.zero = some cs)
    (h : ∀ b, R X all rest K ((dd, .pointer (some ⟨b, 0, none⟩)) :: σ) ((b, .cells ⟨cs⟩ t (0, 0)) :: L)) : R X all (⟨some dd, .alloc t, ty, pos, af, none⟩ :: rest) K σ L :=
  R.value rfl rfl hn fun a w ha hw => by
    refine ⟨.pointer (some ⟨w.heap.size, 0, none⟩), w.alloc (.cells ⟨cs⟩ t (0, 0)), _, ?_, hw.alloc _, h _⟩
    have := cellsE_eq hz
    simp [execOp, Instr.alloc, (X.tb.get ht).zero, newVar, newRow, this]
theorem R.box {dd : Nat} {cs : List Value} (hn : Nat.blt dd X.n = true) (hx : ev σ x = some v) (hz : cellsE v = some cs)
    (h : ∀ b, R X all rest K ((dd, .pointer (some ⟨b, 0, none⟩)) :: σ) ((b, .cells ⟨cs⟩ t (0, 0)) :: L)) : R X all (⟨some dd, .box t x, ty, pos, af, none⟩ :: rest) K σ L :=
  R.value rfl rfl hn fun a w ha hw => by
    refine ⟨.pointer (some ⟨w.heap.size, 0, none⟩), w.alloc (.cells ⟨cs⟩ t (0, 0)), _, ?_, hw.alloc _, h _⟩
    have := cellsE_eq hz
    simp [execOp, Instr.box, ha.ev hx, newVar, newRow, this]

/-! ### fields, indexes -/
def fldE : List (Nat × Nat × Nat) → Nat → Option (Nat × Nat × Nat)
  | [], _ => none
  | f :: _, 0 => some f
  | _ :: r, i + 1 => fldE r i
theorem Flds.get {P : Program} : ∀ {fs : List Field} {s : List (Nat × Nat × Nat)} {i ft off sz : Nat}, Flds P fs s → fldE s i = some (ft, off, sz) →
    ∃ f, fs[i]? = some f ∧ f.type = ft ∧ f.offset = off ∧ (∀ w, (Go.sizeOf ft).run P w = .ok sz w) ∧ (f.name == "_") = false
  | [], [], i, _, _, _, _, h => by cases h
  | [], _ :: _, _, _, _, _, h, _ => h.elim
  | _ :: _, [], _, _, _, _, h, _ => h.elim
  | f :: fs, (t', o', z') :: s, 0, ft, off, sz, h, e => by cases e; exact ⟨f, rfl, h.1, h.2.1, h.2.2.1, h.2.2.2.1⟩
  | f :: fs, (t', o', z') :: s, i + 1, ft, off, sz, h, e => Flds.get (fs := fs) (i := i) h.2.2.2.2 e

theorem Addr.add_none (b o k : Nat) : Addr.add ⟨b, o, none⟩ k = ⟨b, o + k, none⟩ := by
  simp only [Addr.add]; split
  · rename_i e; subst e; rfl
  · rfl

theorem Ok1.fieldAddr {f b o ft off sz : Nat} {fs : List (Nat × Nat × Nat)} (ht : X.tb.row t = some r) (hk : r.k = .strct fs) (hx : ev σ x = some (.pointer (some ⟨b, o, none⟩))) (hf : fldE fs f = some (ft, off, sz)) (hz : Nat.beq sz 0 = false) :
    Ok1 X ⟨d, .fieldAddr t x f, ty, pos, af, g⟩ σ L (.pointer (some ⟨b, o + off, none⟩)) := .mk fun a w ha hw => by
  have h1 := (X.tb.get ht).is
  rw [hk] at h1
  obtain ⟨fields, h2, h3⟩ := h1
  obtain ⟨fl, h4, h5, h6, h7, _⟩ := h3.get hf
  have h4' : fields[f]? = some fl := by simpa using h4
  have hz' : sz ≠ 0 := fun e => by subst e; cases hz
  simp [execOp, ha.ev hx, Instr.fieldAt, run_underlying h2, h4', Instr.sureAddr, fieldPlace, h5, h6, h7, hz', Addr.add_none]

theorem Ok1.field1 {f ft off sz : Nat} {fs : List (Nat × Nat × Nat)} {cs : List Value} {r' : TRow} (ht : X.tb.row t = some r) (hk : r.k = .strct fs) (hx : ev σ x = some (.agg ⟨cs⟩)) (hf : fldE fs f = some (ft, off, sz)) (hft : X.tb.row ft = some r') (hk' : r'.k.agg = some false) (hc : cs[off]? = some v) :
    Ok1 X ⟨d, .field t x f, ty, pos, af, g⟩ σ L v := .mk fun a w ha hw => by
  have h1 := (X.tb.get ht).is
  rw [hk] at h1
  obtain ⟨fields, h2, h3⟩ := h1
  obtain ⟨fl, h4, h5, h6, h7, _⟩ := h3.get hf
  have h4' : fields[f]? = some fl := by simpa using h4
  simp [execOp, ha.ev hx, Instr.field, run_underlying h2, h4', asAgg, h5, h6, part, (X.tb.get hft).agg hk']
  rw [hc]; rfl
theorem extract_of_subE {cs vs : List Value} {o k : Nat} (h : subE cs o k = some vs) : (Array.mk cs).extract o (o + k) = ⟨vs⟩ := by
  obtain ⟨h1, h2⟩ := subE_spec h
  apply Array.ext_getElem?
  intro i
  rw [Array.getElem?_extract]
  by_cases hi : i < k
  · have h3 := h2 i hi
    have hlt : o + i < cs.length := by
      rcases Nat.lt_or_ge (o + i) cs.length with h | h
      · exact h
      · rw [List.getElem?_eq_none h, List.getElem?_eq_getElem (by omega)] at h3; cases h3
    rw [if_pos (by simp; omega)]
    simpa using h3
  · rw [if_neg (by simp; omega)]
    simp; omega
theorem subE_take {cs vs : List Value} {o k : Nat} (h : subE cs o k = some vs) : (cs.drop o).take k = vs := by
  have := congrArg Array.toList (extract_of_subE h)
  simpa using this
theorem Ok1.fieldk {f ft off sz : Nat} {fs : List (Nat × Nat × Nat)} {cs vs : List Value} {r' : TRow} (ht : X.tb.row t = some r) (hk : r.k = .strct fs) (hx : ev σ x = some (.agg ⟨cs⟩)) (hf : fldE fs f = some (ft, off, sz)) (hft : X.tb.row ft = some r') (hk' : r'.k.agg = some true) (hc : subE cs off sz = some vs) :
    Ok1 X ⟨d, .field t x f, ty, pos, af, g⟩ σ L (.agg ⟨vs⟩) := .mk fun a w ha hw => by
  have h1 := (X.tb.get ht).is
  rw [hk] at h1
  obtain ⟨fields, h2, h3⟩ := h1
  obtain ⟨fl, h4, h5, h6, h7, _⟩ := h3.get hf
  have h4' : fields[f]? = some fl := by simpa using h4
  simp [execOp, ha.ev hx, Instr.field, run_underlying h2, h4', asAgg, h5, h6, part, (X.tb.get hft).agg hk', h7, subE_take hc]

theorem Ok1.indexAddr {b o n cap e : Nat} {k : IntKind} {i : Int} {re : TRow} (ht : X.tb.row t = some r) (hk : r.k = .slice e) (he : X.tb.row e = some re) (hx : ev σ x = some (.slice (some ⟨b, o, none⟩) n cap)) (hy : ev σ y = some (.int k i)) (h0 : 0 ≤ i) (h1 : i < n) :
    Ok1 X ⟨d, .indexAddr t x y, ty, pos, af, g⟩ σ L (.pointer (some ⟨b, o + i.toNat * re.size, none⟩)) := .mk fun a w ha hw => by
  have h2 := (X.tb.get ht).is
  rw [hk] at h2
  simp only [TK.is] at h2
  simp [execOp, ha.ev hx, ha.ev hy, Instr.indexAt, asIntOf, run_underlying h2, h0, h1, (X.tb.get he).size, Addr.add_none]
theorem Ok1.indexAddrA {b o n e : Nat} {k : IntKind} {i : Int} {re : TRow} (ht : X.tb.row t = some r) (hk : r.k = .arr n e) (he : X.tb.row e = some re) (hx : ev σ x = some (.pointer (some ⟨b, o, none⟩))) (hy : ev σ y = some (.int k i)) (h0 : 0 ≤ i) (h1 : i < n) :
    Ok1 X ⟨d, .indexAddr t x y, ty, pos, af, g⟩ σ L (.pointer (some ⟨b, o + i.toNat * re.size, none⟩)) := .mk fun a w ha hw => by
  have h2 := (X.tb.get ht).is
  rw [hk] at h2
  simp only [TK.is] at h2
  simp [execOp, ha.ev hx, ha.ev hy, Instr.indexAt, Instr.sureAddr, asIntOf, run_underlying h2, h0, h1, (X.tb.get he).size, Addr.add_none]
theorem Ok1.index1 {n e : Nat} {k : IntKind} {i : Int} {re : TRow} {cs : List Value} (ht : X.tb.row t = some r) (hk : r.k = .arr n e) (he : X.tb.row e = some re) (hk' : re.k.agg = some false) (hx : ev σ x = some (.agg ⟨cs⟩)) (hy : ev σ y = some (.int k i)) (h0 : 0 ≤ i) (h1 : i < n) (hc : cs[i.toNat * re.size]? = some v) :
    Ok1 X ⟨d, .index t x y, ty, pos, af, g⟩ σ L v := .mk fun a w ha hw => by
  have h2 := (X.tb.get ht).is
  rw [hk] at h2
  simp only [TK.is] at h2
  simp [execOp, ha.ev hx, ha.ev hy, Instr.index, asIntOf, run_underlying h2, h0, h1, (X.tb.get he).size, part, (X.tb.get he).agg hk']
  rw [hc]; rfl
theorem Ok1.indexk {n e : Nat} {k : IntKind} {i : Int} {re : TRow} {cs vs : List Value} (ht : X.tb.row t = some r) (hk : r.k = .arr n e) (he : X.tb.row e = some re) (hk' : re.k.agg = some true) (hx : ev σ x = some (.agg ⟨cs⟩)) (hy : ev σ y = some (.int k i)) (h0 : 0 ≤ i) (h1 : i < n) (hc : subE cs (i.toNat * re.size) re.size = some vs) :
    Ok1 X ⟨d, .index t x y, ty, pos, af, g⟩ σ L (.agg ⟨vs⟩) := .mk fun a w ha hw => by
  have h2 := (X.tb.get ht).is
  rw [hk] at h2
  simp only [TK.is] at h2
  simp [execOp, ha.ev hx, ha.ev hy, Instr.index, asIntOf, run_underlying h2, h0, h1, (X.tb.get he).size, part, (X.tb.get he).agg hk', subE_take hc]
theorem Ok1.extract {i : Nat} {vs : List Value} (hx : ev σ x = some (.tuple ⟨vs⟩)) (hc : vs[i]? = some v) : Ok1 X ⟨d, .extract x i, ty, pos, af, g⟩ σ L v := .mk fun a w ha hw => by
  have hc' : (Array.mk vs)[i]? = some v := by simpa using hc
  simp [execOp, ha.ev hx, Instr.extract, hc']
theorem Ok1.nilCheck {p : Addr} (hx : ev σ x = some (.pointer (some p))) : Ok1 X ⟨d, .nilCheck x, ty, pos, af, g⟩ σ L (.pointer (some p)) := .mk fun a w ha hw => by simp [execOp, ha.ev hx]
theorem Ok1.nilCheckF {f : FuncId} {fa fb : Array Value} (hx : ev σ x = some (.func (.func f) fa fb)) : Ok1 X ⟨d, .nilCheck x, ty, pos, af, g⟩ σ L (.func (.func f) fa fb) := .mk fun a w ha hw => by simp [execOp, ha.ev hx]
theorem Ok1.makeFunc {fn : Fn} {f1 f2 : List Operand} {v1 v2 : List Value} (h1 : evs σ f1 = some v1) (h2 : evs σ f2 = some v2) : Ok1 X ⟨d, .makeFunc fn f1.toArray f2.toArray, ty, pos, af, g⟩ σ L (.func fn v1.toArray v2.toArray) := .mk fun a w ha hw => by
  have key : ∀ (xs : List Operand) (vs : List Value), evs σ xs = some vs → xs.map a.eval = vs := by
    intro xs
    induction xs with
    | nil => intro vs h; simp [evs] at h; simp [← h]
    | cons x xs ih =>
      intro vs h
      simp only [evs] at h
      cases h1 : ev σ x with
      | none => simp [h1] at h
      | some u =>
        cases h2 : evs σ xs with
        | none => simp [h1, h2] at h
        | some us => simp [h1, h2] at h; subst h; simp [ha.ev h1, ih us h2]
  simp [execOp, Instr.makeFunc, key _ _ h1, key _ _ h2]

/-! ### len -/
theorem Ok1.lenS {e : Nat} {p : Option Addr} {n cap : Nat} (ht : X.tb.row t = some r) (hk : r.k = .slice e) (hx : ev σ x = some (.slice p n cap)) : Ok1 X ⟨d, .call { callee := .builtin .len, args := #[x], argTypes := #[t] }, ty, pos, af, g⟩ σ L (.int .i64 n) := .mk fun a w ha hw => by
  have h2 := (X.tb.get ht).is
  rw [hk] at h2
  simp only [TK.is] at h2
  simp [execOp, resolve, ha.ev hx, invoke, builtin, Builtin.len_, run_underlying h2, goInt]
theorem Ok1.lenStr {s : ByteArray} (ht : X.tb.row t = some r) (hk : r.k = .string) (hx : ev σ x = some (.string s)) : Ok1 X ⟨d, .call { callee := .builtin .len, args := #[x], argTypes := #[t] }, ty, pos, af, g⟩ σ L (.int .i64 s.size) := .mk fun a w ha hw => by
  have h2 := (X.tb.get ht).is
  rw [hk] at h2
  simp only [TK.is] at h2
  simp [execOp, resolve, ha.ev hx, invoke, builtin, Builtin.len_, run_underlying h2, goInt]

/-! ### numbers -/
variable {ty2 : TypeId} {k : IntKind} {i j : Int}
theorem Ok1.add (hx : ev σ x = some (.int k i)) (hy : ev σ y = some (.int k j)) : Ok1 X ⟨d, .binOp .add t x y ty2, ty, pos, af, g⟩ σ L (.int k (k.wrap (i + j))) := .mk fun a w ha hw => by
  simp [execOp, ha.ev hx, ha.ev hy, eqGuard, binOp, Op.intArith]
theorem Ok1.sub (hx : ev σ x = some (.int k i)) (hy : ev σ y = some (.int k j)) : Ok1 X ⟨d, .binOp .sub t x y ty2, ty, pos, af, g⟩ σ L (.int k (k.wrap (i - j))) := .mk fun a w ha hw => by
  simp [execOp, ha.ev hx, ha.ev hy, eqGuard, binOp, Op.intArith]
theorem Ok1.mul (hx : ev σ x = some (.int k i)) (hy : ev σ y = some (.int k j)) : Ok1 X ⟨d, .binOp .mul t x y ty2, ty, pos, af, g⟩ σ L (.int k (k.wrap (i * j))) := .mk fun a w ha hw => by
  simp [execOp, ha.ev hx, ha.ev hy, eqGuard, binOp, Op.intArith]
theorem Ok1.quo (hx : ev σ x = some (.int k i)) (hy : ev σ y = some (.int k j)) (h : j ≠ 0) : Ok1 X ⟨d, .binOp .quo t x y ty2, ty, pos, af, g⟩ σ L (.int k (k.wrap (i.tdiv j))) := .mk fun a w ha hw => by
  simp [execOp, ha.ev hx, ha.ev hy, eqGuard, binOp, Op.intDiv, h]
theorem Ok1.rem (hx : ev σ x = some (.int k i)) (hy : ev σ y = some (.int k j)) (h : j ≠ 0) : Ok1 X ⟨d, .binOp .rem t x y ty2, ty, pos, af, g⟩ σ L (.int k (i.tmod j)) := .mk fun a w ha hw => by
  simp [execOp, ha.ev hx, ha.ev hy, eqGuard, binOp, Op.intDiv, h]
theorem wrap_in {i : Int} (h1 : -9223372036854775808 ≤ i) (h2 : i ≤ 9223372036854775807) : IntKind.i64.wrap i = i := IntWalk.i64_in i (by omega)
theorem Ok1.add64 (hx : ev σ x = some (.int .i64 i)) (hy : ev σ y = some (.int .i64 j)) (h1 : -9223372036854775808 ≤ i + j) (h2 : i + j ≤ 9223372036854775807) : Ok1 X ⟨d, .binOp .add t x y ty2, ty, pos, af, g⟩ σ L (.int .i64 (i + j)) := by
  have := Ok1.add (X := X) (σ := σ) (L := L) (d := d) (ty := ty) (pos := pos) (af := af) (g := g) (t := t) (ty2 := ty2) hx hy
  rwa [wrap_in h1 h2] at this
theorem Ok1.sub64 (hx : ev σ x = some (.int .i64 i)) (hy : ev σ y = some (.int .i64 j)) (h1 : -9223372036854775808 ≤ i - j) (h2 : i - j ≤ 9223372036854775807) : Ok1 X ⟨d, .binOp .sub t x y ty2, ty, pos, af, g⟩ σ L (.int .i64 (i - j)) := by
  have := Ok1.sub (X := X) (σ := σ) (L := L) (d := d) (ty := ty) (pos := pos) (af := af) (g := g) (t := t) (ty2 := ty2) hx hy
  rwa [wrap_in h1 h2] at this
theorem Ok1.mul64 (hx : ev σ x = some (.int .i64 i)) (hy : ev σ y = some (.int .i64 j)) (h1 : -9223372036854775808 ≤ i * j) (h2 : i * j ≤ 9223372036854775807) : Ok1 X ⟨d, .binOp .mul t x y ty2, ty, pos, af, g⟩ σ L (.int .i64 (i * j)) := by
  have := Ok1.mul (X := X) (σ := σ) (L := L) (d := d) (ty := ty) (pos := pos) (af := af) (g := g) (t := t) (ty2 := ty2) hx hy
  rwa [wrap_in h1 h2] at this
theorem Ok1.conv {k' : IntKind} {src dst : TypeId} {rs rd : TRow} (hd : X.tb.row dst = some rd) (hk : rd.k = .int k') (hs : X.tb.row src = some rs) (hk2 : rs.k = .int k) (hx : ev σ x = some (.int k i)) : Ok1 X ⟨d, .convert src dst x, ty, pos, af, g⟩ σ L (.int k' (k'.wrap i)) := .mk fun a w ha hw => by
  have h2 := (X.tb.get hd).is
  have h3 := (X.tb.get hs).is
  rw [hk] at h2
  rw [hk2] at h3
  simp only [TK.is] at h2 h3
  simp [execOp, ha.ev hx, convert, run_underlying h2, run_underlying h3, Conv.intToInt]
theorem Ok1.not {b : Bool} (hx : ev σ x = some (.bool b)) : Ok1 X ⟨d, .unOp .not t x, ty, pos, af, g⟩ σ L (.bool (!b)) := .mk fun a w ha hw => by
  simp [execOp, ha.ev hx, Op.unary]
theorem Ok1.not_t (hx : ev σ x = some (.bool true)) : Ok1 X ⟨d, .unOp .not t x, ty, pos, af, g⟩ σ L (.bool false) := Ok1.not hx
theorem Ok1.not_f (hx : ev σ x = some (.bool false)) : Ok1 X ⟨d, .unOp .not t x, ty, pos, af, g⟩ σ L (.bool true) := Ok1.not hx
theorem Ok1.neg (hx : ev σ x = some (.int k i)) : Ok1 X ⟨d, .unOp .neg t x, ty, pos, af, g⟩ σ L (.int k (k.wrap (0 - i))) := .mk fun a w ha hw => by
  simp [execOp, ha.ev hx, Op.unary, Op.intArith]

/-! ### tests of numbers: decided, or two ways -/
theorem Ok1.lss_t (hx : ev σ x = some (.int k i)) (hy : ev σ y = some (.int k j)) (h : i < j) : Ok1 X ⟨d, .binOp .lss t x y ty2, ty, pos, af, g⟩ σ L (.bool true) := .mk fun a w ha hw => by
  simp [execOp, ha.ev hx, ha.ev hy, eqGuard, binOp, Op.intCmp, h]
theorem Ok1.lss_f (hx : ev σ x = some (.int k i)) (hy : ev σ y = some (.int k j)) (h : j ≤ i) : Ok1 X ⟨d, .binOp .lss t x y ty2, ty, pos, af, g⟩ σ L (.bool false) := .mk fun a w ha hw => by
  simp [execOp, ha.ev hx, ha.ev hy, eqGuard, binOp, Op.intCmp, h]
theorem Ok1.leq_t (hx : ev σ x = some (.int k i)) (hy : ev σ y = some (.int k j)) (h : i ≤ j) : Ok1 X ⟨d, .binOp .leq t x y ty2, ty, pos, af, g⟩ σ L (.bool true) := .mk fun a w ha hw => by
  simp [execOp, ha.ev hx, ha.ev hy, eqGuard, binOp, Op.intCmp, h]
theorem Ok1.leq_f (hx : ev σ x = some (.int k i)) (hy : ev σ y = some (.int k j)) (h : j < i) : Ok1 X ⟨d, .binOp .leq t x y ty2, ty, pos, af, g⟩ σ L (.bool false) := .mk fun a w ha hw => by
  simp [execOp, ha.ev hx, ha.ev hy, eqGuard, binOp, Op.intCmp, h]
theorem Ok1.gtr_t (hx : ev σ x = some (.int k i)) (hy : ev σ y = some (.int k j)) (h : j < i) : Ok1 X ⟨d, .binOp .gtr t x y ty2, ty, pos, af, g⟩ σ L (.bool true) := .mk fun a w ha hw => by
  simp [execOp, ha.ev hx, ha.ev hy, eqGuard, binOp, Op.intCmp, h]
theorem Ok1.gtr_f (hx : ev σ x = some (.int k i)) (hy : ev σ y = some (.int k j)) (h : i ≤ j) : Ok1 X ⟨d, .binOp .gtr t x y ty2, ty, pos, af, g⟩ σ L (.bool false) := .mk fun a w ha hw => by
  simp [execOp, ha.ev hx, ha.ev hy, eqGuard, binOp, Op.intCmp, h]
theorem Ok1.geq_t (hx : ev σ x = some (.int k i)) (hy : ev σ y = some (.int k j)) (h : j ≤ i) : Ok1 X ⟨d, .binOp .geq t x y ty2, ty, pos, af, g⟩ σ L (.bool true) := .mk fun a w ha hw => by
  simp [execOp, ha.ev hx, ha.ev hy, eqGuard, binOp, Op.intCmp, h]
theorem Ok1.geq_f (hx : ev σ x = some (.int k i)) (hy : ev σ y = some (.int k j)) (h : i < j) : Ok1 X ⟨d, .binOp .geq t x y ty2, ty, pos, af, g⟩ σ L (.bool false) := .mk fun a w ha hw => by
  simp [execOp, ha.ev hx, ha.ev hy, eqGuard, binOp, Op.intCmp, h]
theorem Ok1.eql_t (hx : ev σ x = some (.int k i)) (hy : ev σ y = some (.int k j)) (h : i = j) : Ok1 X ⟨d, .binOp .eql t x y ty2, ty, pos, af, g⟩ σ L (.bool true) := .mk fun a w ha hw => by
  simp [execOp, ha.ev hx, ha.ev hy, eqGuard, binOp, Op.intCmp, h]
theorem Ok1.eql_f (hx : ev σ x = some (.int k i)) (hy : ev σ y = some (.int k j)) (h : i ≠ j) : Ok1 X ⟨d, .binOp .eql t x y ty2, ty, pos, af, g⟩ σ L (.bool false) := .mk fun a w ha hw => by
  simp [execOp, ha.ev hx, ha.ev hy, eqGuard, binOp, Op.intCmp, h]
theorem Ok1.neq_t (hx : ev σ x = some (.int k i)) (hy : ev σ y = some (.int k j)) (h : i ≠ j) : Ok1 X ⟨d, .binOp .neq t x y ty2, ty, pos, af, g⟩ σ L (.bool true) := .mk fun a w ha hw => by
  simp [execOp, ha.ev hx, ha.ev hy, eqGuard, binOp, Op.intCmp, h]
theorem Ok1.neq_f (hx : ev σ x = some (.int k i)) (hy : ev σ y = some (.int k j)) (h : i = j) : Ok1 X ⟨d, .binOp .neq t x y ty2, ty, pos, af, g⟩ σ L (.bool false) := .mk fun a w ha hw => by
  simp [execOp, ha.ev hx, ha.ev hy, eqGuard, binOp, Op.intCmp, h]

theorem Ok1.lss (hx : ev σ x = some (.int k i)) (hy : ev σ y = some (.int k j)) : Ok1 X ⟨d, .binOp .lss t x y ty2, ty, pos, af, g⟩ σ L (.bool (decide (i < j))) := .mk fun a w ha hw => by
  simp [execOp, ha.ev hx, ha.ev hy, eqGuard, binOp, Op.intCmp]
theorem Ok1.leq (hx : ev σ x = some (.int k i)) (hy : ev σ y = some (.int k j)) : Ok1 X ⟨d, .binOp .leq t x y ty2, ty, pos, af, g⟩ σ L (.bool (decide (i ≤ j))) := .mk fun a w ha hw => by
  simp [execOp, ha.ev hx, ha.ev hy, eqGuard, binOp, Op.intCmp]
theorem Ok1.gtr (hx : ev σ x = some (.int k i)) (hy : ev σ y = some (.int k j)) : Ok1 X ⟨d, .binOp .gtr t x y ty2, ty, pos, af, g⟩ σ L (.bool (decide (j < i))) := .mk fun a w ha hw => by
  simp [execOp, ha.ev hx, ha.ev hy, eqGuard, binOp, Op.intCmp]
theorem Ok1.geq (hx : ev σ x = some (.int k i)) (hy : ev σ y = some (.int k j)) : Ok1 X ⟨d, .binOp .geq t x y ty2, ty, pos, af, g⟩ σ L (.bool (decide (j ≤ i))) := .mk fun a w ha hw => by
  simp [execOp, ha.ev hx, ha.ev hy, eqGuard, binOp, Op.intCmp]
theorem Ok1.eql (hx : ev σ x = some (.int k i)) (hy : ev σ y = some (.int k j)) : Ok1 X ⟨d, .binOp .eql t x y ty2, ty, pos, af, g⟩ σ L (.bool (decide (i = j))) := .mk fun a w ha hw => by
  have : (i == j) = decide (i = j) := by by_cases h : i = j <;> simp [h]
  simp [execOp, ha.ev hx, ha.ev hy, eqGuard, binOp, Op.intCmp, this]
theorem Ok1.neq (hx : ev σ x = some (.int k i)) (hy : ev σ y = some (.int k j)) : Ok1 X ⟨d, .binOp .neq t x y ty2, ty, pos, af, g⟩ σ L (.bool (decide (i ≠ j))) := .mk fun a w ha hw => by
  have : (i != j) = decide (i ≠ j) := by by_cases h : i = j <;> simp [h]
  simp [execOp, ha.ev hx, ha.ev hy, eqGuard, binOp, Op.intCmp, this]
variable {dd : Nat}
theorem R.lss (hn : Nat.blt dd X.n = true) (hx : ev σ x = some (.int k i)) (hy : ev σ y = some (.int k j)) (h1 : i < j → R X all rest K ((dd, .bool true) :: σ) L) (h2 : j ≤ i → R X all rest K ((dd, .bool false) :: σ) L) : R X all (⟨some dd, .binOp .lss t x y ty2, ty, pos, af, none⟩ :: rest) K σ L := by
  by_cases h : i < j
  · exact R.pure hn (Ok1.lss_t hx hy h) (h1 h)
  · exact R.pure hn (Ok1.lss_f hx hy (by omega)) (h2 (by omega))
theorem R.leq (hn : Nat.blt dd X.n = true) (hx : ev σ x = some (.int k i)) (hy : ev σ y = some (.int k j)) (h1 : i ≤ j → R X all rest K ((dd, .bool true) :: σ) L) (h2 : j < i → R X all rest K ((dd, .bool false) :: σ) L) : R X all (⟨some dd, .binOp .leq t x y ty2, ty, pos, af, none⟩ :: rest) K σ L := by
  by_cases h : i ≤ j
  · exact R.pure hn (Ok1.leq_t hx hy h) (h1 h)
  · exact R.pure hn (Ok1.leq_f hx hy (by omega)) (h2 (by omega))
theorem R.gtr (hn : Nat.blt dd X.n = true) (hx : ev σ x = some (.int k i)) (hy : ev σ y = some (.int k j)) (h1 : j < i → R X all rest K ((dd, .bool true) :: σ) L) (h2 : i ≤ j → R X all rest K ((dd, .bool false) :: σ) L) : R X all (⟨some dd, .binOp .gtr t x y ty2, ty, pos, af, none⟩ :: rest) K σ L := by
  by_cases h : j < i
  · exact R.pure hn (Ok1.gtr_t hx hy h) (h1 h)
  · exact R.pure hn (Ok1.gtr_f hx hy (by omega)) (h2 (by omega))
theorem R.geq (hn : Nat.blt dd X.n = true) (hx : ev σ x = some (.int k i)) (hy : ev σ y = some (.int k j)) (h1 : j ≤ i → R X all rest K ((dd, .bool true) :: σ) L) (h2 : i < j → R X all rest K ((dd, .bool false) :: σ) L) : R X all (⟨some dd, .binOp .geq t x y ty2, ty, pos, af, none⟩ :: rest) K σ L := by
  by_cases h : j ≤ i
  · exact R.pure hn (Ok1.geq_t hx hy h) (h1 h)
  · exact R.pure hn (Ok1.geq_f hx hy (by omega)) (h2 (by omega))
theorem R.eql (hn : Nat.blt dd X.n = true) (hx : ev σ x = some (.int k i)) (hy : ev σ y = some (.int k j)) (h1 : i = j → R X all rest K ((dd, .bool true) :: σ) L) (h2 : i ≠ j → R X all rest K ((dd, .bool false) :: σ) L) : R X all (⟨some dd, .binOp .eql t x y ty2, ty, pos, af, none⟩ :: rest) K σ L := by
  by_cases h : i = j
  · exact R.pure hn (Ok1.eql_t hx hy h) (h1 h)
  · exact R.pure hn (Ok1.eql_f hx hy h) (h2 h)
theorem R.neq (hn : Nat.blt dd X.n = true) (hx : ev σ x = some (.int k i)) (hy : ev σ y = some (.int k j)) (h1 : i ≠ j → R X all rest K ((dd, .bool true) :: σ) L) (h2 : i = j → R X all rest K ((dd, .bool false) :: σ) L) : R X all (⟨some dd, .binOp .neq t x y ty2, ty, pos, af, none⟩ :: rest) K σ L := by
  by_cases h : i = j
  · exact R.pure hn (Ok1.neq_f hx hy h) (h2 h)
  · exact R.pure hn (Ok1.neq_t hx hy h) (h1 h)
end

/-! ### the function's end, and its entry -/
inductive ResIs (X : Cx) (σ : Env) (L : Lst) : List ResultVar → List Value → Prop where
  | nil : ResIs X σ L [] []
  | tmp {t : Nat} {v : Value} {rs : List ResultVar} {vs : List Value} : look σ t = some v → ResIs X σ L rs vs → ResIs X σ L (.tmp t :: rs) (v :: vs)
  | cell {a t : Nat} {p : Addr} {v : Value} {rs : List ResultVar} {vs : List Value} : look σ a = some (.pointer (some p)) → Ld X L t p v → ResIs X σ L rs vs → ResIs X σ L (.cell a t :: rs) (v :: vs)
def tup : List Value → Value
  | [v] => v
  | vs => .tuple vs.toArray
structure RetOk (X : Cx) (rs : List ResultVar) (Rp : Value → Lst → Prop) (σ : Env) (L : Lst) : Prop where
  ex : ∃ vs, ResIs X σ L rs vs ∧ Rp (tup vs) L
def retQ (X : Cx) (rs : List ResultVar) (Rp : Value → Lst → Prop) : Post := fun e σ L => match e with
  | .normal => RetOk X rs Rp σ L
  | .ret => RetOk X rs Rp σ L
  | _ => False
section
variable {X : Cx} {Rp : Value → Lst → Prop} {σ : Env} {L : Lst} {a b c' ta tb tc : Nat} {u v z : Value} {p q : Addr}
theorem RetOk.n (h : Rp (.tuple #[]) L) : RetOk X [] Rp σ L := ⟨[], .nil, h⟩
theorem RetOk.t (h1 : look σ a = some u) (h : Rp u L) : RetOk X [.tmp a] Rp σ L := ⟨[u], .tmp h1 .nil, h⟩
theorem RetOk.c (h1 : look σ a = some (.pointer (some p))) (h2 : Ld X L ta p u) (h : Rp u L) : RetOk X [.cell a ta] Rp σ L := ⟨[u], .cell h1 h2 .nil, h⟩
theorem RetOk.tt (h1 : look σ a = some u) (h2 : look σ b = some v) (h : Rp (.tuple ⟨[u, v]⟩) L) : RetOk X [.tmp a, .tmp b] Rp σ L := ⟨[u, v], .tmp h1 (.tmp h2 .nil), h⟩
theorem RetOk.ct (h1 : look σ a = some (.pointer (some p))) (h2 : Ld X L ta p u) (h3 : look σ b = some v) (h : Rp (.tuple ⟨[u, v]⟩) L) : RetOk X [.cell a ta, .tmp b] Rp σ L := ⟨[u, v], .cell h1 h2 (.tmp h3 .nil), h⟩
theorem RetOk.cc (h1 : look σ a = some (.pointer (some p))) (h2 : Ld X L ta p u) (h3 : look σ b = some (.pointer (some q))) (h4 : Ld X L tb q v) (h : Rp (.tuple ⟨[u, v]⟩) L) : RetOk X [.cell a ta, .cell b tb] Rp σ L := ⟨[u, v], .cell h1 h2 (.cell h3 h4 .nil), h⟩
theorem RetOk.ttt (h1 : look σ a = some u) (h2 : look σ b = some v) (h3 : look σ c' = some z) (h : Rp (.tuple ⟨[u, v, z]⟩) L) : RetOk X [.tmp a, .tmp b, .tmp c'] Rp σ L := ⟨[u, v, z], .tmp h1 (.tmp h2 (.tmp h3 .nil)), h⟩
end
def number : Nat → List Value → Env
  | _, [] => []
  | k, v :: r => (k, v) :: number (k + 1) r
theorem number_look : ∀ {vs : List Value} {k t : Nat} {v : Value}, look (number k vs) t = some v → k ≤ t ∧ vs[t - k]? = some v
  | [], _, _, _, h => by cases h
  | u :: r, k, t, v, h => by
    simp only [number, look] at h
    cases hb : Nat.beq k t with
    | true => rw [hb] at h; cases h; have := Nat.eq_of_beq_eq_true hb; subst this; simp
    | false =>
      rw [hb] at h
      obtain ⟨h1, h2⟩ := number_look h
      refine ⟨by omega, ?_⟩
      obtain ⟨m, rfl⟩ : ∃ m, t = k + 1 + m := ⟨t - (k + 1), by omega⟩
      rw [show k + 1 + m - k = m + 1 by omega]
      rw [show k + 1 + m - (k + 1) = m by omega] at h2
      simpa using h2

theorem ResIs.run {X : Cx} {σ : Env} {L : Lst} {a : Act} {w : World} (ha : Mod X.n a σ) (hw : Hp X.w0 X.S L w) : ∀ {rs : List ResultVar} {vs : List Value}, ResIs X σ L rs vs →
    (rs.mapM (m := Sem) fun | .tmp t => Pure.pure (a.tmps.getD t undef) | .cell b t => do loadVar t (← asAddr (a.tmps.getD b undef))).run X.P w = .ok vs w
  | _, _, .nil => by simp
  | _, _, .tmp h1 h2 => by
    have := ResIs.run ha hw h2
    simp only [List.mapM_cons, Sem.run_bind, Sem.run_pure, Result.andThen_ok, this]
    rw [ha.ok _ _ h1]
  | _, _, .cell (a := b) (t := t) (v := v) h1 h2 h3 => by
    have := ResIs.run ha hw h3
    rw [List.mapM_cons, Sem.run_bind]
    have h4 : (do let x ← asAddr (a.tmps.getD b undef); loadVar t x : Sem Value).run X.P w = .ok v w := by
      rw [ha.ok _ _ h1, Sem.run_bind]
      exact h2.run w hw
    simp only [h4, Result.andThen_ok, Sem.run_bind, this, Sem.run_pure]

theorem enter {P : Program} {tb : Tb P} {f : FuncId} {fn : Func} {c : Code} {vs : List Value} {w : World} {S : List Nat} {L : Lst} {Rp : Value → Lst → Prop} {n : Nat}
    (hf : P.funcs[f]? = some fn) (hb : fn.body = some c) (hn : fn.ntmps = n) (hvn : vs.length ≤ n) (hw : Hp w S L w)
    (h : T ⟨P, tb, n, w, S⟩ c (retQ ⟨P, tb, n, w, S⟩ fn.results.toList Rp) (number 0 vs) L) :
    Calls P f vs.toArray w fun e w' => ∃ v L', e = .returned v ∧ Rp v L' ∧ Hp w S L' w' := by
  refine calls_of_wp hf hb ?_
  have ha : Mod n { tmps := vs.toArray ++ Array.replicate (fn.ntmps - vs.toArray.size) undef, defers := [] } (number 0 vs) := by
    refine ⟨by simp [hn]; omega, rfl, fun t v hv => ?_⟩
    obtain ⟨_, h2⟩ := number_look hv
    rw [Nat.sub_zero] at h2
    obtain ⟨hl, he⟩ := List.getElem?_eq_some_iff.1 h2
    have h3 : (vs.toArray ++ Array.replicate (fn.ntmps - vs.toArray.size) undef)[t]? = some v := by
      rw [Array.getElem?_append, if_pos (by simpa using hl)]; simpa using h2
    simp only [Array.getD]
    obtain ⟨h4, h5⟩ := Array.getElem?_eq_some_iff.1 h3
    rw [dif_pos h4]; exact h5
  refine wp_mono (h.run _ w ha hw) fun e a w' ⟨σ, L', h1, h2, h3⟩ => ?_
  have key : RetOk ⟨P, tb, n, w, S⟩ fn.results.toList Rp σ L' → a.defers = [] ∧ ∃ v, (results fn a.tmps).run P w' = .ok v w' ∧ ∃ v' L', Ending.returned v = .returned v' ∧ Rp v' L' ∧ Hp w S L' w' := by
    rintro ⟨⟨vs, h4, h5⟩⟩
    refine ⟨h1.defers, tup vs, ?_, tup vs, L', rfl, h5, h2⟩
    have := ResIs.run h1 h2 h4
    have h6 : (fn.results.mapM (m := Sem) fun | .tmp t => Pure.pure (a.tmps.getD t undef) | .cell b t => do loadVar t (← asAddr (a.tmps.getD b undef))).run P w' = .ok vs.toArray w' := by
      rw [← Array.toArray_toList (xs := fn.results), List.mapM_toArray]
      simp only [Sem.run_map]
      erw [this]
      rfl
    simp only [results, Sem.run_bind]
    erw [h6]
    simp only [Result.andThen_ok, Sem.run_pure]
    congr 1
    cases vs with
    | nil => rfl
    | cons v vs => cases vs <;> rfl
  cases e <;> first | exact h3.elim | exact key h3
end Go.Proofs.Ytligpachgcmkcaa
/- Rules: struct, array and slice literals; append to a slice of one's own; make; reslicing; equality of structs of numbers. -/
set_option linter.unusedSimpArgs false
set_option linter.unusedVariables false
namespace Go.Proofs.Ytligpachgcmkcaa
open Go.RowKit Go.Shelf

theorem setE_cons {v : Value} {vs : List Value} : ∀ {cs : List Value} {o : Nat} {cs' : List Value}, setE cs o (v :: vs) = some cs' → o < cs.length ∧ setE (cs.set o v) (o + 1) vs = some cs' := by
  intro cs
  induction cs with
  | nil => intro o cs' h; simp [setE] at h
  | cons c cs ih =>
    intro o cs' h
    cases o with
    | zero =>
      simp only [setE] at h
      refine ⟨by simp, ?_⟩
      simp only [List.set_cons_zero]
      cases vs with
      | nil => simp [setE] at h ⊢; exact h
      | cons u us => simpa [setE] using h
    | succ o =>
      simp only [setE] at h
      cases e : setE cs o (v :: vs) with
      | none => rw [e] at h; cases h
      | some r' =>
        rw [e] at h; cases h
        obtain ⟨h2, h3⟩ := ih e
        refine ⟨by simp; omega, ?_⟩
        simp only [List.set_cons_succ]
        cases vs with
        | nil => simp [setE] at h3 ⊢; exact h3
        | cons u us => simp [setE, h3]
theorem setE_foldl (off : Nat) : ∀ {vs : List Value} {k : Nat} {z z' : List Value}, setE z (off + k) vs = some z' →
    (vs.zipIdx k).foldl (fun (cs : Array Value) (p : Value × Nat) => cs.setIfInBounds (off + p.2) p.1) ⟨z⟩ = ⟨z'⟩
  | [], k, z, z', h => by simp [setE] at h; subst h; rfl
  | v :: vs, k, z, z', h => by
    obtain ⟨h1, h2⟩ := setE_cons h
    simp only [List.zipIdx_cons, List.foldl_cons]
    have : (⟨z⟩ : Array Value).setIfInBounds (off + k) v = ⟨z.set (off + k) v⟩ := by
      apply Array.toList_inj.1; simp
    rw [this]
    exact setE_foldl off (by rw [← Nat.add_assoc]; exact h2)

def evp (σ : Env) : List (Nat × Operand) → Option (List (Nat × Value))
  | [] => some []
  | (i, x) :: r => match ev σ x with
    | none => none
    | some v => match evp σ r with
      | none => none
      | some vs => some ((i, v) :: vs)
theorem evp_eq {n : Nat} {a : Act} {σ : Env} (ha : Mod n a σ) : ∀ {ps : List (Nat × Operand)} {vs : List (Nat × Value)}, evp σ ps = some vs → ps.map (fun (i, x) => (i, a.eval x)) = vs
  | [], vs, h => by simp [evp] at h; simp [h]
  | (i, x) :: r, vs, h => by
    simp only [evp] at h
    cases h1 : ev σ x with
    | none => simp [h1] at h
    | some u =>
      cases h2 : evp σ r with
      | none => simp [h1, h2] at h
      | some us => simp [h1, h2] at h; subst h; simp [ha.ev h1, evp_eq ha h2]
def fillE (pl : Nat → Option (Nat × Nat)) : List Value → List (Nat × Value) → Option (List Value)
  | z, [] => copyE z
  | z, (i, v) :: ps => match pl i with
    | none => none
    | some (off, sz) => match cellsE v with
      | none => none
      | some vs => match Nat.beq vs.length sz with
        | false => none
        | true => match Nat.beq sz 0 with
          | true => none
          | false => match setE z off vs with
            | none => none
            | some z' => fillE pl z' ps
theorem fillE_fill {pl : Nat → Option (Nat × Nat)} : ∀ {ps : List (Nat × Value)} {z cs : List Value}, fillE pl z ps = some cs → Instr.fill pl ⟨z⟩ ps = some ⟨cs⟩
  | [], z, cs, h => by simp only [fillE] at h; rw [copyE_eq h]; rfl
  | (i, v) :: ps, z, cs, h => by
    simp only [fillE] at h
    split at h
    · cases h
    · rename_i off sz hpl
      split at h
      · cases h
      · rename_i vs hv
        split at h
        · cases h
        · rename_i hb
          split at h
          · cases h
          · rename_i hz
            split at h
            · cases h
            · rename_i z' hs
              have hb' := Nat.eq_of_beq_eq_true hb
              have hz' : sz ≠ 0 := fun e => by subst e; cases hz
              have hc := cellsE_eq hv
              obtain ⟨h1, h2, _⟩ := setE_spec hs
              have h2' : off + vs.length ≤ z.length := by
                rcases h2 with h2 | h2
                · subst h2; simp at hb'; omega
                · exact h2
              have hf := setE_foldl off (k := 0) (by simpa using hs)
              rw [Instr.fill, hpl]
              simp only [hc]
              rw [if_neg (by simp; omega)]
              have : (Array.mk vs).zipIdx.foldl (fun (cs : Array Value) (x : Value × Nat) => cs.setIfInBounds (off + x.2) x.1) (⟨z⟩ : Array Value) = (⟨z'⟩ : Array Value) := by
                rw [← hf, ← Array.foldl_toList]; simp
              rw [this]
              exact fillE_fill h

def fldPl (fs : List (Nat × Nat × Nat)) (i : Nat) : Option (Nat × Nat) := match fldE fs i with | some (_, off, sz) => some (off, sz) | none => none
theorem Flds.places {P : Program} : ∀ {fs : List Field} {s : List (Nat × Nat × Nat)}, Flds P fs s → ∀ w, (fs.mapM (m := Sem) fun f => do pure (f.offset, ← Go.sizeOf f.type)).run P w = .ok (s.map fun x => (x.2.1, x.2.2)) w
  | [], [], _, w => by simp
  | [], _ :: _, h, _ => h.elim
  | _ :: _, [], h, _ => h.elim
  | f :: fs, (t, o, z) :: s, h, w => by
    obtain ⟨h1, h2, h3, _, h5⟩ := h
    have ih := Flds.places h5 w
    simp only [bind_pure_comp] at ih
    simp [h1, h2, h3, ih]
theorem fldPl_eq : ∀ (fs : List (Nat × Nat × Nat)) (i : Nat), fldPl fs i = (fs.map fun x => (x.2.1, x.2.2))[i]?
  | [], i => by simp [fldPl, fldE]
  | (t, o, z) :: r, 0 => by simp [fldPl, fldE]
  | (t, o, z) :: r, i + 1 => by
    have := fldPl_eq r i
    simp only [fldPl, fldE] at this ⊢
    simpa using this

section
variable {X : Cx} {σ : Env} {L L' : Lst} {d : Option Nat} {ty : TypeId} {pos : String} {af : Array Edge} {g : Option (Nat × Bool)} {x y c : Operand} {v vx vy : Value} {t : TypeId}
variable {all : Array Oper} {rest : List Oper} {K : Env → Lst → Prop} {r : TRow} {dd : Nat}

theorem Ok1.build {fs : List (Nat × Nat × Nat)} {z cs : List Value} {ps : List (Nat × Operand)} {vs : List (Nat × Value)} (ht : X.tb.row t = some r) (hk : r.k = .strct fs) (hz : cellsE r.zero = some z) (hp : evp σ ps = some vs) (hf : fillE (fldPl fs) z vs = some cs) :
    Ok1 X ⟨d, .build t ps.toArray, ty, pos, af, g⟩ σ L (.agg ⟨cs⟩) := .mk fun a w ha hw => by
  have h1 := (X.tb.get ht).is
  rw [hk] at h1
  obtain ⟨fields, h2, h3⟩ := h1
  have hz' := cellsE_eq hz
  have hfl := fillE_fill hf
  have hpl : (fldPl fs) = fun i => (fs.map fun x => (x.2.1, x.2.2))[i]? := funext (fldPl_eq fs)
  rw [hpl] at hfl
  have hm : (fields.mapM (m := Sem) fun f => do pure (f.offset, ← Go.sizeOf f.type)).run X.P w = .ok (fs.map fun x => (x.2.1, x.2.2)).toArray w := by
    rw [← Array.toArray_toList (xs := fields), List.mapM_toArray]
    simp only [Sem.run_map]
    erw [h3.places w]
    rfl
  have he := evp_eq ha hp
  simp only [execOp, Instr.build, Sem.run_bind, (X.tb.get ht).zero, Result.andThen_ok, run_underlying h2, hz', List.map_toArray, he]
  erw [hm]
  simp only [Result.andThen_ok, List.getElem?_toArray]
  rw [hfl]
  rfl
theorem Ok1.buildA {n e : Nat} {z cs : List Value} {ps : List (Nat × Operand)} {vs : List (Nat × Value)} {re : TRow} (ht : X.tb.row t = some r) (hk : r.k = .arr n e) (he : X.tb.row e = some re) (hz : cellsE r.zero = some z) (hp : evp σ ps = some vs) (hf : fillE (fun i => some (i * re.size, re.size)) z vs = some cs) :
    Ok1 X ⟨d, .build t ps.toArray, ty, pos, af, g⟩ σ L (.agg ⟨cs⟩) := .mk fun a w ha hw => by
  have h2 := (X.tb.get ht).is
  rw [hk] at h2
  simp only [TK.is] at h2
  have hz' := cellsE_eq hz
  have hfl := fillE_fill hf
  have hev := evp_eq ha hp
  simp only [execOp, Instr.build, Sem.run_bind, (X.tb.get ht).zero, Result.andThen_ok, run_underlying h2, hz', List.map_toArray, hev, (X.tb.get he).size]
  rw [hfl]
  rfl

def repE (z : List Value) : Nat → Option (List Value)
  | 0 => some []
  | n + 1 => match repE z n with | some r => copyE (z ++ r) | none => none
theorem repE_spec {z : List Value} : ∀ {n : Nat} {r : List Value}, repE z n = some r → r.length = n * z.length ∧ ∀ i, i < n * z.length → r[i]? = z[i % z.length]?
  | 0, r, h => by simp [repE] at h; subst h; simp
  | n + 1, r, h => by
    simp only [repE] at h
    cases e : repE z n with
    | none => rw [e] at h; cases h
    | some s =>
      rw [e] at h
      obtain ⟨h1, h2⟩ := repE_spec e
      rw [copyE_eq h]
      refine ⟨by simp [h1, Nat.add_mul]; omega, fun i hi => ?_⟩
      rw [List.getElem?_append]
      by_cases hl : i < z.length
      · rw [if_pos hl, Nat.mod_eq_of_lt hl]
      · rw [if_neg hl, h2 _ (by rw [Nat.add_mul] at hi; omega)]
        congr 1
        conv => rhs; rw [show i = i - z.length + z.length by omega]
        rw [Nat.add_mod_right]
theorem repE_arr {z r : List Value} {n : Nat} (hz : z.length ≠ 0) (h : repE z n = some r) : (Array.range (n * z.length)).map (fun i => (Array.mk z)[i % (Array.mk z).size]!) = ⟨r⟩ := by
  obtain ⟨h1, h2⟩ := repE_spec h
  apply Array.ext_getElem?
  intro i
  by_cases hi : i < n * z.length
  · have hm : i % z.length < z.length := Nat.mod_lt _ (by omega)
    have := h2 i hi
    simp [Array.getElem?_map, Array.getElem?_range, hi, this]
    rw [List.getElem?_eq_getElem hm]
    simp [hm]
  · simp [Array.getElem?_map, Array.getElem?_range, hi]
    omega

theorem R.buildSlice {e n : Nat} {z z0 cs : List Value} {ps : List (Nat × Operand)} {vs : List (Nat × Value)} {re : TRow} (hn : Nat.blt dd X.n = true) (ht : X.tb.row t = some r) (hk : r.k = .slice e) (he : X.tb.row e = some re) (hz : cellsE re.zero = some z) (hzl : z.length = re.size) (hz0 : Nat.blt 0 re.size = true) (hn0 : Nat.blt 0 n = true) (hbig : Nat.ble (n * re.size) 1000 = true)
    (hr : repE z n = some z0) (hp : evp σ ps = some vs) (hf : fillE (fun i => some (i * re.size, re.size)) z0 vs = some cs)
    (h : ∀ b, R X all rest K ((dd, .slice (some ⟨b, 0, none⟩) n n) :: σ) ((b, .cells ⟨cs⟩ e (0, 0)) :: L)) : R X all (⟨some dd, .buildSlice t n ps.toArray, ty, pos, af, none⟩ :: rest) K σ L :=
  R.value rfl rfl hn fun a w ha hw => by
    refine ⟨.slice (some ⟨w.heap.size, 0, none⟩) n n, w.alloc (.cells ⟨cs⟩ e (0, 0)), _, ?_, hw.alloc _, h _⟩
    have h2 := (X.tb.get ht).is
    rw [hk] at h2
    simp only [TK.is] at h2
    have hz' := cellsE_eq hz
    have hfl := fillE_fill hf
    have hev := evp_eq ha hp
    have h0 : 0 < re.size := blt_lt hz0
    have h0' : 0 < n := blt_lt hn0
    have hb : n * re.size ≤ 1000 := Nat.le_of_ble_eq_true hbig
    have hne : n * re.size ≠ 0 := Nat.mul_ne_zero (by omega) (by omega)
    have hrep := repE_arr (n := n) (by omega) hr
    rw [hzl] at hrep
    simp only [execOp, Instr.buildSlice, Sem.run_bind, run_underlying h2, Result.andThen_ok, (X.tb.get he).size, List.map_toArray, hev]
    rw [if_neg (by omega)]
    simp only [Sem.run_pure, Result.andThen_ok, if_neg hne, Sem.run_bind, (X.tb.get he).zero, hz', hrep, hfl, newRow, run_newObj]
    rfl
end
end Go.Proofs.Ytligpachgcmkcaa
/- Calls by contract; a function's contract out of its walk. -/
set_option linter.unusedSimpArgs false
set_option linter.unusedVariables false
namespace Go.Proofs.Ytligpachgcmkcaa
open Go.RowKit Go.Shelf

/-- Called with these values, in whatever world, it returns v; nothing that was there has changed. -/
structure CallP (P : Program) (f : FuncId) (vs : List Value) (v : Value) : Prop where
  run : ∀ w, Calls P f vs.toArray w fun e w' => e = .returned v ∧ Chg [] w w'
/-- The same, in this world. -/
structure CallW (P : Program) (f : FuncId) (vs : List Value) (w : World) (R : Value → World → Prop) : Prop where
  run : Calls P f vs.toArray w fun e w' => ∃ v, e = .returned v ∧ R v w' ∧ Chg [] w w'

section
variable {X : Cx} {σ : Env} {L L' : Lst} {dd : Nat} {ty : TypeId} {pos : String} {af : Array Edge} {x y c : Operand} {v vx vy : Value} {t : TypeId} {f : FuncId} {ats : Array TypeId}
variable {all : Array Oper} {rest : List Oper} {K : Env → Lst → Prop} {r : TRow} {xs : List Operand} {vs : List Value}

theorem R.callP (he : X.tb.fns.contains f = true) (hx : evs σ xs = some vs) (hn : Nat.blt dd X.n = true) (hc : CallP X.P f vs v) (h : R X all rest K ((dd, v) :: σ) L) :
    R X all (⟨some dd, .call { callee := .value (.func f), args := xs.toArray, argTypes := ats }, ty, pos, af, none⟩ :: rest) K σ L :=
  R.call (α := Unit) (v := fun _ => v) (L' := fun _ => L) (I := fun _ => True) he hx hn (fun w hw => (hc.run w).mono fun e w' ⟨h1, h2⟩ => ⟨(), h1, hw.step h2, trivial⟩) (fun _ _ => h)
/-- The value is one of those of which R1 holds (in no world's terms). -/
theorem R.callW {R1 : Value → Prop} (he : X.tb.fns.contains f = true) (hx : evs σ xs = some vs) (hn : Nat.blt dd X.n = true) (hc : ∀ w, Hp X.w0 X.S L w → CallW X.P f vs w fun v _ => R1 v) (h : ∀ v, R1 v → R X all rest K ((dd, v) :: σ) L) :
    R X all (⟨some dd, .call { callee := .value (.func f), args := xs.toArray, argTypes := ats }, ty, pos, af, none⟩ :: rest) K σ L :=
  R.call (α := Value) (v := fun v => v) (L' := fun _ => L) (I := R1) he hx hn (fun w hw => (hc w hw).run.mono fun e w' ⟨v, h1, h2, h3⟩ => ⟨v, h1, hw.step h3, h2⟩) h
/-- A call in a world of which facts are known: one value. -/
theorem R.callV (he : X.tb.fns.contains f = true) (hx : evs σ xs = some vs) (hn : Nat.blt dd X.n = true) (hc : ∀ w, Hp X.w0 X.S L w → CallW X.P f vs w fun u _ => u = v) (h : R X all rest K ((dd, v) :: σ) L) :
    R X all (⟨some dd, .call { callee := .value (.func f), args := xs.toArray, argTypes := ats }, ty, pos, af, none⟩ :: rest) K σ L :=
  R.callW (R1 := fun u => u = v) he hx hn hc fun u hu => by subst hu; exact h

theorem enterP {P : Program} (tb : Tb P) {f : FuncId} {fn : Func} {c : Code} {vs : List Value} {n : Nat} {v : Value}
    (hf : P.funcs[f]? = some fn) (hb : fn.body = some c) (hn : fn.ntmps = n) (hvn : Nat.ble vs.length n = true)
    (h : ∀ w, T ⟨P, tb, n, w, []⟩ c (retQ ⟨P, tb, n, w, []⟩ fn.results.toList fun u _ => u = v) (number 0 vs) []) : CallP P f vs v :=
  ⟨fun w => (enter hf hb hn (Nat.le_of_ble_eq_true hvn) (Hp.start w []) (h w)).mono fun e w' ⟨u, L', h1, h2, h3⟩ => ⟨by rw [h1, h2], h3.chg⟩⟩
theorem enterW {P : Program} (tb : Tb P) {f : FuncId} {fn : Func} {c : Code} {vs : List Value} {n : Nat} {R1 : Value → Prop} {w : World}
    (hf : P.funcs[f]? = some fn) (hb : fn.body = some c) (hn : fn.ntmps = n) (hvn : Nat.ble vs.length n = true)
    (h : T ⟨P, tb, n, w, []⟩ c (retQ ⟨P, tb, n, w, []⟩ fn.results.toList fun u _ => R1 u) (number 0 vs) []) : CallW P f vs w fun u _ => R1 u :=
  ⟨(enter hf hb hn (Nat.le_of_ble_eq_true hvn) (Hp.start w []) h).mono fun e w' ⟨u, L', h1, h2, h3⟩ => ⟨u, h1, h2, h3.chg⟩⟩

theorem Ok1.pick_h {b : Bool} {d : Option Nat} {g : Option (Nat × Bool)} (hc : ev σ c = some (.bool b)) (hb : b = true) (h : ev σ x = some v) : Ok1 X ⟨d, .pick c x y, ty, pos, af, g⟩ σ L v := .pick_t (hb ▸ hc) h
theorem Ok1.pick_n {b : Bool} {d : Option Nat} {g : Option (Nat × Bool)} (hc : ev σ c = some (.bool b)) (hb : b = false) (h : ev σ y = some v) : Ok1 X ⟨d, .pick c x y, ty, pos, af, g⟩ σ L v := .pick_f (hb ▸ hc) h
theorem T.cond_h {X : Cx} {Q : Post} {z : Operand} {b : Bool} {x y : Code} (hc : ev σ z = some (.bool b)) (hb : b = true) (h : T X x Q σ L) : T X (.cond z x y) Q σ L := .cond_t (hb ▸ hc) h
theorem T.cond_n {X : Cx} {Q : Post} {z : Operand} {b : Bool} {x y : Code} (hc : ev σ z = some (.bool b)) (hb : b = false) (h : T X y Q σ L) : T X (.cond z x y) Q σ L := .cond_f (hb ▸ hc) h
end
end Go.Proofs.Ytligpachgcmkcaa
/- Regions that draw their order: what only reads, in every world of a class, is taken first; the rest one by one. -/
set_option linter.unusedSimpArgs false
set_option linter.unusedVariables false
namespace Go.Proofs.Ytligpachgcmkcaa
open Go.RowKit Go.Shelf

/-- Like wpAnyH; it holds in every later world too (one that has new blocks besides). -/
def wpAnyC (P : Program) (md : Region.Mode) (ops : Array Oper) (Q : Exit → Act → World → Prop) (S : World → Prop) : Nat → Array Bool → Act → World → Prop
  | 0, listed, a, w => Region.ready md ops listed = [] ∧ ∀ w', Chg [] w w' → Q .normal a w'
  | fuel + 1, listed, a, w => ∀ w', Chg [] w w' → (Region.ready md ops listed = [] → Q .normal a w') ∧
    ∀ i ∈ Region.ready md ops listed, wpOp P ops Q i (fun a' w'' => S w'' ∧ wpAnyC P md ops Q S fuel (listed.setIfInBounds i true) a' w'') a w'
section
variable {P : Program} {ops : Array Oper} {Q : Exit → Act → World → Prop} {md : Region.Mode} {S : World → Prop}
theorem wpAnyC_up : ∀ {fuel : Nat} {listed : Array Bool} {a : Act} {w w' : World}, wpAnyC P md ops Q S fuel listed a w → Chg [] w w' → wpAnyC P md ops Q S fuel listed a w'
  | 0, _, _, _, _, h, hc => ⟨h.1, fun w2 h2 => h.2 w2 (hc.trans h2)⟩
  | _ + 1, _, _, _, _, h, hc => fun w2 h2 => h w2 (hc.trans h2)
theorem wpAny_of_C : ∀ (fuel : Nat) (listed : Array Bool) (a : Act) (w : World), wpAnyC P md ops Q S fuel listed a w → wpAny P md ops Q fuel listed a w
  | 0, _, _, w, h => ⟨h.1, h.2 w (Chg.refl [] w)⟩
  | fuel + 1, _, _, w, h => ⟨(h w (Chg.refl [] w)).1, fun i hi => wpOp_mono (fun a' w' h' => wpAny_of_C fuel _ a' w' h'.2) ((h w (Chg.refl [] w)).2 i hi)⟩
/-- The value is there at once, or by a call that makes new blocks at most. -/
def Good (P : Program) (v : Value) (w : World) (r : Result Next) : Prop := r = .ok (.value v) w ∨ ∃ f args, r = .ok (.enter f args) w ∧ Calls P f args w fun e w' => e = .returned v ∧ Chg [] w w'
/-- Operation o yields v in every world that meets S, and makes new blocks at most. -/
def CalmIf (P : Program) (ops : Array Oper) (S : World → Prop) (o : Oper) (v : Value) (a : Act) : Prop :=
  (Region.wanted o (yielded ops a.tmps) = true ∧ ∀ w, S w → Good P v w ((execOp a.eval o).run P w)) ∨ (Region.wanted o (yielded ops a.tmps) = false ∧ v = undef)
theorem YieldsIf.calm {o : Oper} {v : Value} {a : Act} (h : YieldsIf P ops S o v a) : CalmIf P ops S o v a := h.imp (fun ⟨h1, h2⟩ => ⟨h1, fun w hw => .inl (h2 w hw)⟩) id
theorem CalmIf.wpOp {i : Nat} {o : Oper} {v : Value} {a : Act} (hi : ops[i]? = some o) (hy : CalmIf P ops S o v a) {K : Act → World → Prop} {w : World} (hS : S w) (h : ∀ w', Chg [] w w' → K (a.put o.dst v) w') : wpOp P ops Q i K a w := by
  unfold Go.wpOp
  simp only [hi]
  rcases hy with ⟨hw, hv⟩ | ⟨hw, rfl⟩
  · simp only [hw, if_true]
    left
    unfold Oper.wp
    rcases hv w hS with h1 | ⟨f, args, h1, h2⟩
    · rw [h1]; exact h w (Chg.refl [] w)
    · rw [h1]
      refine Calls.mono h2 ?_
      rintro e w' ⟨rfl, hc⟩
      exact h w' hc
  · simp only [hw, Bool.false_eq_true, if_false]; exact h w (Chg.refl [] w)
theorem CalmIf.of_same {o : Oper} {v : Value} {a a' : Act} (hy : CalmIf P ops S o v a) (he : execOp a'.eval o = execOp a.eval o) (hw : Region.wanted o (yielded ops a'.tmps) = Region.wanted o (yielded ops a.tmps)) : CalmIf P ops S o v a' := by
  unfold CalmIf at *
  rw [he, hw]
  exact hy
theorem wpOp_putC {j : Nat} {oi oj : Oper} {v : Value} (hj : ops[j]? = some oj) (hap : oi.apart ops oj = true)
    (hsi : ∀ cs b, oi.op ≠ .select cs b) (hsj : ∀ cs b, oj.op ≠ .select cs b)
    (hQ : ∀ c a w, Q (.panic c) (a.put oi.dst v) w → Q (.panic c) a w) {K : Act → World → Prop} {a : Act} {w : World}
    (hy : CalmIf P ops S oi v a) (h : wpOp P ops Q j K (a.put oi.dst v) w) :
    wpOp P ops Q j (fun a' w' => CalmIf P ops S oi v a' ∧ K (a'.put oi.dst v) w') a w := by
  obtain ⟨h1, h2, h3⟩ := Oper.apart_spec hap
  have keep : ∀ (a : Act), CalmIf P ops S oi v a → ∀ u, CalmIf P ops S oi v (a.put oj.dst u) := fun a hy u =>
    hy.of_same (execOp_put oi hsi a oj.dst u h3) (wanted_put oi a oj.dst u h3)
  have keepD : ∀ d, CalmIf P ops S oi v { a with defers := d :: a.defers } := fun d => hy.of_same rfl rfl
  unfold wpOp at *
  simp only [hj] at *
  rw [wanted_put oj a oi.dst v h1] at h
  split
  · rename_i hw
    simp only [hw, if_true] at h
    rcases h with h | ⟨hasks, hlets⟩
    case inr => exact .inr ⟨by unfold Oper.asks at *; rw [execOp_put oj hsj a oi.dst v h1] at hasks; exact hasks, hlets⟩
    refine .inl ?_
    unfold Oper.wp at *
    rw [execOp_put oj hsj a oi.dst v h1] at h
    generalize (execOp a.eval oj).run P w = r at *
    cases r with
    | ok n w' =>
      cases n <;> simp only [Oper.upon] at h ⊢
      case value u => exact ⟨keep a hy u, by rw [← Act.put_comm a v u h2]; exact h⟩
      case skip => exact ⟨keep a hy _, by rw [← Act.put_comm a v undef h2]; exact h⟩
      case defer d =>
        refine ⟨keep _ (keepD d) _, ?_⟩
        rw [← Act.put_comm _ v undef h2, ← Act.put_defers]
        exact h
      case enter f args =>
        refine Calls.mono h fun e w'' he => ?_
        cases e with
        | returned u => exact ⟨keep a hy u, by rw [← Act.put_comm a v u h2]; exact he⟩
        | panicked c => exact hQ _ _ _ he
        | outgrown => exact he
      case row row args => exact Rows.mono h fun u w'' he => ⟨keep a hy u, by rw [← Act.put_comm a v u h2]; exact he⟩
    | halt x w' =>
      cases x <;> simp only [Oper.upon] at h ⊢
      case panic u => exact hQ _ _ _ h
  · rename_i hw
    simp only [hw] at h
    exact ⟨keep a hy _, by rw [← Act.put_comm a v undef h2]; exact h⟩
theorem wpAnyC_first {i : Nat} {oi : Oper} {v : Value} (hi : ops[i]? = some oi) (hsel : ∀ (j : Nat) (o : Oper) cs b, ops[j]? = some o → o.op ≠ .select cs b)
    (hQ : ∀ c a w, Q (.panic c) (a.put oi.dst v) w → Q (.panic c) a w) (hSt : ∀ w w', S w → Chg [] w w' → S w') :
    ∀ (fuel : Nat) (listed : Array Bool) (a : Act) (w : World),
      (∀ j oj, ops[j]? = some oj → j ≠ i → listed.getD j true = false → (∀ e ∈ oj.after, Region.binds md e = true → e.on ≠ i) → oi.apart ops oj = true) →
      i ∈ Region.ready md ops listed → CalmIf P ops S oi v a → S w →
      wpAnyC P md ops Q S fuel (listed.setIfInBounds i true) (a.put oi.dst v) w → wpAnyC P md ops Q S (fuel + 1) listed a w := by
  intro fuel
  induction fuel with
  | zero =>
    intro listed a w _ hr hy hS H w' hw'
    refine ⟨fun h => (by rw [h] at hr; cases hr), fun j hj => ?_⟩
    by_cases hji : j = i
    · subst hji; exact hy.wpOp hi (hSt _ _ hS hw') fun w2 h2 => ⟨hSt _ _ hS (hw'.trans h2), wpAnyC_up H (hw'.trans h2)⟩
    · have := ready_mono hj hji
      rw [H.1] at this
      cases this
  | succ fuel ih =>
    intro listed a w hfree hr hy hS H w' hw'
    refine ⟨fun h => (by rw [h] at hr; cases hr), fun j hj => ?_⟩
    by_cases hji : j = i
    · subst hji; exact hy.wpOp hi (hSt _ _ hS hw') fun w2 h2 => ⟨hSt _ _ hS (hw'.trans h2), wpAnyC_up H (hw'.trans h2)⟩
    · have h1 := (H w' hw').2 j (ready_mono hj hji)
      obtain ⟨hjun, oj, hoj, hall⟩ := mem_ready.1 hj
      have hnot : ∀ e ∈ oj.after, Region.binds md e = true → e.on ≠ i := fun e he hb heq => by
        have h1 := hall e he hb
        have h0 := (mem_ready.1 hr).1
        rw [heq] at h1
        rcases Nat.lt_or_ge i listed.size with h' | h'
        · simp [h'] at h0 h1; rw [h0] at h1; cases h1
        · simp [Array.getElem?_eq_none h'] at h1
      have h2 := wpOp_putC hoj (hfree j oj hoj hji hjun hnot) (fun cs b => hsel i oi cs b hi) (fun cs b => hsel j oj cs b hoj) hQ hy h1
      have hfree' : ∀ k ok, ops[k]? = some ok → k ≠ i → (listed.setIfInBounds j true).getD k true = false →
          (∀ e ∈ ok.after, Region.binds md e = true → e.on ≠ i) → oi.apart ops ok = true := fun k ok hk hki hun hno => by
        refine hfree k ok hk hki ?_ hno
        by_cases hjk : j = k
        · subst hjk; exact hjun
        · rw [getD_set_ne true hjk] at hun; exact hun
      refine wpOp_mono (fun a' w' h3 => ⟨h3.2.1, ih (listed.setIfInBounds j true) a' w' hfree' (ready_mono hr (Ne.symm hji)) h3.1 h3.2.1 ?_⟩) h2
      rw [Array.setIfInBounds_comm _ _ hji]
      exact h3.2.2
theorem wpAnyC_all {rs : List Nat} {fuel : Nat} {listed : Array Bool} {a : Act} {w : World} (hr : Region.ready md ops listed = rs) (hne : rs ≠ [])
    (h : ∀ w', Chg [] w w' → ∀ i ∈ rs, wpOp P ops Q i (fun a' w' => S w' ∧ wpAnyC P md ops Q S fuel (listed.setIfInBounds i true) a' w') a w') : wpAnyC P md ops Q S (fuel + 1) listed a w :=
  fun w' hw' => ⟨fun h0 => absurd (hr ▸ h0) hne, hr ▸ h w' hw'⟩
theorem wpAnyC_done {listed : Array Bool} {a : Act} {w : World} (hr : Region.ready md ops listed = []) (h : ∀ w', Chg [] w w' → Q .normal a w') : ∀ fuel, wpAnyC P md ops Q S fuel listed a w
  | 0 => ⟨hr, h⟩
  | _ + 1 => fun w' hw' => ⟨fun _ => h w' hw', by rw [hr]; simp⟩
theorem wp_region_calm {id : Nat} {a : Act} {w : World} (hm : P.follows .mixedOrders = true) (h : wpAnyC P .any ops Q S ops.size (Array.replicate ops.size false) a { w with drawn := w.drawn + 1 }) : (Code.region id ops true).wp P Q a w :=
  wp_region_any hm (wpAny_of_C _ _ _ _ h)
end
theorem wpAnyC_take {P : Program} {ops : Array Oper} {Q : Exit → Act → World → Prop} {md : Region.Mode} {w0 : World} {S : List Nat} {C : Lst} {i : Nat} {oi : Oper} {v : Value} {fuel : Nat} {listed : Array Bool} {a : Act} {w : World} (hi : ops[i]? = some oi)
    (hs : Region.noSelect ops = true) (hf : Region.free md ops listed i = true) (hr : (Region.ready md ops listed).contains i = true)
    (hQ : ∀ c a w, Q (.panic c) (a.put oi.dst v) w → Q (.panic c) a w) (hy : YieldsIf P ops (Hp w0 S C) oi v a) (hS : Hp w0 S C w)
    (h : wpAnyC P md ops Q (Hp w0 S C) fuel (listed.setIfInBounds i true) (a.put oi.dst v) w) : wpAnyC P md ops Q (Hp w0 S C) (fuel + 1) listed a w :=
  wpAnyC_first hi (Region.noSelect_spec hs) hQ (fun _ _ h hc => h.step hc) fuel listed a w (Region.free_spec hi hf) (by simpa using hr) (YieldsIf.calm hy) hS h
theorem wpAnyC_call {P : Program} {ops : Array Oper} {Q : Exit → Act → World → Prop} {md : Region.Mode} {w0 : World} {S : List Nat} {C : Lst} {i : Nat} {oi : Oper} {v : Value} {fuel : Nat} {listed : Array Bool} {a : Act} {w : World} (hi : ops[i]? = some oi)
    (hs : Region.noSelect ops = true) (hf : Region.free md ops listed i = true) (hr : (Region.ready md ops listed).contains i = true)
    (hQ : ∀ c a w, Q (.panic c) (a.put oi.dst v) w → Q (.panic c) a w) (hy : CalmIf P ops (Hp w0 S C) oi v a) (hS : Hp w0 S C w)
    (h : wpAnyC P md ops Q (Hp w0 S C) fuel (listed.setIfInBounds i true) (a.put oi.dst v) w) : wpAnyC P md ops Q (Hp w0 S C) (fuel + 1) listed a w :=
  wpAnyC_first hi (Region.noSelect_spec hs) hQ (fun _ _ h hc => h.step hc) fuel listed a w (Region.free_spec hi hf) (by simpa using hr) hy hS h

/-- Whatever order is picked from here on; C: blocks that nothing in the region touches. -/
structure A (X : Cx) (all : Array Oper) (C : Lst) (fuel : Nat) (listed : Array Bool) (K : Env → Lst → Prop) (σ : Env) (L : Lst) : Prop where
  run : ∀ a w, Mod X.n a σ → Hp X.w0 X.S L w → Hp X.w0 X.S C w → wpAnyC X.P .any all (X.liftK K) (Hp X.w0 X.S C) fuel listed a w

section
variable {X : Cx} {all : Array Oper} {C L : Lst} {fuel : Nat} {listed : Array Bool} {K : Env → Lst → Prop} {σ : Env} {v : Value} {d : Nat} {op : Op} {type : TypeId} {pos : String} {after : Array Edge}

theorem Cx.liftK_panic (c : List PanicEntry) (a a' : Act) (w : World) (h : X.liftK K (.panic c) a w) : X.liftK K (.panic c) a' w := by cases h.1

theorem T.draw {id : Nat} {ops : Array Oper} {Q : Post} (h : A X ops L ops.size (Array.replicate ops.size false) (Q .normal) σ L) : T X (.region id ops true) Q σ L :=
  ⟨fun a w ha hw => by
    have hw' := hw.step (Chg.drew [] w)
    refine wp_mono (wp_region_calm X.tb.mix (h.run a _ ha hw' hw')) fun e a w ⟨he, σ, L, h1, h2, h3⟩ => ⟨σ, L, h1, h2, he ▸ h3⟩⟩
/-- The class names the blocks at these places alone (the others are written in the region). -/
theorem T.drawC {id : Nat} {ops : Array Oper} {Q : Post} (is : List Nat) (hn : is.Nodup) (h : A X ops (pick L is) ops.size (Array.replicate ops.size false) (Q .normal) σ L) : T X (.region id ops true) Q σ L :=
  ⟨fun a w ha hw => by
    have hw' := hw.step (Chg.drew [] w)
    refine wp_mono (wp_region_calm X.tb.mix (h.run a _ ha hw' (hw'.pick hn))) fun e a w ⟨he, σ, L, h1, h2, h3⟩ => ⟨σ, L, h1, h2, he ▸ h3⟩⟩

theorem Mod.yielded {n : Nat} {a : Act} {j dj : Nat} {b : Bool} (ha : Mod n a σ) (hj : (all[j]?).bind (·.dst) = some dj) (hb : look σ dj = some (.bool b)) : yielded all a.tmps j = some b := by
  have := ha.ok dj (.bool b) hb
  simp only [Array.getD] at this
  have hlt : dj < a.tmps.size := by
    rcases Nat.lt_or_ge dj a.tmps.size with h | h
    · exact h
    · rw [dif_neg (by omega)] at this; cases this
  rw [dif_pos hlt] at this
  have h2 : a.tmps[dj]? = some (.bool b) := by rw [Array.getElem?_eq_getElem hlt]; exact congrArg some this
  simp [Go.yielded, hj, h2]

theorem A.take (i : Nat) (hi : all[i]? = some ⟨some d, op, type, pos, after, none⟩) (hn : Nat.blt d X.n = true) (hs : Region.noSelect all = true) (hf : Region.free .any all listed i = true) (hr : (Region.ready .any all listed).contains i = true)
    (ho : Ok1 X ⟨some d, op, type, pos, after, none⟩ σ C v) (h : A X all C fuel (listed.setIfInBounds i true) K ((d, v) :: σ) L) : A X all C (fuel + 1) listed K σ L :=
  ⟨fun a w ha hw hC => wpAnyC_take (v := v) hi hs hf hr (fun c a w => Cx.liftK_panic c _ _ w) (.inl ⟨rfl, fun w hw => ho.run a w ha hw⟩) hC (h.run _ _ (ha.put (blt_lt hn) v) hw hC)⟩
theorem A.takeG (i : Nat) {j dj : Nat} {want : Bool} (hi : all[i]? = some ⟨some d, op, type, pos, after, some (j, want)⟩) (hn : Nat.blt d X.n = true) (hs : Region.noSelect all = true) (hf : Region.free .any all listed i = true) (hr : (Region.ready .any all listed).contains i = true)
    (hj : (all[j]?).bind (·.dst) = some dj) (hb : look σ dj = some (.bool want))
    (ho : Ok1 X ⟨some d, op, type, pos, after, some (j, want)⟩ σ C v) (h : A X all C fuel (listed.setIfInBounds i true) K ((d, v) :: σ) L) : A X all C (fuel + 1) listed K σ L :=
  ⟨fun a w ha hw hC => wpAnyC_take (v := v) hi hs hf hr (fun c a w => Cx.liftK_panic c _ _ w) (.inl ⟨by simp [Region.wanted, ha.yielded hj hb], fun w hw => ho.run a w ha hw⟩) hC (h.run _ _ (ha.put (blt_lt hn) v) hw hC)⟩
theorem A.skipG (i : Nat) {j dj : Nat} {want : Bool} (hi : all[i]? = some ⟨some d, op, type, pos, after, some (j, want)⟩) (hn : Nat.blt d X.n = true) (hs : Region.noSelect all = true) (hf : Region.free .any all listed i = true) (hr : (Region.ready .any all listed).contains i = true)
    (hj : (all[j]?).bind (·.dst) = some dj) (hb : look σ dj = some (.bool (!want)))
    (h : A X all C fuel (listed.setIfInBounds i true) K ((d, undef) :: σ) L) : A X all C (fuel + 1) listed K σ L :=
  ⟨fun a w ha hw hC => wpAnyC_take (v := undef) hi hs hf hr (fun c a w => Cx.liftK_panic c _ _ w) (.inr ⟨by simp [Region.wanted, ha.yielded hj hb], rfl⟩) hC (h.run _ _ (ha.put (blt_lt hn) undef) hw hC)⟩
/-- A call that yields one value in every world of the class is taken first too. -/
theorem CallP.w {P : Program} {f : FuncId} {vs : List Value} {v : Value} (h : CallP P f vs v) (w : World) : CallW P f vs w fun u _ => u = v := ⟨(h.run w).mono fun e w' ⟨h1, h2⟩ => ⟨v, h1, rfl, h2⟩⟩
theorem CalmIf.ofCall {f : FuncId} {xs : List Operand} {vs : List Value} {ats : Array TypeId} {g : Option (Nat × Bool)} {a : Act} (ha : Mod X.n a σ) (he : X.tb.fns.contains f = true) (hx : evs σ xs = some vs)
    (hc : ∀ w, Hp X.w0 X.S C w → CallW X.P f vs w fun u _ => u = v) (hw : Region.wanted ⟨some d, .call { callee := .value (.func f), args := xs.toArray, argTypes := ats }, type, pos, after, g⟩ (yielded all a.tmps) = true) :
    CalmIf X.P all (Hp X.w0 X.S C) ⟨some d, .call { callee := .value (.func f), args := xs.toArray, argTypes := ats }, type, pos, after, g⟩ v a := by
  refine .inl ⟨hw, fun w hC => .inr ⟨f, vs.toArray, ?_, ?_⟩⟩
  · have hargs : xs.toArray.map a.eval = vs.toArray := by
      have : ∀ (xs : List Operand) (vs : List Value), evs σ xs = some vs → xs.map a.eval = vs := by
        intro xs
        induction xs with
        | nil => intro vs h; simp [evs] at h; simp [← h]
        | cons x xs ih =>
          intro vs h
          simp only [evs] at h
          cases h1 : ev σ x with
          | none => simp [h1] at h
          | some u =>
            cases h2 : evs σ xs with
            | none => simp [h1, h2] at h
            | some us =>
              simp [h1, h2] at h
              subst h
              simp [ha.ev h1, ih us h2]
      rw [List.map_toArray, this xs vs hx]
    have := X.tb.ent he vs.toArray w
    simp only [execOp, resolve, Act.eval, hargs, Deferred.ofValue, Sem.run_bind, Sem.run_pure, Result.andThen_ok, invoke]
    simpa using this
  · exact (hc w hC).run.mono fun e w' ⟨u, h1, h2, h3⟩ => ⟨by rw [h1, h2], h3⟩
theorem A.call (i : Nat) {f : FuncId} {xs : List Operand} {vs : List Value} {ats : Array TypeId} (hi : all[i]? = some ⟨some d, .call { callee := .value (.func f), args := xs.toArray, argTypes := ats }, type, pos, after, none⟩) (hn : Nat.blt d X.n = true) (hs : Region.noSelect all = true) (hf : Region.free .any all listed i = true) (hr : (Region.ready .any all listed).contains i = true)
    (he : X.tb.fns.contains f = true) (hx : evs σ xs = some vs) (hc : ∀ w, Hp X.w0 X.S C w → CallW X.P f vs w fun u _ => u = v) (h : A X all C fuel (listed.setIfInBounds i true) K ((d, v) :: σ) L) : A X all C (fuel + 1) listed K σ L :=
  ⟨fun a w ha hw hC => wpAnyC_call (v := v) hi hs hf hr (fun c a w => Cx.liftK_panic c _ _ w) (CalmIf.ofCall ha he hx hc rfl) hC (h.run _ _ (ha.put (blt_lt hn) v) hw hC)⟩
theorem A.callG (i : Nat) {j dj : Nat} {want : Bool} {f : FuncId} {xs : List Operand} {vs : List Value} {ats : Array TypeId} (hi : all[i]? = some ⟨some d, .call { callee := .value (.func f), args := xs.toArray, argTypes := ats }, type, pos, after, some (j, want)⟩) (hn : Nat.blt d X.n = true) (hs : Region.noSelect all = true) (hf : Region.free .any all listed i = true) (hr : (Region.ready .any all listed).contains i = true)
    (hj : (all[j]?).bind (·.dst) = some dj) (hb : look σ dj = some (.bool want))
    (he : X.tb.fns.contains f = true) (hx : evs σ xs = some vs) (hc : ∀ w, Hp X.w0 X.S C w → CallW X.P f vs w fun u _ => u = v) (h : A X all C fuel (listed.setIfInBounds i true) K ((d, v) :: σ) L) : A X all C (fuel + 1) listed K σ L :=
  ⟨fun a w ha hw hC => wpAnyC_call (v := v) hi hs hf hr (fun c a w => Cx.liftK_panic c _ _ w) (CalmIf.ofCall ha he hx hc (by simp [Region.wanted, ha.yielded hj hb])) hC (h.run _ _ (ha.put (blt_lt hn) v) hw hC)⟩
/-- A test's bool that is not decided: two ways. -/
theorem A.bool {t : Nat} {b : Bool} (hb : look σ t = some (.bool b)) (h1 : b = true → A X all C fuel listed K ((t, .bool true) :: σ) L) (h2 : b = false → A X all C fuel listed K ((t, .bool false) :: σ) L) : A X all C fuel listed K σ L := by
  have key : ∀ a, Mod X.n a σ → Mod X.n a ((t, .bool b) :: σ) := fun a ha => by
    refine ⟨ha.size, ha.defers, fun u x hx => ?_⟩
    simp only [look] at hx
    cases e : Nat.beq t u with
    | true => rw [e] at hx; cases hx; rw [← Nat.eq_of_beq_eq_true e]; exact ha.ok _ _ hb
    | false => rw [e] at hx; exact ha.ok _ _ hx
  cases b with
  | true => exact ⟨fun a w ha hw hC => (h1 rfl).run a w (key a ha) hw hC⟩
  | false => exact ⟨fun a w ha hw hC => (h2 rfl).run a w (key a ha) hw hC⟩

theorem A.dec {t : Nat} {p : Prop} {inst : Decidable p} (hb : look σ t = some (.bool (decide p))) (h1 : p → A X all C fuel listed K ((t, .bool true) :: σ) L) (h2 : ¬ p → A X all C fuel listed K ((t, .bool false) :: σ) L) : A X all C fuel listed K σ L :=
  A.bool hb (fun e => h1 (of_decide_eq_true e)) (fun e => h2 (of_decide_eq_false e))
theorem Oper.wp_change {P : Program} {o : Oper} {a : Act} {w : World} {K K' : Act → World → Prop} {Q Q' : Exit → Act → World → Prop} (hK : ∀ a w, K a w → K' a w) (hP : ∀ c a w, Q (.panic c) a w → Q' (.panic c) a w) (hO : LetsOut Q → LetsOut Q')
    (h : o.wp P a w K Q) : o.wp P a w K' Q' := by
  unfold Oper.wp at *
  generalize (execOp a.eval o).run P w = r at *
  cases r with
  | ok n w' =>
    cases n <;> simp only [Oper.upon] at h ⊢ <;>
      first
        | exact hK _ _ h
        | exact Calls.mono h (fun e w'' he => by cases e <;> first | exact hK _ _ he | exact hP _ _ _ he | exact hO he)
        | exact Rows.mono h (fun _ _ he => hK _ _ he)
  | halt x w' => cases x <;> simp only [Oper.upon] at h ⊢ <;> first | exact hP _ _ _ h | exact h

theorem A.step {i : Nat} {o : Oper} (hi : all[i]? = some o)
    (h : R X all [o] (fun σ' L' => SubL C L' ∧ A X all C fuel (listed.setIfInBounds i true) K σ' L') σ L) {a : Act} {w : World} (ha : Mod X.n a σ) (hw : Hp X.w0 X.S L w) (hC : Hp X.w0 X.S C w) :
    wpOp X.P all (X.liftK K) i (fun a' w' => Hp X.w0 X.S C w' ∧ wpAnyC X.P .any all (X.liftK K) (Hp X.w0 X.S C) fuel (listed.setIfInBounds i true) a' w') a w := by
  have h1 := h.run a w ha hw
  have hnil : ∀ a' w', wpList X.P all (X.liftK fun σ' L' => SubL C L' ∧ A X all C fuel (listed.setIfInBounds i true) K σ' L') [] a' w' → Hp X.w0 X.S C w' ∧ wpAnyC X.P .any all (X.liftK K) (Hp X.w0 X.S C) fuel (listed.setIfInBounds i true) a' w' := by
    rintro a' w' ⟨_, σ', L', h2, h3, h4, h5⟩
    have hC' := h3.part h4 hC.nod
    exact ⟨hC', h5.run a' w' h2 h3 hC'⟩
  unfold wpList at h1
  unfold wpOp
  simp only [hi]
  by_cases hwd : Region.wanted o (yielded all a.tmps) = true
  · rw [if_pos hwd] at h1 ⊢
    refine h1.imp (Oper.wp_change hnil (fun c a w h => by cases h.1) fun ⟨a, w, h⟩ => by cases h.1) fun ⟨_, a, w, h⟩ => by cases h.1
  · rw [if_neg hwd] at h1 ⊢
    exact hnil _ _ h1
theorem A.one (i : Nat) {o : Oper} (hr : Region.ready .any all listed = [i]) (hi : all[i]? = some o)
    (h : R X all [o] (fun σ' L' => SubL C L' ∧ A X all C fuel (listed.setIfInBounds i true) K σ' L') σ L) : A X all C (fuel + 1) listed K σ L :=
  ⟨fun a w ha hw hC => wpAnyC_all hr (by simp) fun w' hc j hj => by
    have : j = i := by simpa using hj
    subst this
    exact A.step hi h ha (hw.step hc) (hC.step hc)⟩
theorem A.two (i j : Nat) {o o' : Oper} (hr : Region.ready .any all listed = [i, j]) (hi : all[i]? = some o) (hj : all[j]? = some o')
    (hA : R X all [o] (fun σ' L' => SubL C L' ∧ A X all C fuel (listed.setIfInBounds i true) K σ' L') σ L)
    (hB : R X all [o'] (fun σ' L' => SubL C L' ∧ A X all C fuel (listed.setIfInBounds j true) K σ' L') σ L) : A X all C (fuel + 1) listed K σ L :=
  ⟨fun a w ha hw hC => wpAnyC_all hr (by simp) fun w' hc k hk => by
    rcases List.mem_cons.1 hk with e | hk
    · subst e; exact A.step hi hA ha (hw.step hc) (hC.step hc)
    · have : k = j := by simpa using hk
      subst this; exact A.step hj hB ha (hw.step hc) (hC.step hc)⟩
theorem A.cast {listed' : Array Bool} (he : listed = listed') (h : A X all C fuel listed' K σ L) : A X all C fuel listed K σ L := he ▸ h
theorem A.done (hr : Region.ready .any all listed = []) (h : K σ L) : A X all C fuel listed K σ L :=
  ⟨fun a w ha hw hC => wpAnyC_done hr (fun w' hc => ⟨rfl, σ, L, ha, hw.step hc, h⟩) _⟩
theorem wpAnyC_mono {P : Program} {md : Region.Mode} {ops : Array Oper} {Q : Exit → Act → World → Prop} {S S' : World → Prop} (hS : ∀ w, S' w → S w) : ∀ (fuel : Nat) (listed : Array Bool) (a : Act) (w : World), wpAnyC P md ops Q S' fuel listed a w → wpAnyC P md ops Q S fuel listed a w
  | 0, _, _, _, h => h
  | fuel + 1, _, _, _, h => fun w2 hc => ⟨(h w2 hc).1, fun i hi => wpOp_mono (fun a' w' h' => ⟨hS _ h'.1, wpAnyC_mono hS fuel _ a' w' h'.2⟩) ((h w2 hc).2 i hi)⟩
/-- The class may grow: C' holds of what is known, and knows more than C. -/
theorem A.cls (C' : Lst) (h1 : SubL C' L) (h2 : SubL C C') (hn : ∀ w, Hp X.w0 X.S L w → (C'.map (·.1)).Nodup) (h : A X all C' fuel listed K σ L) : A X all C fuel listed K σ L :=
  ⟨fun a w ha hw hC => wpAnyC_mono (fun w' h' => h'.part h2 hC.nod) _ _ _ _ (h.run a w ha hw (hw.part h1 (hn w hw)))⟩
/-- All that is known now. -/
theorem A.clsL (h2 : SubL C L) (h : A X all L fuel listed K σ L) : A X all C fuel listed K σ L :=
  ⟨fun a w ha hw hC => wpAnyC_mono (fun w' h' => h'.part h2 hC.nod) _ _ _ _ (h.run a w ha hw hw)⟩
end
end Go.Proofs.Ytligpachgcmkcaa
/- Equality at types that are made of numbers, bools and strings alone; such values as a map's keys. -/
set_option linter.unusedSimpArgs false
set_option linter.unusedVariables false
namespace Go.Proofs.Ytligpachgcmkcaa
open Go.RowKit Go.Shelf

/-- The kinds of a plain type's cells, in order. -/
def flatFs (g : Nat → Option (List TK)) : List (Nat × Nat × Nat) → Nat → Option (List TK)
  | [], _ => some []
  | (t, off, sz) :: r, k => match Nat.beq off k with
    | false => none
    | true => match g t with
      | none => none
      | some ks => match Nat.beq ks.length sz with
        | false => none
        | true => match flatFs g r (k + sz) with
          | none => none
          | some rest => some (ks ++ rest)
def repK (ks : List TK) : Nat → List TK
  | 0 => []
  | n + 1 => ks ++ repK ks n
def flatE {P : Program} (tb : Tb P) : Nat → Nat → Option (List TK)
  | 0, _ => none
  | n + 1, t => match tb.row t with
    | none => none
    | some r => match r.k with
      | .int k => some [.int k]
      | .bool => some [.bool]
      | .string => some [.string]
      | .strct fs => flatFs (flatE tb n) fs 0
      | .arr m e => match tb.row e with
        | none => none
        | some re => match flatE tb n e with
          | none => none
          | some ks => match Nat.beq ks.length re.size with
            | false => none
            | true => some (repK ks m)
      | _ => none
def cellOk : TK → Value → Bool
  | .int k, .int k' _ => k == k'
  | .bool, .bool _ => true
  | .string, .string _ => true
  | _, _ => false
def allOk : List TK → List Value → Bool
  | [], [] => true
  | k :: ks, v :: vs => cellOk k v && allOk ks vs
  | _, _ => false
theorem allOk_len : ∀ {ks : List TK} {vs : List Value}, allOk ks vs = true → vs.length = ks.length
  | [], [], _ => rfl
  | [], _ :: _, h => by cases h
  | _ :: _, [], h => by cases h
  | k :: ks, v :: vs, h => by simp only [allOk, Bool.and_eq_true] at h; simp [allOk_len h.2]
theorem allOk_append : ∀ {ks ls : List TK} {vs : List Value}, allOk (ks ++ ls) vs = true → allOk ks (vs.take ks.length) = true ∧ allOk ls (vs.drop ks.length) = true
  | [], ls, vs, h => ⟨by simp [allOk], by simpa using h⟩
  | k :: ks, ls, [], h => by cases h
  | k :: ks, ls, v :: vs, h => by
    simp only [List.cons_append, allOk, Bool.and_eq_true] at h
    obtain ⟨h1, h2⟩ := allOk_append h.2
    exact ⟨by simp [allOk, h.1, h1], by simpa using h2⟩

def valOf (ag : Bool) (xs : List Value) : Value := if ag then .agg ⟨xs⟩ else xs.headD undef

/-- What '==' says at type t of values with cells of these kinds. -/
def EqT (P : Program) (t : Nat) (ag : Bool) (ks : List TK) (d : Nat) : Prop :=
  ∀ w xs ys, allOk ks xs = true → allOk ks ys = true → ∃ b, (Op.equalIn d t (valOf ag xs) (valOf ag ys)).run P w = .ok b w ∧ (b = true ↔ xs = ys)

theorem part_run {P : Program} {t : Nat} {ag : Bool} {sz : Nat} (ha : ∀ w, (isAgg t).run P w = .ok ag w) (hs : ∀ w, (Go.sizeOf t).run P w = .ok sz w) (h1 : ag = false → sz = 1) (xs : List Value) (off : Nat) (hl : off + sz ≤ xs.length) (w : World) :
    (part t ⟨xs⟩ off).run P w = .ok (valOf ag ((xs.drop off).take sz)) w := by
  unfold part
  rw [Sem.run_bind, ha]
  cases ag with
  | true =>
    simp only [Result.andThen_ok, if_true, Sem.run_bind, hs, Sem.run_pure, valOf]
    congr 2
    apply Array.toList_inj.1
    simp
  | false =>
    have := h1 rfl
    subst this
    have hlt : off < xs.length := by omega
    simp only [Result.andThen_ok, Bool.false_eq_true, if_false, valOf]
    have : (Array.mk xs)[off]? = some xs[off] := by simp [hlt]
    rw [this]
    show Result.ok xs[off] w = Result.ok (((xs.drop off).take 1).headD undef) w
    rw [List.drop_eq_getElem_cons hlt]
    rfl

theorem take_drop_ext {xs ys : List Value} {n : Nat} (h1 : xs.take n = ys.take n) (h2 : xs.drop n = ys.drop n) : xs = ys := by
  rw [← List.take_append_drop n xs, ← List.take_append_drop n ys, h1, h2]

theorem eqFields_flat {P : Program} {d : Nat} {g : Nat → Option (List TK)} (hg : ∀ t ks, g t = some ks → ∃ ag, (∀ w, (isAgg t).run P w = .ok ag w) ∧ (ag = false → ks.length = 1) ∧ EqT P t ag ks d) :
    ∀ (fields : List Field) (fs : List (Nat × Nat × Nat)) (k : Nat) (ks : List TK) (xs ys : List Value) (w : World), Flds P fields fs → flatFs g fs k = some ks → xs.length = k + ks.length → ys.length = k + ks.length → allOk ks (xs.drop k) = true → allOk ks (ys.drop k) = true →
    ∃ b, (Op.eqFields d ⟨xs⟩ ⟨ys⟩ fields).run P w = .ok b w ∧ (b = true ↔ xs.drop k = ys.drop k)
  | [], [], k, ks, xs, ys, w, _, h, hx, hy, h1, h2 => by
    simp only [flatFs, Option.some.injEq] at h
    subst h
    refine ⟨true, by simp [Op.eqFields], ?_⟩
    simp at hx hy
    simp [List.drop_eq_nil_of_le (show xs.length ≤ k by omega), List.drop_eq_nil_of_le (show ys.length ≤ k by omega)]
  | [], _ :: _, _, _, _, _, _, h, _, _, _, _, _ => h.elim
  | _ :: _, [], _, _, _, _, _, h, _, _, _, _, _ => h.elim
  | f :: fields, (t, off, sz) :: fs, k, ks, xs, ys, w, hF, h, hx, hy, h1, h2 => by
    obtain ⟨e1, e2, e3, e4, e5⟩ := hF
    simp only [flatFs] at h
    split at h
    · cases h
    · rename_i hb
      have hb' := Nat.eq_of_beq_eq_true hb
      subst hb'
      split at h
      · cases h
      · rename_i ks1 hk1
        split at h
        · cases h
        · rename_i hb2
          have hb2' := Nat.eq_of_beq_eq_true hb2
          subst hb2'
          split at h
          · cases h
          · rename_i ks2 hk2
            simp only [Option.some.injEq] at h
            subst h
            obtain ⟨ag, ha, hag, hE⟩ := hg _ _ hk1
            simp only [List.length_append] at hx hy
            obtain ⟨a1, a2⟩ := allOk_append h1
            obtain ⟨b1, b2⟩ := allOk_append h2
            rw [List.drop_drop] at a2 b2
            have p1 := part_run ha e3 hag xs off (by omega) w
            have p2 := part_run ha e3 hag ys off (by omega) w
            obtain ⟨b, r1, r2⟩ := hE w _ _ a1 b1
            obtain ⟨b', r3, r4⟩ := eqFields_flat hg fields fs (off + ks1.length) ks2 xs ys w e5 hk2 (by omega) (by omega) a2 b2
            have hne : f.name ≠ "_" := by simpa using e4
            simp only [Op.eqFields, if_pos hne, Sem.run_bind, e1, e2, p1, p2, Result.andThen_ok, r1]
            cases b with
            | false =>
              refine ⟨false, by simp, ?_⟩
              simp only [Bool.false_eq_true, false_iff] at r2 ⊢
              intro e
              exact r2 (by rw [e])
            | true =>
              refine ⟨b', by simpa using r3, ?_⟩
              rw [r4]
              have r2' := r2.1 rfl
              constructor
              · intro e
                refine take_drop_ext (n := ks1.length) r2' ?_
                rw [List.drop_drop, List.drop_drop]; exact e
              · intro e
                have := congrArg (List.drop ks1.length) e
                rwa [List.drop_drop, List.drop_drop] at this

theorem repK_len {ks : List TK} : ∀ {m : Nat}, (repK ks m).length = m * ks.length
  | 0 => by simp [repK]
  | m + 1 => by simp [repK, repK_len (m := m), Nat.add_mul]; omega

theorem eqArr_flat {P : Program} {d e sz : Nat} {ag : Bool} {ks : List TK} (ha : ∀ w, (isAgg e).run P w = .ok ag w) (hs : ∀ w, (Go.sizeOf e).run P w = .ok sz w) (hsz : ks.length = sz) (hag : ag = false → sz = 1) (hE : EqT P e ag ks d) :
    ∀ (m k : Nat) (xs ys : List Value) (w : World), xs.length = (k + m) * sz → ys.length = (k + m) * sz → allOk (repK ks m) (xs.drop (k * sz)) = true → allOk (repK ks m) (ys.drop (k * sz)) = true →
    ∃ b, ((do
      for i in List.range' k m do
        if !(← Op.equalIn d e (← part e ⟨xs⟩ (i * sz)) (← part e ⟨ys⟩ (i * sz))) then return false
      return true) : Sem Bool).run P w = .ok b w ∧ (b = true ↔ xs.drop (k * sz) = ys.drop (k * sz))
  | 0, k, xs, ys, w, hx, hy, h1, h2 => by
    refine ⟨true, by simp, ?_⟩
    simp [List.drop_eq_nil_of_le (show xs.length ≤ k * sz by simp at hx; omega), List.drop_eq_nil_of_le (show ys.length ≤ k * sz by simp at hy; omega)]
  | m + 1, k, xs, ys, w, hx, hy, h1, h2 => by
    have hm : k * sz + sz ≤ (k + (m + 1)) * sz := by
      have := Nat.mul_le_mul_right sz (show k + 1 ≤ k + (m + 1) by omega)
      rw [Nat.add_mul, Nat.one_mul] at this
      exact this
    have hk1 : (k + 1) * sz = k * sz + sz := by rw [Nat.add_mul, Nat.one_mul]
    rw [repK] at h1 h2
    obtain ⟨a1, a2⟩ := allOk_append h1
    obtain ⟨b1, b2⟩ := allOk_append h2
    rw [List.drop_drop, hsz, ← hk1] at a2 b2
    rw [hsz] at a1 b1
    have p1 := part_run ha hs hag xs (k * sz) (by omega) w
    have p2 := part_run ha hs hag ys (k * sz) (by omega) w
    obtain ⟨b, r1, r2⟩ := hE w _ _ a1 b1
    obtain ⟨b', r3, r4⟩ := eqArr_flat ha hs hsz hag hE m (k + 1) xs ys w (by rw [hx]; congr 1; omega) (by rw [hy]; congr 1; omega) a2 b2
    rw [List.range'_succ]
    simp only [List.forIn_cons, Sem.run_bind, p1, p2, Result.andThen_ok, r1]
    cases b with
    | false =>
      refine ⟨false, by simp, ?_⟩
      simp only [Bool.false_eq_true, false_iff] at r2 ⊢
      intro e
      exact r2 (by rw [e])
    | true =>
      refine ⟨b', by simpa using r3, ?_⟩
      rw [r4, hk1]
      have r2' := r2.1 rfl
      constructor
      · intro e
        refine take_drop_ext (n := sz) r2' ?_
        rw [List.drop_drop, List.drop_drop]; exact e
      · intro e
        have := congrArg (List.drop sz) e
        rwa [List.drop_drop, List.drop_drop] at this

theorem allOk_one {k : TK} {xs : List Value} (h : allOk [k] xs = true) : ∃ v, xs = [v] ∧ cellOk k v = true := by
  match xs, h with
  | [v], h => exact ⟨v, rfl, by simpa [allOk] using h⟩
  | v :: _ :: _, h => simp [allOk] at h
theorem bytes_beq (a b : ByteArray) : (a == b) = true ↔ a = b := by
  rw [beq_toListBytes, ByteArray.toList_eq, ByteArray.toList_eq]
  obtain ⟨⟨x⟩⟩ := a
  obtain ⟨⟨y⟩⟩ := b
  simp

theorem flat_eq {P : Program} (tb : Tb P) : ∀ (n t : Nat) (ks : List TK), flatE tb n t = some ks → ∃ ag, (∀ w, (isAgg t).run P w = .ok ag w) ∧ (ag = false → ks.length = 1) ∧ ∀ d, n ≤ d → EqT P t ag ks d
  | 0, t, ks, h => by cases h
  | n + 1, t, ks, h => by
    simp only [flatE] at h
    split at h
    · cases h
    · rename_i r hr
      have hg := tb.get hr
      have his := hg.is
      split at h <;> rename_i hk
      · simp only [Option.some.injEq] at h; subst h
        rw [hk] at his
        refine ⟨false, hg.agg (by rw [hk]; rfl), fun _ => rfl, fun d hd w xs ys h1 h2 => ?_⟩
        obtain ⟨d, rfl⟩ : ∃ d', d = d' + 1 := ⟨d - 1, by omega⟩
        obtain ⟨v, rfl, k1⟩ := allOk_one h1
        obtain ⟨u, rfl, k2⟩ := allOk_one h2
        cases v <;> first | exact Bool.noConfusion (show false = true from k1) | skip
        rename_i a
        cases u <;> first | exact Bool.noConfusion (show false = true from k2) | skip
        rename_i b
        have h1' := eq_of_beq (show (_ == _) = true from k1)
        have h2' := eq_of_beq (show (_ == _) = true from k2)
        subst h1'; subst h2'
        exact ⟨a == b, by simpa [valOf] using run_equalIn_int w d t _ _ a b his, by simp⟩
      · simp only [Option.some.injEq] at h; subst h
        rw [hk] at his
        refine ⟨false, hg.agg (by rw [hk]; rfl), fun _ => rfl, fun d hd w xs ys h1 h2 => ?_⟩
        obtain ⟨d, rfl⟩ : ∃ d', d = d' + 1 := ⟨d - 1, by omega⟩
        obtain ⟨v, rfl, k1⟩ := allOk_one h1
        obtain ⟨u, rfl, k2⟩ := allOk_one h2
        cases v <;> first | exact Bool.noConfusion (show false = true from k1) | skip
        rename_i a
        cases u <;> first | exact Bool.noConfusion (show false = true from k2) | skip
        rename_i b
        exact ⟨a == b, by simpa [valOf] using run_equalIn_bool w d t a b his, by simp⟩
      · simp only [Option.some.injEq] at h; subst h
        rw [hk] at his
        refine ⟨false, hg.agg (by rw [hk]; rfl), fun _ => rfl, fun d hd w xs ys h1 h2 => ?_⟩
        obtain ⟨d, rfl⟩ : ∃ d', d = d' + 1 := ⟨d - 1, by omega⟩
        obtain ⟨v, rfl, k1⟩ := allOk_one h1
        obtain ⟨u, rfl, k2⟩ := allOk_one h2
        cases v <;> first | exact Bool.noConfusion (show false = true from k1) | skip
        rename_i a
        cases u <;> first | exact Bool.noConfusion (show false = true from k2) | skip
        rename_i b
        refine ⟨a == b, by simp [valOf, Op.equalIn, run_underlying his], by simpa using bytes_beq a b⟩
      · rename_i fs
        have hp := hg.plain
        rw [hk] at his hp
        obtain ⟨fields, h1, h2⟩ := his
        refine ⟨true, hg.agg (by rw [hk]; rfl), by simp, fun d hd w xs ys hx hy => ?_⟩
        obtain ⟨d, rfl⟩ : ∃ d', d = d' + 1 := ⟨d - 1, by omega⟩
        have hfo : P.fieldsOf t = fields := by simp [Program.fieldsOf, h1]
        have hrun := run_equalIn_struct w d t ⟨xs⟩ ⟨ys⟩ (by rw [hfo]; exact h1) hp
        rw [hfo] at hrun
        have hlx := allOk_len hx
        have hly := allOk_len hy
        obtain ⟨b, r1, r2⟩ := eqFields_flat (g := flatE tb n) (d := d) (fun t ks hks => by
          obtain ⟨ag, a1, a2, a3⟩ := flat_eq tb n t ks hks
          exact ⟨ag, a1, a2, a3 d (by omega)⟩) fields.toList fs 0 ks xs ys w h2 h (by omega) (by omega) (by simpa using hx) (by simpa using hy)
        refine ⟨b, ?_, by simpa using r2⟩
        simp only [valOf, if_true]
        rw [hrun]
        exact r1
      · rename_i m e
        rw [hk] at his
        split at h
        · cases h
        · rename_i re hre
          have hge := tb.get hre
          split at h
          · cases h
          · rename_i ks1 hks1
            split at h
            · cases h
            · rename_i hb
              have hb' := Nat.eq_of_beq_eq_true hb
              simp only [Option.some.injEq] at h; subst h
              refine ⟨true, hg.agg (by rw [hk]; rfl), by simp, fun d hd w xs ys hx hy => ?_⟩
              obtain ⟨d, rfl⟩ : ∃ d', d = d' + 1 := ⟨d - 1, by omega⟩
              obtain ⟨ag, a1, a2, a3⟩ := flat_eq tb n e ks1 hks1
              have hlx := allOk_len hx
              have hly := allOk_len hy
              rw [repK_len] at hlx hly
              obtain ⟨b, r1, r2⟩ := eqArr_flat (d := d) a1 hge.size hb' (fun h => by rw [← hb']; exact a2 h) (a3 d (by omega)) m 0 xs ys w (by rw [hlx, hb']; simp) (by rw [hly, hb']; simp) (by simpa using hx) (by simpa using hy)
              refine ⟨b, ?_, by simpa using r2⟩
              simp only [TK.is] at his
              simp only [valOf, if_true, Op.equalIn, Sem.run_bind, run_underlying his, Result.andThen_ok, hge.size]
              simp only [Std.Legacy.Range.forIn_eq_forIn_range', Std.Legacy.Range.size] at r1 ⊢
              simpa using r1
      · cases h

/-! ### the operations -/
section
variable {X : Cx} {σ : Env} {L : Lst} {dd : Nat} {ty ty2 : TypeId} {pos : String} {af : Array Edge} {d : Option Nat} {g : Option (Nat × Bool)} {x y : Operand} {t : TypeId} {r : TRow} {ks : List TK} {xs ys : List Value}
variable {all : Array Oper} {rest : List Oper} {K : Env → Lst → Prop}

theorem eqGuardFlat {P : Program} (tb : Tb P) : ∀ (n : Nat) (t : Nat) (ks : List TK) (dp : Nat), flatE tb n t = some ks → n ≤ dp → P.eqGuardType dp t = false
  | 0, _, _, _, h, _ => by cases h
  | n + 1, t, ks, dp, h, hd => by
    obtain ⟨dp, rfl⟩ : ∃ d', dp = d' + 1 := ⟨dp - 1, by omega⟩
    simp only [flatE] at h
    split at h
    · cases h
    · rename_i r hr
      have his := (tb.get hr).is
      split at h <;> rename_i hk <;> (try rw [hk] at his) <;> simp only [TK.is] at his
      · simp [Program.eqGuardType, his]
      · simp [Program.eqGuardType, his]
      · simp [Program.eqGuardType, his]
      · rename_i fs
        obtain ⟨fields, h1, h2⟩ := his
        simp only [Program.eqGuardType, h1]
        rw [← Array.any_toList]
        have key : ∀ (fields : List Field) (fs : List (Nat × Nat × Nat)) (k : Nat) (ks : List TK), Flds P fields fs → flatFs (flatE tb n) fs k = some ks → fields.any (fun f => f.name != "_" && P.eqGuardType dp f.type) = false := by
          intro fields
          induction fields with
          | nil => intros; rfl
          | cons f fields ih =>
            intro fs k ks hF h
            match fs, hF with
            | (t, off, sz) :: fs, hF =>
              obtain ⟨e1, e2, e3, e4, e5⟩ := hF
              simp only [flatFs] at h
              split at h
              · cases h
              · split at h
                · cases h
                · rename_i ks1 hk1
                  split at h
                  · cases h
                  · split at h
                    · cases h
                    · rename_i ks2 hk2
                      simp only [List.any_cons, e1, eqGuardFlat tb n _ _ dp hk1 (by omega), Bool.and_false, Bool.false_or]
                      exact ih _ _ _ e5 hk2
        exact key _ _ _ _ h2 h
      · rename_i m e
        split at h
        · cases h
        · split at h
          · cases h
          · rename_i ks1 hks1
            simp only [Program.eqGuardType, his]
            exact eqGuardFlat tb n _ _ dp hks1 (by omega)
      · cases h
end
end Go.Proofs.Ytligpachgcmkcaa
/- Equality of flat values as an operation; maps whose keys are flat: look-ups, stores, deletions, ranging. -/
set_option linter.unusedSimpArgs false
set_option linter.unusedVariables false
namespace Go.Proofs.Ytligpachgcmkcaa
open Go.RowKit Go.Shelf

section
variable {X : Cx} {σ : Env} {L L' : Lst} {dd : Nat} {ty ty2 : TypeId} {pos : String} {af : Array Edge} {d : Option Nat} {g : Option (Nat × Bool)} {x y : Operand} {t : TypeId} {r : TRow} {ks : List TK} {xs ys : List Value}
variable {all : Array Oper} {rest : List Oper} {K : Env → Lst → Prop}

theorem Op_equal_flat {P : Program} (tb : Tb P) {t : Nat} {r : TRow} {ks : List TK} (ht : tb.row t = some r) (hk : r.k.agg = some true) (hf : flatE tb 8 t = some ks) (h1 : allOk ks xs = true) (h2 : allOk ks ys = true) (w : World) :
    ∃ b, (Op.equal t (.agg ⟨xs⟩) (.agg ⟨ys⟩)).run P w = .ok b w ∧ (b = true ↔ xs = ys) := by
  obtain ⟨ag, a1, a2, a3⟩ := flat_eq tb 8 t ks hf
  have : ag = true := by
    have e1 := a1 w
    rw [(tb.get ht).agg hk w] at e1
    injection e1 with e1 _
    exact e1.symm
  subst this
  obtain ⟨b, r1, r2⟩ := a3 10000 (by omega) w xs ys h1 h2
  exact ⟨b, by simpa [valOf, Op.equal, Op.maxDepth] using r1, r2⟩

open Classical in
theorem Ok1.eqlF (hx : ev σ x = some (.agg ⟨xs⟩)) (hy : ev σ y = some (.agg ⟨ys⟩)) (ht : X.tb.row t = some r) (hk : r.k.agg = some true) (hf : flatE X.tb 8 t = some ks) (h1 : allOk ks xs = true) (h2 : allOk ks ys = true) :
    Ok1 X ⟨d, .binOp .eql t x y ty2, ty, pos, af, g⟩ σ L (.bool (decide (xs = ys))) := .mk fun a w ha hw => by
  obtain ⟨b, r1, r2⟩ := Op_equal_flat X.tb ht hk hf h1 h2 w
  have hb : b = decide (xs = ys) := by cases b <;> simp_all
  have hgd := eqGuardFlat X.tb 8 t ks X.P.depth hf X.tb.deep
  simp [execOp, ha.ev hx, ha.ev hy, eqGuard, binOp, hgd, r1, hb]
open Classical in
theorem Ok1.neqF (hx : ev σ x = some (.agg ⟨xs⟩)) (hy : ev σ y = some (.agg ⟨ys⟩)) (ht : X.tb.row t = some r) (hk : r.k.agg = some true) (hf : flatE X.tb 8 t = some ks) (h1 : allOk ks xs = true) (h2 : allOk ks ys = true) :
    Ok1 X ⟨d, .binOp .neq t x y ty2, ty, pos, af, g⟩ σ L (.bool (decide (xs ≠ ys))) := .mk fun a w ha hw => by
  obtain ⟨b, r1, r2⟩ := Op_equal_flat X.tb ht hk hf h1 h2 w
  have hb : (!b) = decide (xs ≠ ys) := by cases b <;> simp_all
  have hgd := eqGuardFlat X.tb 8 t ks X.P.depth hf X.tb.deep
  simp [execOp, ha.ev hx, ha.ev hy, eqGuard, binOp, hgd, r1]
  simpa using hb
open Classical in
theorem R.eqlF (hn : Nat.blt dd X.n = true) (hx : ev σ x = some (.agg ⟨xs⟩)) (hy : ev σ y = some (.agg ⟨ys⟩)) (ht : X.tb.row t = some r) (hk : r.k.agg = some true) (hf : flatE X.tb 8 t = some ks) (h1 : allOk ks xs = true) (h2 : allOk ks ys = true)
    (ht : xs = ys → R X all rest K ((dd, .bool true) :: σ) L) (hf : xs ≠ ys → R X all rest K ((dd, .bool false) :: σ) L) : R X all (⟨some dd, .binOp .eql t x y ty2, ty, pos, af, none⟩ :: rest) K σ L := by
  rename_i htr hff
  have ho := Ok1.eqlF (X := X) (L := L) (ty2 := ty2) (d := some dd) (ty := ty) (pos := pos) (af := af) (g := none) hx hy htr hk hff h1 h2
  by_cases h : xs = ys
  · rw [decide_eq_true h] at ho; exact R.pure hn ho (ht h)
  · rw [decide_eq_false h] at ho; exact R.pure hn ho (hf h)
open Classical in
theorem R.neqF (hn : Nat.blt dd X.n = true) (hx : ev σ x = some (.agg ⟨xs⟩)) (hy : ev σ y = some (.agg ⟨ys⟩)) (ht : X.tb.row t = some r) (hk : r.k.agg = some true) (hf : flatE X.tb 8 t = some ks) (h1 : allOk ks xs = true) (h2 : allOk ks ys = true)
    (ht : xs ≠ ys → R X all rest K ((dd, .bool true) :: σ) L) (hf : xs = ys → R X all rest K ((dd, .bool false) :: σ) L) : R X all (⟨some dd, .binOp .neq t x y ty2, ty, pos, af, none⟩ :: rest) K σ L := by
  rename_i htr hff
  have ho := Ok1.neqF (X := X) (L := L) (ty2 := ty2) (d := some dd) (ty := ty) (pos := pos) (af := af) (g := none) hx hy htr hk hff h1 h2
  by_cases h : xs = ys
  · rw [decide_eq_false (by simpa using h)] at ho; exact R.pure hn ho (hf h)
  · rw [decide_eq_true h] at ho; exact R.pure hn ho (ht h)
end

/-! ### keys -/
structure KeyT (P : Program) (t : Nat) {κ : Type} (kv : κ → Value) : Prop where
  eq : ∀ w a b, ∃ r, (Op.equal t (kv a) (kv b)).run P w = .ok r w ∧ (r = true ↔ a = b)
  chk : ∀ w e a, (Instr.checkKey e 10000 t (kv a)).run P w = .ok () w
  bits : ∀ a, Instr.sameBits 10000 (kv a) (kv a) = true
  now : ∃ dsc, P.underlying t = some dsc ∧ ((∀ a b, Instr.sameNow dsc (kv a) (kv b) = none) ∨ (∀ a b, ∃ r, Instr.sameNow dsc (kv a) (kv b) = some r ∧ (r = true ↔ a = b)))

theorem chkFlat {P : Program} (tb : Tb P) (e : Bool) : ∀ (n t : Nat) (ks : List TK), flatE tb n t = some ks → ∃ ag, (∀ w, (isAgg t).run P w = .ok ag w) ∧ (ag = false → ks.length = 1) ∧ ∀ d, n ≤ d → ∀ w xs, allOk ks xs = true → (Instr.checkKey e d t (valOf ag xs)).run P w = .ok () w
  | 0, t, ks, h => by cases h
  | n + 1, t, ks, h => by
    obtain ⟨ag, a1, a2, _⟩ := flat_eq tb (n + 1) t ks h
    refine ⟨ag, a1, a2, fun d hd w xs hx => ?_⟩
    obtain ⟨d, rfl⟩ : ∃ d', d = d' + 1 := ⟨d - 1, by omega⟩
    simp only [flatE] at h
    split at h
    · cases h
    · rename_i r hr
      have hg := tb.get hr
      have his := hg.is
      have hag : ∀ b, r.k.agg = some b → ag = b := fun b hb => by
        have e1 := a1 w
        rw [hg.agg hb w] at e1
        injection e1 with e1 _
        exact e1.symm
      split at h <;> rename_i hk
      · have := hag false (by rw [hk]; rfl)
        subst this
        rw [hk] at his; simp only [TK.is] at his
        simp only [Option.some.injEq] at h; subst h
        obtain ⟨v, rfl, k1⟩ := allOk_one hx
        cases v <;> first | exact Bool.noConfusion (show false = true from k1) | skip
        simp [Instr.checkKey, valOf, run_underlying his]
      · have := hag false (by rw [hk]; rfl)
        subst this
        rw [hk] at his; simp only [TK.is] at his
        simp only [Option.some.injEq] at h; subst h
        obtain ⟨v, rfl, k1⟩ := allOk_one hx
        cases v <;> first | exact Bool.noConfusion (show false = true from k1) | skip
        simp [Instr.checkKey, valOf, run_underlying his]
      · have := hag false (by rw [hk]; rfl)
        subst this
        rw [hk] at his; simp only [TK.is] at his
        simp only [Option.some.injEq] at h; subst h
        obtain ⟨v, rfl, k1⟩ := allOk_one hx
        cases v <;> first | exact Bool.noConfusion (show false = true from k1) | skip
        simp [Instr.checkKey, valOf, run_underlying his]
      · rename_i fs
        have := hag true (by rw [hk]; rfl)
        subst this
        rw [hk] at his; simp only [TK.is] at his
        obtain ⟨fields, h1, h2⟩ := his
        have key : ∀ (fields : List Field) (fs : List (Nat × Nat × Nat)) (k : Nat) (ks : List TK) (xs : List Value), Flds P fields fs → flatFs (flatE tb n) fs k = some ks → xs.length = k + ks.length → allOk ks (xs.drop k) = true →
            ((do for f in fields do if f.name ≠ "_" then Instr.checkKey e d f.type (← part f.type ⟨xs⟩ f.offset)) : Sem Unit).run P w = .ok () w := by
          intro fields
          induction fields with
          | nil => intros; simp
          | cons f fields ih =>
            intro fs k ks xs hF h hl hx
            match fs, hF with
            | (t, off, sz) :: fs, hF =>
              obtain ⟨e1, e2, e3, e4, e5⟩ := hF
              simp only [flatFs] at h
              split at h
              · cases h
              · rename_i hb
                have hb' := Nat.eq_of_beq_eq_true hb
                subst hb'
                split at h
                · cases h
                · rename_i ks1 hk1
                  split at h
                  · cases h
                  · rename_i hb2
                    have hb2' := Nat.eq_of_beq_eq_true hb2
                    subst hb2'
                    split at h
                    · cases h
                    · rename_i ks2 hk2
                      simp only [Option.some.injEq] at h
                      subst h
                      simp only [List.length_append] at hl
                      obtain ⟨c1, c2⟩ := allOk_append hx
                      rw [List.drop_drop] at c2
                      obtain ⟨ag, b1, b2, b3⟩ := chkFlat tb e n _ _ hk1
                      have p1 := part_run b1 e3 b2 xs off (by omega) w
                      have r1 := b3 d (by omega) w _ c1
                      have hne : f.name ≠ "_" := by simpa using e4
                      have ih' := ih fs (off + ks1.length) ks2 xs e5 hk2 (by omega) c2
                      simp only [List.forIn_cons, if_pos hne, Sem.run_bind, e1, e2, p1, Result.andThen_ok, r1, Sem.run_pure]
                      simp at ih' ⊢
                      rw [ih']; rfl
        have := key fields.toList fs 0 ks xs h2 h (by simpa using allOk_len hx) (by simpa using hx)
        simp only [Instr.checkKey, valOf, if_true, Sem.run_bind, run_underlying h1, Result.andThen_ok]
        rw [← Array.forIn_toList]
        simp at this ⊢
        rw [this]; rfl
      · rename_i m ee
        have := hag true (by rw [hk]; rfl)
        subst this
        rw [hk] at his; simp only [TK.is] at his
        split at h
        · cases h
        · rename_i re hre
          have hge := tb.get hre
          split at h
          · cases h
          · rename_i ks1 hks1
            split at h
            · cases h
            · rename_i hb
              have hb' := Nat.eq_of_beq_eq_true hb
              simp only [Option.some.injEq] at h; subst h
              obtain ⟨ag, b1, b2, b3⟩ := chkFlat tb e n _ _ hks1
              have key : ∀ (m k : Nat) (xs : List Value), xs.length = (k + m) * re.size → allOk (repK ks1 m) (xs.drop (k * re.size)) = true →
                  ((do for i in List.range' k m do Instr.checkKey e d ee (← part ee ⟨xs⟩ (i * (← Go.sizeOf ee)))) : Sem Unit).run P w = .ok () w := by
                intro m
                induction m with
                | zero => intros; simp
                | succ m ih =>
                  intro k xs hl hx
                  have hm : k * re.size + re.size ≤ (k + (m + 1)) * re.size := by
                    have := Nat.mul_le_mul_right re.size (show k + 1 ≤ k + (m + 1) by omega)
                    rw [Nat.add_mul, Nat.one_mul] at this
                    exact this
                  have hk1 : (k + 1) * re.size = k * re.size + re.size := by rw [Nat.add_mul, Nat.one_mul]
                  rw [repK] at hx
                  obtain ⟨c1, c2⟩ := allOk_append hx
                  rw [List.drop_drop, hb', ← hk1] at c2
                  rw [hb'] at c1
                  have p1 := part_run b1 hge.size (fun h => by rw [← hb']; exact b2 h) xs (k * re.size) (by omega) w
                  have r1 := b3 d (by omega) w _ c1
                  have ih' := ih (k + 1) xs (by rw [hl]; congr 1; omega) c2
                  rw [List.range'_succ]
                  simp only [List.forIn_cons, Sem.run_bind, hge.size, p1, Result.andThen_ok, r1, Sem.run_pure]
                  simp at ih' ⊢
                  rw [ih']; rfl
              have hl := allOk_len hx
              rw [repK_len, hb'] at hl
              have := key m 0 xs (by simpa using hl) (by simpa using hx)
              simp only [Instr.checkKey, valOf, if_true, Sem.run_bind, run_underlying his, Result.andThen_ok]
              simp only [Std.Legacy.Range.forIn_eq_forIn_range', Std.Legacy.Range.size]
              simp at this ⊢
              rw [this]; rfl
      · cases h

theorem sameBits_flat : ∀ {ks : List TK} {xs : List Value}, allOk ks xs = true → (xs.zip xs).all (fun p => Instr.sameBits 9999 p.1 p.2) = true
  | [], [], _ => rfl
  | [], _ :: _, h => by cases h
  | _ :: _, [], h => by cases h
  | k :: ks, v :: vs, h => by
    simp only [allOk, Bool.and_eq_true] at h
    simp only [List.zip_cons_cons, List.all_cons, sameBits_flat h.2, Bool.and_true]
    have h1 := h.1
    cases k <;> cases v <;> first | exact Bool.noConfusion (show false = true from h1) | simp [Instr.sameBits]
    rename_i s
    exact (bytes_beq s s).2 rfl

/-- A flat aggregate as a key: 'enc k' are its cells. -/
theorem KeyT.flat {P : Program} (tb : Tb P) {t : Nat} {r : TRow} {ks : List TK} {κ : Type} (enc : κ → List Value) (ht : tb.row t = some r) {fs : List (Nat × Nat × Nat)} (hk : r.k = .strct fs) (hf : flatE tb 8 t = some ks) (ho : ∀ k, allOk ks (enc k) = true) (hi : ∀ a b, enc a = enc b → a = b) :
    KeyT P t (fun k => .agg ⟨enc k⟩) := by
  refine ⟨fun w a b => ?_, fun w e a => ?_, fun a => ?_, ?_⟩
  · obtain ⟨b', r1, r2⟩ := Op_equal_flat tb ht (by rw [hk]; rfl) hf (ho a) (ho b) w
    exact ⟨b', r1, r2.trans ⟨hi a b, fun e => by rw [e]⟩⟩
  · obtain ⟨ag, a1, a2, a3⟩ := chkFlat tb e 8 t ks hf
    have : ag = true := by
      have e1 := a1 w
      rw [(tb.get ht).agg (b := true) (by rw [hk]; rfl) w] at e1
      injection e1 with e1 _
      exact e1.symm
    subst this
    simpa [valOf] using a3 10000 (by omega) w _ (ho a)
  · have h := sameBits_flat (ho a)
    show (((Array.mk (enc a)).size == (Array.mk (enc a)).size) && ((Array.mk (enc a)).toList.zip (Array.mk (enc a)).toList).all fun (x, y) => Instr.sameBits 9999 x y) = true
    simp only [beq_self_eq_true, Bool.true_and]
    exact h
  · have his := (tb.get ht).is
    rw [hk] at his
    obtain ⟨fields, h1, _⟩ := his
    exact ⟨_, h1, .inl fun a b => rfl⟩
end Go.Proofs.Ytligpachgcmkcaa
