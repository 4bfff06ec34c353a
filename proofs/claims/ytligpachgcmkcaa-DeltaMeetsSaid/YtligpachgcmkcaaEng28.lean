/- Arrays cut to slices, copy, a string's bytes, closures that write. -/
import Derived.Test.YtligpachgcmkcaaEng26
import Derived.Lib.ConvBytes
set_option linter.unusedSimpArgs false
set_option linter.unusedVariables false
set_option linter.unusedSectionVars false
namespace Go.Proofs.Ytligpachgcmkcaa
open Go.RowKit Go.Shelf

theorem Hp.new {w0 w w' : World} {S : List Nat} {L : Lst} {o : Obj} (h : Hp w0 S L w) (hc : Chg [] w w') (ho : w'.heap[w.heap.size]? = some o) : Hp w0 S ((w.heap.size, o) :: L) w' := by
  have h1 := h.step hc
  refine ⟨h1.chg, ?_, ?_, ?_⟩
  · intro b o' hm
    rcases List.mem_cons.1 hm with e | hm
    · cases e; exact ho
    · exact h1.get b o' hm
  · simp only [List.map_cons, List.nodup_cons]
    refine ⟨fun hm => ?_, h.nod⟩
    obtain ⟨⟨b, o'⟩, hm, e⟩ := List.mem_map.1 hm
    have := h.lt hm
    simp at e; omega
  · intro b o' hm
    rcases List.mem_cons.1 hm with e | hm
    · cases e; exact .inl h.chg.size
    · exact h.own b o' hm
section
variable {X : Cx} {σ : Env} {L L' Li Lr : Lst} {d : Option Nat} {dd c : Nat} {ty : TypeId} {pos : String} {af : Array Edge} {g : Option (Nat × Bool)} {x y : Operand} {t t2 e : TypeId} {r r2 re : TRow}
variable {all : Array Oper} {rest : List Oper} {K : Env → Lst → Prop} {p : Option Addr} {n m cap i b : Nat}
/-- An array's variable, cut to a slice of all of it. -/
theorem Ok1.sliceArr {o : Nat} (ht : X.tb.row t = some r) (hk : r.k = .arr n e) (he : X.tb.row e = some re) (hx : ev σ x = some (.pointer (some ⟨b, o, none⟩))) :
    Ok1 X ⟨d, .slice t x none none none, ty, pos, af, g⟩ σ L (.slice (some ⟨b, o, none⟩) n n) := .mk fun a w ha hw => by
  have h2 := (X.tb.get ht).is
  rw [hk] at h2
  simp only [TK.is] at h2
  simp [execOp, Instr.sliceAt, run_underlying h2, ha.ev hx, Instr.sureAddr, Instr.sliceBounds, (X.tb.get he).size, Addr.add_none]
theorem copy_run {α : Type} {v : α → List Value} {xs : List α} {P : Program} (tb : Tb P) (ht : tb.row t = some r) (hk : r.k = .slice e) (he : tb.row e = some re) (hs : re.size = 1) (hv : ∀ a, (v a).length = 1) {w : World} {dn dcap : Nat} {cs cs' : List Value} {te : TypeId}
    (hp : RdSl w p v xs) (h1 : (fl v xs).all Value.oneCell' = true) (hb : w.heap[b]? = some (.cells ⟨cs⟩ te (0, 0))) (hc : setE cs 0 (fl v (xs.take dn)) = some cs') :
    ∃ w', (Builtin.copy_ #[t, t2] ty #[.slice (some ⟨b, 0, none⟩) dn dcap, .slice p xs.length cap]).run P w = .ok (.int .i64 (min xs.length dn : Nat)) w' ∧ w'.heap[b]? = some (.cells ⟨cs'⟩ te (0, 0)) ∧ Chg [b] w w' := by
  have hu : P.underlying t = some (.slice e) := by have := (tb.get ht).is; rw [hk] at this; exact this
  have hone : (fl v (xs.take dn)).all Value.oneCell' = true := by
    rw [List.all_eq_true] at h1 ⊢
    intro z hz
    rw [← fl_takeG hv] at hz
    exact h1 z (List.mem_of_mem_take hz)
  obtain ⟨w', g1, g2, g3⟩ := run_stores P ⟨b, 0, none⟩ rfl te (fl v (xs.take dn)) 0 w cs cs' hone hb hc
  have hf : (Builtin.firstCells 1 (min xs.length dn) (.slice p xs.length cap)).run P w = .ok ⟨fl v (xs.take dn)⟩ w := by
    by_cases hx : xs.take dn = []
    · have h9 : (xs.take dn).length = 0 := by rw [hx]; rfl
      have h0 : min xs.length dn = 0 := by
        rw [List.length_take] at h9
        omega
      rw [hx, h0]
      cases p <;> simp [Builtin.firstCells, loadCells, loadCellsFrom, fl]
    · refine first_run ((hp.pre hv dn).holds hx) ?_
      rw [fl_len hv, List.length_take, Nat.min_comm]
  refine ⟨w', ?_, g2, g3⟩
  unfold Builtin.copy_
  simp only [List.getElem?_toArray, List.getElem?_cons_zero, List.getElem?_cons_succ, Sem.run_bind, run_underlying hu, Result.andThen_ok, (tb.get he).size, hs, Sem.run_pure, Builtin.lenOf, show Nat.min xs.length dn = min xs.length dn from rfl, hf, g1, goInt]
theorem R.copyRd {α : Type} {v : α → List Value} {xs : List α} {dn dcap : Nat} {cs cs' : List Value} {te : TypeId} (hn : Nat.blt dd X.n = true) (ht : X.tb.row t = some r) (hk : r.k = .slice e) (he : X.tb.row e = some re) (hs : re.size = 1)
    (hx : ev σ x = some (.slice (some ⟨b, 0, none⟩) dn dcap)) (hy : ev σ y = some (.slice p m cap)) (hm : m = xs.length) (hv : ∀ a, (v a).length = 1) (hh : ∀ w, Hp X.w0 X.S L w → RdSl w p v xs) (h1 : (fl v xs).all Value.oneCell' = true)
    (hu : Upd L b (.cells ⟨cs⟩ te (0, 0)) (.cells ⟨cs'⟩ te (0, 0)) L') (hc : setE cs 0 (fl v (xs.take dn)) = some cs') (h : R X all rest K ((dd, .int .i64 (min m dn : Nat)) :: σ) L') :
    R X all (⟨some dd, .call { callee := .builtin .copy, args := #[x, y], argTypes := #[t, t2] }, ty, pos, af, none⟩ :: rest) K σ L :=
  R.value rfl rfl hn fun a w ha hw => by
    subst hm
    obtain ⟨w', g1, g2, g3⟩ := copy_run (ty := ty) (t2 := t2) (dcap := dcap) (cap := cap) X.tb ht hk he hs hv (hh w hw) h1 (hw.get _ _ hu.mem) hc
    refine ⟨_, w', L', ?_, hw.upd hu g3 g2, h⟩
    simp [execOp, resolve, ha.ev hx, ha.ev hy, invoke, builtin, g1]
/-- A string's bytes. -/
def strI (s : ByteArray) : List Int := s.data.toList.map fun b => (b.toNat : Int)
theorem R.convBytes {rs : TRow} {src : TypeId} {s : ByteArray} (hn : Nat.blt dd X.n = true) (hs : X.tb.row src = some rs) (hks : rs.k = .string) (ht : X.tb.row t = some r) (hk : r.k = .slice e) (he : X.tb.row e = some re) (hke : re.k = .int .u8) (hx : ev σ x = some (.string s))
    (h : ∀ b j junk, R X all rest K ((dd, .slice (some ⟨b, 0, none⟩) s.size (s.size + j)) :: σ) ((b, .cells ⟨(strI s).map (.int .u8) ++ junk⟩ e (s.size + j, s.size + j + 1)) :: L)) :
    R X all (⟨some dd, .convert src t x, ty, pos, af, none⟩ :: rest) K σ L :=
  R.value rfl rfl hn fun a w ha hw => by
    have h1 : X.P.underlying src = some .string := by have := (X.tb.get hs).is; rw [hks] at this; exact this
    have h2 : X.P.underlying t = some (.slice e) := by have := (X.tb.get ht).is; rw [hk] at this; exact this
    have h3 : X.P.underlying e = some (.int .u8) := by have := (X.tb.get he).is; rw [hke] at this; exact this
    have hrun := Lib.run_convert_string_bytes w src t e s h1 h2 h3
    obtain ⟨q, hq⟩ : ∃ q, grownCap w s.size 0 e = s.size + q := ⟨_, rfl⟩
    have hcells : Lib.bytesCells w e s = ⟨(strI s).map (.int .u8) ++ List.replicate q (.int .u8 0)⟩ := by
      apply Array.toList_inj.1
      simp [Lib.bytesCells, hq, strI]
    have hsz : (Lib.bytesCells w e s).size = s.size + q := by
      rw [hcells]
      simp [strI]
    have hchg : Chg [] w (Lib.bytesWorld w e s) := by
      have hc0 := (Chg.drew [] w).trans (Chg.alloc [] w.drew (.cells (Lib.bytesCells w e s) e))
      have hd := hc0.drawn
      refine ⟨?_, ?_, ?_, by rw [Lib.bytesWorld_size]; omega, ?_, fun k hk _ => Lib.bytesWorld_at_old w e s k hk⟩ <;> simp only [Lib.bytesWorld, World.freeze, show ¬ (1 : Nat) = 0 by decide, if_false]
      · exact hc0.os
      · exact hc0.tape
      · exact hc0.output
      · exact hc0.drawn
    have hnew := Lib.bytesWorld_at_new w e s
    rw [hsz, hcells] at hnew
    refine ⟨_, Lib.bytesWorld w e s, (w.heap.size, .cells ⟨(strI s).map (.int .u8) ++ List.replicate q (.int .u8 0)⟩ e (s.size + q, s.size + q + 1)) :: L, ?_, ?_, h w.heap.size q _⟩
    · rw [← hq]
      simp [execOp, ha.ev hx, hrun]
    · exact hw.new hchg hnew
/-- A function value that may write what it has caught. -/
theorem R.callFE {f : FuncId} {fa vs cb : List Value} {xs : List Operand} {ats : Array TypeId} {R1 : Value → Lst → Prop} (hcv : ev σ x = some (.func (.func f) fa.toArray cb.toArray)) (he : X.tb.fns.contains f = true) (hx : evs σ xs = some vs) (hn : Nat.blt dd X.n = true) (hp : Ext L Li Lr) (hc : ∀ w, Hp X.w0 X.S L w → CallM X.P f (fa ++ vs ++ cb) Li w R1) (h : ∀ v Lo, R1 v Lo → R X all rest K ((dd, v) :: σ) (Lo ++ Lr)) :
    R X all ({ dst := some dd, op := .call { callee := .value x, args := xs.toArray, argTypes := ats }, type := ty, pos := pos, after := af, guard := none } :: rest) K σ L :=
  R.callF (α := Value × Lst) (v := fun v => v.1) (L' := fun v => v.2 ++ Lr) (I := fun v => R1 v.1 v.2) hcv he hx hn (fun w hw => by
    have hw2 := hw.perm hp.perm
    have hin : Hp w (blks Li) Li w := ⟨.refl _ _, fun b o hm => hw2.get b o (List.mem_append_left _ hm), (List.nodup_append.1 (by have := hw2.nod; rwa [List.map_append] at this)).1, fun b o hm => .inr (List.mem_map.2 ⟨(b, o), hm, rfl⟩)⟩
    exact ((hc w hw).run hin).mono fun e w' ⟨v, Lo, h1, h2, h3⟩ => ⟨(v, Lo), h1, hw2.callM h3, h2⟩) fun v hv => h v.1 v.2 hv
end
end Go.Proofs.Ytligpachgcmkcaa
/- Drawn regions with several makings ready at once: states that meet. -/
set_option linter.unusedSimpArgs false
set_option linter.unusedVariables false
namespace Go.Proofs.Ytligpachgcmkcaa
open Go.RowKit Go.Shelf

section
variable {X : Cx} {all : Array Oper} {C L L' : Lst} {fuel fuel' : Nat} {listed listed' : Array Bool} {K : Env → Lst → Prop} {σ σ' : Env}
theorem A.weak (h : A X all C fuel listed K σ' L') (hs : Sub σ' σ) (hk : Keep L L') : A X all C fuel listed K σ L := ⟨fun a w ha hw hC => h.run a w (ha.sub hs) (hw.keep hk) hC⟩
theorem A.merge (P : Env → Lst → Prop) (fuel' : Nat) (listed' : Array Bool) (h1 : ∀ σ L, P σ L → A X all C fuel' listed' K σ L) (h2 : (∀ σ L, P σ L → A X all C fuel' listed' K σ L) → A X all C fuel listed K σ L) : A X all C fuel listed K σ L := h2 h1
/-- Those of a list, one by one. -/
def AllOf (X : Cx) (all : Array Oper) (C : Lst) (fuel : Nat) (listed : Array Bool) (K : Env → Lst → Prop) (σ : Env) (L : Lst) : List Nat → Prop
  | [] => True
  | i :: is => (∃ o, all[i]? = some o ∧ R X all [o] (fun σ' L' => SubL C L' ∧ A X all C fuel (listed.setIfInBounds i true) K σ' L') σ L) ∧ AllOf X all C fuel listed K σ L is
theorem AllOf.get : ∀ {rs : List Nat}, AllOf X all C fuel listed K σ L rs → ∀ i ∈ rs, ∃ o, all[i]? = some o ∧ R X all [o] (fun σ' L' => SubL C L' ∧ A X all C fuel (listed.setIfInBounds i true) K σ' L') σ L
  | [], _, i, hi => by cases hi
  | j :: js, h, i, hi => by
    rcases List.mem_cons.1 hi with rfl | hi
    · exact h.1
    · exact AllOf.get h.2 i hi
theorem A.multi (rs : List Nat) (hr : Region.ready .any all listed = rs) (hne : rs ≠ []) (h : AllOf X all C fuel listed K σ L rs) : A X all C (fuel + 1) listed K σ L :=
  ⟨fun a w ha hw hC => wpAnyC_all hr hne fun w' hc i hi => by
    obtain ⟨o, ho, h2⟩ := h.get i hi
    exact A.step ho h2 ha (hw.step hc) (hC.step hc)⟩
end
section
variable {X : Cx} {σ : Env} {L L' : Lst} {d : Option Nat} {dd b : Nat} {ty : TypeId} {pos : String} {af : Array Edge} {g : Option (Nat × Bool)} {x : Operand} {t e : TypeId} {r re : TRow}
variable {all : Array Oper} {rest : List Oper} {K : Env → Lst → Prop}
theorem mark_run {P : Program} (tb : Tb P) (ht : tb.row t = some r) (hk : r.k = .slice e) (he : tb.row e = some re) (hke : re.k = .int .u8) {w : World} {n c : Nat} {cs : List Value} (hb : w.heap[b]? = some (.cells ⟨cs⟩ e (0, 0))) :
    ∃ w', (convert t t (.slice (some ⟨b, 0, none⟩) n c)).run P w = .ok (.slice (some ⟨b, 0, none⟩) n c) w' ∧ w'.heap[b]? = some (.cells ⟨cs⟩ e (cs.length, cs.length + 1)) ∧ Chg [b] w w' := by
  have h2 : P.underlying t = some (.slice e) := by have := (tb.get ht).is; rw [hk] at this; exact this
  have h3 : P.underlying e = some (.int .u8) := by have := (tb.get he).is; rw [hke] at this; exact this
  have hsh : w.shape? b = some (e, cs.length) := by simp [World.shape?, hb]
  refine ⟨w.freeze ⟨b, cs.length, none⟩ 1, ?_, ?_, ?_⟩
  · simp [convert, run_underlying h2, run_underlying h3, markStringish, hsh]
  · simp [World.freeze, Array.getElem?_modify, hb]
  · refine ⟨rfl, rfl, rfl, ?_, Nat.le_refl _, ?_⟩
    · simp [World.freeze]
    · intro k hk hkb
      have hne : b ≠ k := fun h => hkb (by simp [h])
      simp [World.freeze, Array.getElem?_modify, hne]
/-- A constant's bytes get their mark. -/
theorem R.convSame {n c : Nat} {cs : List Value} (hn : Nat.blt dd X.n = true) (ht : X.tb.row t = some r) (hk : r.k = .slice e) (he : X.tb.row e = some re) (hke : re.k = .int .u8) (hx : ev σ x = some (.slice (some ⟨b, 0, none⟩) n c))
    (hu : Upd L b (.cells ⟨cs⟩ e (0, 0)) (.cells ⟨cs⟩ e (cs.length, cs.length + 1)) L') (h : R X all rest K ((dd, .slice (some ⟨b, 0, none⟩) n c) :: σ) L') :
    R X all (⟨some dd, .convert t t x, ty, pos, af, none⟩ :: rest) K σ L :=
  R.value rfl rfl hn fun a w ha hw => by
    obtain ⟨w', g1, g2, g3⟩ := mark_run (n := n) (c := c) X.tb ht hk he hke (hw.get _ _ hu.mem)
    refine ⟨_, w', L', ?_, hw.upd hu g3 g2, h⟩
    simp [execOp, ha.ev hx, g1]
/-- A slice's first ones as an array. -/
theorem Ok1.arrPtr {p : Option Addr} {n m c : Nat} (ht : X.tb.row t = some r) (hk : r.k = .arr n e) (hx : ev σ x = some (.slice p m c)) (hm : n ≤ m) : Ok1 X ⟨d, .sliceToArrayPointer t x, ty, pos, af, g⟩ σ L (.pointer p) := .mk fun a w ha hw => by
  have h2 := (X.tb.get ht).is
  rw [hk] at h2
  simp only [TK.is] at h2
  simp [execOp, Instr.arrayAt, run_underlying h2, ha.ev hx, Nat.not_lt.2 hm]
theorem ovsome {sz n : Nat} {ov : Ov} {xs : List Value} (h : OvOk sz ov n xs) (hn : 0 < n) : ∃ b j k, ov = some (b, j, k) := by
  cases ov with
  | none => have := h.2; omega
  | some z => obtain ⟨b, j, k⟩ := z; exact ⟨b, j, k, rfl⟩
end
end Go.Proofs.Ytligpachgcmkcaa
