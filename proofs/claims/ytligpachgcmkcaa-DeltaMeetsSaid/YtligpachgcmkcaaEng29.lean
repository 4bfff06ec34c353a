/- Equal bools, equal flat values; a walk that stops; calls that write nothing. -/
import Derived.Test.YtligpachgcmkcaaEng28
set_option linter.unusedSimpArgs false
set_option linter.unusedVariables false
namespace Go.Proofs.Ytligpachgcmkcaa
open Go.RowKit Go.Shelf
section
variable {X : Cx} {σ : Env} {L : Lst} {ty t : TypeId} {pos : String} {af : Array Edge} {x y : Operand} {r : TRow}
theorem Ok1.eqlB2 {d : Option Nat} {g : Option (Nat × Bool)} {ty2 : TypeId} {b : Bool} (ht : X.tb.row t = some r) (hk : r.k = .bool) (hx : ev σ x = some (.bool b)) (hy : ev σ y = some (.bool b)) : Ok1 X ⟨d, .binOp .eql t x y ty2, ty, pos, af, g⟩ σ L (.bool true) := .mk fun a w ha hw => by
  have hu : X.P.underlying t = some .bool := by have := (X.tb.get ht).is; rw [hk] at this; exact this
  have hE : ∀ n, (Op.equalIn (n + 1) t (.bool b) (.bool b)).run X.P w = .ok true w := by
    intro n
    rw [Op.equalIn]
    simp [run_underlying hu]
  obtain ⟨n, hm⟩ : ∃ n, Op.maxDepth = n + 1 := ⟨_, rfl⟩
  simp [execOp, ha.ev hx, ha.ev hy, eqGuard, binOp, Op.equal, hm, hE]
end
section
variable {X : Cx} {σ : Env} {L : Lst} {ty t : TypeId} {pos : String} {af : Array Edge} {x y : Operand} {r : TRow} {xs ys : List Value} {ks : List TK}
theorem Ok1.eqlFq2 {d : Option Nat} {g : Option (Nat × Bool)} {ty2 : TypeId} {q : Bool} (hx : ev σ x = some (.agg ⟨xs⟩)) (hy : ev σ y = some (.agg ⟨ys⟩)) (ht : X.tb.row t = some r) (hk : r.k.agg = some true) (hf : flatE X.tb 8 t = some ks) (h1 : allOk ks xs = true) (h2 : allOk ks ys = true) (hq : xs = ys ↔ q = true) :
    Ok1 X ⟨d, .binOp .eql t x y ty2, ty, pos, af, g⟩ σ L (.bool q) := by
  have h := Ok1.eqlF (X := X) (L := L) (ty2 := ty2) (d := d) (ty := ty) (pos := pos) (af := af) (g := g) hx hy ht hk hf h1 h2
  have e : ∀ (i : Decidable (xs = ys)), @decide (xs = ys) i = q := by intro i; cases q <;> simp_all
  rw [e] at h
  exact h
end
/-- The walk stops here. -/
structure Stop (p : Prop) : Prop where
  of : p
section
variable {X : Cx} {Q : Post} {σ : Env} {L : Lst}
theorem T.stop (i : Nat) {ops : Array Oper} {g : Bool} {c d : Code} (h : Stop (T X (.seq (.seq (.region i ops g) c) d) Q σ L)) : T X (.seq (.seq (.region i ops g) c) d) Q σ L := h.of
theorem T.stop1 (i : Nat) {ops : Array Oper} {g : Bool} {d : Code} (h : Stop (T X (.seq (.region i ops g) d) Q σ L)) : T X (.seq (.region i ops g) d) Q σ L := h.of
theorem T.stopA {c : Code} (d : Code) (hd : c = d) (h : Stop (T X c Q σ L)) : T X c Q σ L := h.of
end
theorem CallW.toM {P : Program} {f : FuncId} {vs : List Value} {w : World} {v : Value} (h : CallW P f vs w fun x _ => x = v) : CallM P f vs [] w fun x L => x = v ∧ L = [] :=
  ⟨fun _ => h.run.mono fun e w' ⟨x, h1, h2, h3⟩ => ⟨x, [], h1, ⟨h2, rfl⟩, ⟨h3, by simp, by simp, by simp⟩⟩⟩

section
variable {X : Cx} {σ : Env} {L Lr : Lst} {d : Option Nat} {dd : Nat} {ty : TypeId} {pos : String} {af : Array Edge} {g : Option (Nat × Bool)} {x y : Operand} {t t2 e : TypeId} {r r2 re : TRow}
variable {all : Array Oper} {rest : List Oper} {K : Env → Lst → Prop} {p : Option Addr} {n cap i : Nat}
/-- append(s, y...) of an empty y. -/
theorem R.append0 {ov : Ov} {cap2 e2 : Nat} (hn : Nat.blt dd X.n = true) (ht : X.tb.row t = some r) (hk : r.k = .slice e) (he : X.tb.row e = some re) (ht2 : X.tb.row t2 = some r2) (hk2 : r2.k = .slice e2)
    (hx : ev σ x = some (slV ov n)) (hy : ev σ y = some (.slice p 0 cap2)) (h0 : ov = none → n = 0)
    (h : R X all rest K ((dd, slV ov n) :: σ) L) :
    R X all (⟨some dd, .call { callee := .builtin .append, args := #[x, y], argTypes := #[t, t2] }, ty, pos, af, none⟩ :: rest) K σ L := by
  refine R.value rfl rfl hn fun a w ha hw => ?_
  have hrun := append_none X.tb (w := w) (ty := ty) (n := n) (p2 := p) (cap2 := cap2) (ov := ov) ht hk he ht2 hk2 h0
  refine ⟨slV ov n, w, L, ?_, hw, h⟩
  simp [execOp, resolve, ha.ev hx, ha.ev hy, invoke, builtin, hrun]
/-- append(s[:0:0], s...). -/
theorem clone_run {P : Program} (tb : Tb P) (ht : tb.row t = some r) (hk : r.k = .slice e) (he : tb.row e = some re) {zc : List Value} (hz : cellsE re.zero = some zc) (hzl : zc.length = re.size) (ht2 : tb.row t2 = some r2) {e2 : Nat} (hk2 : r2.k = .slice e2)
    {w0 w : World} {S : List Nat} {base : Option Addr} {s2 : Value} {m : Nat} {news : List Value} (hw : Hp w0 S L w) (hs2 : Builtin.lenOf s2 = Pure.pure m) (hn2 : Holds w s2 news) (hlen : news.length = m * re.size) (hm : 1 ≤ m)
    (hbig : (2 * m + 768) * re.bytes ≤ 281474976710656) (hb1 : 1 ≤ re.bytes) :
    ∃ b' j' junk' w', junk'.length = j' * re.size ∧ (Builtin.append_ #[t, t2] ty #[.slice base 0 0, s2]).run P w = .ok (.slice (some ⟨b', 0, none⟩) m (m + j')) w' ∧ Hp w0 S ((b', .cells ⟨news ++ junk'⟩ e (0, 0)) :: L) w' := by
  have hu : P.underlying t = some (.slice e) := by have := (tb.get ht).is; rw [hk] at this; exact this
  have hu2 : P.underlying t2 = some (.slice e2) := by have := (tb.get ht2).is; rw [hk2] at this; exact this
  have hbytes : ∃ i, P.info? e = some i ∧ i.bytes = re.bytes := by
    have := (tb.get he).bytes
    cases h : P.info? e with
    | none => rw [h] at this; cases this
    | some i => rw [h] at this; exact ⟨i, rfl, by simpa using this⟩
  obtain ⟨i, hi, hib⟩ := hbytes
  have hti : ∀ w, (typeInfo e).run P w = .ok i w := fun w => by simp [typeInfo, hi]
  have hzc := cellsE_eq hz
  have hnx := nextcap_le m 0 (by omega)
  have hnb : ¬ Builtin.nextslicecap m 0 * re.bytes > 2 ^ 48 := by
    have := Nat.mul_le_mul_right re.bytes hnx
    have : (2 : Nat) ^ 48 = 281474976710656 := by decide
    omega
  have hnew' : Holds w.drew s2 news := hn2
  obtain ⟨q, hq⟩ : ∃ q, (Question.appendCap m 0 e).cut (w.tape w.drawn (.appendCap m 0 e)) = m + q := ⟨_, rfl⟩
  refine ⟨w.heap.size, q, (Builtin.zeroCells (zeroCellsOf re) q).toList, w.drew.alloc (.cells ⟨news ++ (Builtin.zeroCells (zeroCellsOf re) q).toList⟩ e (0, 0)), ?_, ?_, ?_⟩
  · simp [zeroCells_size, zeroCellsOf, hzc, hzl]
  · have harr : (#[] ++ Array.mk news ++ Builtin.zeroCells re.zero.cells (m + q - m) : Array Value) = ⟨news ++ (Builtin.zeroCells (zeroCellsOf re) q).toList⟩ := by
      apply Array.toList_inj.1
      simp [zeroCellsOf]
    have hf1 : ∀ w, (Builtin.firstCells re.size 0 (.slice base 0 0)).run P w = .ok #[] w := by
      intro w; cases base <;> simp [Builtin.firstCells, loadCells, loadCellsFrom]
    have hf2 := first_run (P := P) hnew' hlen
    unfold Builtin.append_
    simp only [List.getElem?_toArray, List.getElem?_cons_zero, List.getElem?_cons_succ, Sem.run_bind, run_underlying hu, run_underlying hu2, Result.andThen_ok, (tb.get he).size, Sem.run_pure, Bool.false_eq_true, if_false, hs2, Bool.not_false, if_true, Nat.zero_add,
      show ¬ m ≤ 0 by omega, hti, hib, Sem.run_ite, show ¬ re.bytes = 0 by omega, or_false, and_false, false_or, hnb, run_choose, Question.forced, hq, run_askRoom, World.drew_eq, hf1, hf2, (tb.get he).zero, newRow, run_newObj, harr]
    rfl
  · exact (hw.step (Chg.drew [] w)).alloc _
/-- A clone: append to what has room for none. -/
theorem R.clone {α : Type} {v : α → List Value} {xs : List α} {sz : Nat} {base : Option Addr} {m cap2 e2 : Nat} {zc : List Value} (hn : Nat.blt dd X.n = true) (ht : X.tb.row t = some r) (hk : r.k = .slice e) (he : X.tb.row e = some re) (hz : cellsE re.zero = some zc) (hzl : zc.length = re.size) (ht2 : X.tb.row t2 = some r2) (hk2 : r2.k = .slice e2) (hb1 : Nat.ble 1 re.bytes = true) (hb2 : Nat.ble re.bytes 65536 = true)
    (hx : ev σ x = some (.slice base 0 0)) (hy : ev σ y = some (.slice p m cap2)) (hm : m = xs.length) (hv : ∀ a, (v a).length = sz) (hs : re.size = sz) (hh : ∀ w, Hp X.w0 X.S L w → RdSl w p v xs) (hnil : xs = [] → base = none) (hbig : m ≤ 1073741824)
    (h : ∀ ov', OvOk re.size ov' m (fl v xs) → (xs = [] → ov' = none) → R X all rest K ((dd, slV ov' m) :: σ) (blkL e ov' (fl v xs) ++ L)) :
    R X all (⟨some dd, .call { callee := .builtin .append, args := #[x, y], argTypes := #[t, t2] }, ty, pos, af, none⟩ :: rest) K σ L := by
  subst hm
  cases xs with
  | nil =>
    have hb := hnil rfl
    subst hb
    refine R.append0 (ov := none) (n := 0) hn ht hk he ht2 hk2 hx hy (fun _ => rfl) ?_
    have := h none ⟨by simp [fl], rfl⟩ (fun _ => rfl)
    simpa [blkL] using this
  | cons x0 xs =>
    refine R.value rfl rfl hn fun a w ha hw => ?_
    have h3 := Nat.le_of_ble_eq_true hb2
    have hbig' : (2 * (x0 :: xs).length + 768) * re.bytes ≤ 281474976710656 := by
      have := Nat.mul_le_mul (show 2 * (x0 :: xs).length + 768 ≤ 2147484416 by omega) h3
      omega
    have hlen : (fl v (x0 :: xs)).length = (x0 :: xs).length * re.size := by rw [fl_len hv, hs]
    obtain ⟨b', j', junk', w', g1, g2, g3⟩ := clone_run (base := base) X.tb (ty := ty) ht hk he hz hzl ht2 hk2 hw (s2 := .slice p (x0 :: xs).length cap2) rfl ((hh w hw).holds (by simp)) hlen (by simp) hbig' (Nat.le_of_ble_eq_true hb1)
    refine ⟨slV (some (b', j', junk')) (x0 :: xs).length, w', _, ?_, ?_, h (some (b', j', junk')) ⟨hlen, g1⟩ (fun e => by cases e)⟩
    · simp only [execOp, resolve, ha.ev hx, ha.ev hy, invoke, builtin]
      simp only [List.length_cons] at g2
      simp [ha.ev hx, ha.ev hy, g2, slV]
    · exact g3
end

section
variable {X : Cx} {σ : Env} {L Lr : Lst} {d : Option Nat} {ty : TypeId} {pos : String} {af : Array Edge} {g : Option (Nat × Bool)} {x : Operand} {t e : TypeId} {r re : TRow} {p : Option Addr} {n m cap b o i : Nat}
theorem Ok1.sliceArrTo {hi : Operand} (ht : X.tb.row t = some r) (hk : r.k = .arr n e) (he : X.tb.row e = some re) (hx : ev σ x = some (.pointer (some ⟨b, o, none⟩))) (hh : ev σ hi = some (.int .i64 i)) (h1 : i ≤ n) :
    Ok1 X ⟨d, .slice t x none (some hi) none, ty, pos, af, g⟩ σ L (.slice (some ⟨b, o, none⟩) i n) := .mk fun a w ha hw => by
  have h2 := (X.tb.get ht).is
  rw [hk] at h2
  simp only [TK.is] at h2
  have h6 : ((i : Int) ≤ (n : Int)) := by omega
  simp [execOp, Instr.sliceAt, run_underlying h2, ha.ev hx, ha.ev hh, Instr.sureAddr, Instr.sliceBounds, Instr.sliceBound, asIntOf, (X.tb.get he).size, Addr.add_none, h1, h6]
theorem Ok1.arrAt (ht : X.tb.row t = some r) (hk : r.k = .arr n e) (hx : ev σ x = some (.slice p m cap)) (h1 : n ≤ m) :
    Ok1 X ⟨d, .sliceToArrayPointer t x, ty, pos, af, g⟩ σ L (.pointer p) := .mk fun a w ha hw => by
  have h2 := (X.tb.get ht).is
  rw [hk] at h2
  simp only [TK.is] at h2
  have h3 : ¬ (m < n) := by omega
  simp [execOp, Instr.arrayAt, run_underlying h2, ha.ev hx, h3]
end
end Go.Proofs.Ytligpachgcmkcaa
