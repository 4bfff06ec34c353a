/- Texts of the proof: Eng19, Eng21, Eng24, Eng26, Eng31, Eng20, Eng30, Eng15, Eng22, Eng25, S0, Tab, Dg1, Dg2, Dg3, Dg4. -/
import Derived.Test.YtligngjcnlbgmaaGreatL26pb1
import Derived.RangeFuncRecord
import Derived.TacticsIn
import Derived.OrdersIn
import Derived.ProofKit
import Derived.Deep.Slices
import Derived.OpenShut
import Derived.Test.YtligngjcnlbgmaaGreatProg
set_option linter.unusedSimpArgs false
set_option linter.unusedVariables false
set_option linter.unusedSectionVars false
namespace Go.Proofs.YtligngjcnlbgmaaGreat
open Go.RowKit Go.Shelf
section
variable {X : Cx} {σ : Env} {L Li Lr : Lst} {dd : Nat} {ty : TypeId} {pos : String} {af : Array Edge} {f : FuncId} {ats : Array TypeId} {c : Operand} {fa cb : List Value}
variable {all : Array Oper} {rest : List Oper} {K : Env → Lst → Prop} {xs : List Operand} {vs : List Value} {v : Value}
/-- The arguments' list of a call. -/
theorem evs_map {n : Nat} {a : Act} (ha : Mod n a σ) : ∀ {xs : List Operand} {vs : List Value}, evs σ xs = some vs → xs.map a.eval = vs
  | [], vs, h => by simp [evs] at h; simp [← h]
  | x :: xs, vs, h => by
    simp only [evs] at h
    cases h1 : ev σ x with
    | none => simp [h1] at h
    | some u =>
      cases h2 : evs σ xs with
      | none => simp [h1, h2] at h
      | some us =>
        simp [h1, h2] at h
        subst h
        simp [ha.ev h1, evs_map ha h2]
theorem R.callF {α : Type} {v : α → Value} {L' : α → Lst} {I : α → Prop}
    (hcv : ev σ c = some (.func (.func f) fa.toArray cb.toArray)) (he : X.tb.fns.contains f = true) (hx : evs σ xs = some vs) (hn : Nat.blt dd X.n = true)
    (hc : ∀ w, Hp X.w0 X.S L w → Calls X.P f (fa ++ vs ++ cb).toArray w fun e w' => ∃ x, e = .returned (v x) ∧ Hp X.w0 X.S (L' x) w' ∧ I x)
    (h : ∀ x, I x → R X all rest K ((dd, v x) :: σ) (L' x)) :
    R X all ({ dst := some dd, op := .call { callee := .value c, args := xs.toArray, argTypes := ats }, type := ty, pos := pos, after := af, guard := none } :: rest) K σ L := by
  refine ⟨fun a w ha hw => wpList_plain rfl fun K' hK' => ?_⟩
  unfold Oper.wp
  have hr : (execOp a.eval { dst := some dd, op := .call { callee := .value c, args := xs.toArray, argTypes := ats }, type := ty, pos := pos, after := af, guard := none }).run X.P w = .ok (.enter f (fa ++ vs ++ cb).toArray) w := by
    have := X.tb.ent he (fa ++ vs ++ cb).toArray w
    have hm : xs.toArray.map a.eval = vs.toArray := by rw [List.map_toArray, evs_map ha hx]
    simp only [execOp, resolve, ha.ev hcv, hm, Deferred.ofValue, Sem.run_bind, Sem.run_pure, Result.andThen_ok, invoke, List.append_toArray]
    exact this
  rw [hr, Oper.upon_enter]
  refine (hc w hw).mono fun e w' ⟨x, he, hw', hx⟩ => ?_
  subst he
  exact hK' _ _ ((h x hx).run _ _ (ha.put (blt_lt hn) _) hw')
/-- A function value, called by its contract: one value, nothing old has changed. -/
theorem R.callFV (hcv : ev σ c = some (.func (.func f) fa.toArray cb.toArray)) (he : X.tb.fns.contains f = true) (hx : evs σ xs = some vs) (hn : Nat.blt dd X.n = true)
    (hc : ∀ w, Hp X.w0 X.S L w → CallW X.P f (fa ++ vs ++ cb) w fun u _ => u = v) (h : R X all rest K ((dd, v) :: σ) L) :
    R X all ({ dst := some dd, op := .call { callee := .value c, args := xs.toArray, argTypes := ats }, type := ty, pos := pos, after := af, guard := none } :: rest) K σ L :=
  R.callF (α := Unit) (v := fun _ => v) (L' := fun _ => L) (I := fun _ => True) hcv he hx hn (fun w hw => (hc w hw).run.mono fun e w' ⟨u, h1, h2, h3⟩ => ⟨(), by rw [h1, h2], hw.step h3, trivial⟩) fun _ _ => h
theorem R.callFP (hcv : ev σ c = some (.func (.func f) fa.toArray cb.toArray)) (he : X.tb.fns.contains f = true) (hx : evs σ xs = some vs) (hn : Nat.blt dd X.n = true)
    (hc : CallP X.P f (fa ++ vs ++ cb) v) (h : R X all rest K ((dd, v) :: σ) L) :
    R X all ({ dst := some dd, op := .call { callee := .value c, args := xs.toArray, argTypes := ats }, type := ty, pos := pos, after := af, guard := none } :: rest) K σ L :=
  R.callFV hcv he hx hn (fun w hw => ⟨(hc.run w).mono fun e w' ⟨h1, h2⟩ => ⟨_, h1, rfl, h2⟩⟩) h
end
section
variable {X : Cx} {σ : Env} {L : Lst} {dd c : Nat} {ty t : TypeId} {pos : String} {af : Array Edge} {r : TRow} {x : Operand} {all : Array Oper} {rest : List Oper} {K : Env → Lst → Prop}
end
/-- A row of an own slice (or a part of it), read back. -/
theorem own_row {α : Type} {v : α → List Value} {rs : List α} {sz : Nat} (hv : ∀ a, (v a).length = sz) {j : Nat} {a : α} (hr : rs[j]? = some a) {k : Nat} (hk : k < sz) {junk : List Value} : (fl v rs ++ junk)[j * sz + k]? = (v a)[k]? := by
  have h1 := (List.getElem?_eq_some_iff.1 hr).1
  have h2 := Nat.mul_le_mul_right sz (show j + 1 ≤ rs.length from h1)
  rw [Nat.add_mul, Nat.one_mul] at h2
  rw [List.getElem?_append_left (by rw [fl_len hv]; omega), fl_get hv hr hk]
section
variable {X : Cx} {L : Lst} {t : TypeId} {r : TRow} {α : Type} {v : α → List Value} {rs : List α} {sz b j f o : Nat} {a : α} {junk : List Value} {te : TypeId} {fz : Nat × Nat} {u : Value} {us : List Value}
theorem Ld.ownrow1 (hat : At L b (.cells ⟨fl v rs ++ junk⟩ te fz)) (hv : ∀ a, (v a).length = sz) (hr : rs[j]? = some a) (ho : o = j * sz + f) (ht : X.tb.row t = some r) (hk : r.k.agg = some false) (hf : (v a)[f]? = some u) : Ld X L t ⟨b, o, none⟩ u :=
  .own1 ht hk hat (by rw [ho, own_row hv hr (by rw [← hv a]; exact (List.getElem?_eq_some_iff.1 hf).1)]; exact hf)
theorem Ld.ownrowk (hat : At L b (.cells ⟨fl v rs ++ junk⟩ te fz)) (hv : ∀ a, (v a).length = sz) (hr : rs[j]? = some a) (ho : o = j * sz + f) (ht : X.tb.row t = some r) (hk : r.k.agg = some true) (hf : subE (v a) f r.size = some us) : Ld X L t ⟨b, o, none⟩ (.agg ⟨us⟩) := by
  obtain ⟨h1, h2⟩ := subE_spec hf
  refine .ofk ht hk h1 fun w hw i hi => ?_
  have h3 := h2 i hi
  have hlt : f + i < sz := by
    rcases Nat.lt_or_ge (f + i) sz with h | h
    · exact h
    · rw [List.getElem?_eq_none (by rw [hv]; exact h), List.getElem?_eq_getElem (by omega)] at h3; cases h3
  rw [hat.cell hw, ho, show j * sz + f + i = j * sz + (f + i) by omega, own_row hv hr hlt, h3]
end
theorem CallP.at {P : Program} {f : FuncId} {vs : List Value} {v : Value} (h : CallP P f vs v) (w : World) : CallW P f vs w fun u _ => u = v := ⟨(h.run w).mono fun e w' ⟨h1, h2⟩ => ⟨_, h1, rfl, h2⟩⟩
end Go.Proofs.YtligngjcnlbgmaaGreat
set_option linter.unusedSimpArgs false
set_option linter.unusedVariables false
set_option linter.unusedSectionVars false
namespace Go.Proofs.YtligngjcnlbgmaaGreat
open Go.RowKit Go.Shelf
def cutV (ov : Ov) (n : Nat) : Value := match ov with
  | none => .slice none 0 0
  | some (b, _, _) => .slice (some ⟨b, 0, none⟩) n n
section
variable {X : Cx} {σ : Env} {L L' : Lst} {dd b e : Nat} {ty : TypeId} {pos : String} {af : Array Edge} {d : Option Nat} {g : Option (Nat × Bool)} {x y z : Operand} {t t2 kt et : TypeId} {r re : TRow}
variable {all : Array Oper} {rest : List Oper} {K : Env → Lst → Prop}
variable {κ : Type} [DecidableEq κ] {kv : κ → Value} {vk : Value}
/-- Its first ones, and room for no more. -/
theorem Ok1.sliceCut {ov : Ov} {n sz : Nat} {xs : List Value} {hi mx : Operand} {h : Int} (ht : X.tb.row t = some r) (hk : r.k = .slice e) (he : X.tb.row e = some re) (hx : ev σ x = some (slV ov n)) (hok : OvOk sz ov n xs) (hh : ev σ hi = some (.int .i64 h)) (hm : ev σ mx = some (.int .i64 h)) (h0 : 0 ≤ h) (h1 : h ≤ n) :
    Ok1 X ⟨d, .slice t x none (some hi) (some mx), ty, pos, af, g⟩ σ L (cutV ov h.toNat) := by
  cases ov with
  | none =>
    have h2 : n = 0 := hok.2
    have h3 : h = 0 := by omega
    subst h3
    exact Ok1.slice0 (h := 0) (m := 0) (l := 0) ht hk he hx (by simp [bd, hm]) (by simp [bd, hh]) rfl ⟨rfl, rfl, rfl⟩ (.inr (by simp))
  | some q =>
    obtain ⟨b, j, junk⟩ := q
    exact Ok1.sliceTo (h := h) (m := h) ht hk he hx (by simp [bd, hm]) (by simp [bd, hh]) h0 (by omega) (by omega) (.inr (by simp))
end
def ovp (ov : Ov) : Option Addr := match ov with | none => none | some (b, _, _) => some ⟨b, 0, none⟩
def ovc (ov : Ov) (n : Nat) : Nat := match ov with | none => 0 | some (_, j, _) => n + j
theorem slV_eq {sz n : Nat} {ov : Ov} {xs : List Value} (h : OvOk sz ov n xs) : slV ov n = .slice (ovp ov) n (ovc ov n) := by
  cases ov with
  | none => have : n = 0 := h.2; subst this; rfl
  | some x => rfl
theorem RdSl.own' {α : Type} {v : α → List Value} {e sz : Nat} {ov : Ov} {rs : List α} {w0 w : World} {S : List Nat} {L : Lst} (hw : Hp w0 S L w) (hb : ∀ x ∈ blkL e ov (fl v rs), x ∈ L) (hok : OvOk sz ov rs.length (fl v rs)) (hv : ∀ a, (v a).length = sz) : RdSl w (ovp ov) v rs := by
  have := RdSl.own hw hb hok hv
  cases ov <;> exact this
theorem Ok1.lenOv {X : Cx} {σ : Env} {L : Lst} {t e : TypeId} {r : TRow} {ov : Ov} {n sz : Nat} {xs : List Value} {x : Operand} {ty : TypeId} {pos : String} {af : Array Edge} {d : Option Nat} {g : Option (Nat × Bool)}
    (ht : X.tb.row t = some r) (hk : r.k = .slice e) (hx : ev σ x = some (slV ov n)) (hok : OvOk sz ov n xs) : Ok1 X ⟨d, .call { callee := .builtin .len, args := #[x], argTypes := #[t] }, ty, pos, af, g⟩ σ L (.int .i64 n) := by
  cases ov with
  | none => have := hok.2; subst this; exact Ok1.lenS ht hk hx
  | some q => obtain ⟨b, j, junk⟩ := q; exact Ok1.lenS ht hk hx
theorem RdSl.of {α : Type} {v : α → List Value} {rs : List α} {w0 w : World} {S : List Nat} {L : Lst} {b : Nat} {e : TypeId} {fz : Nat × Nat} {cs junk : List Value} (hw : Hp w0 S L w) (hat : At L b (.cells ⟨cs⟩ e fz)) (hc : cs = fl v rs ++ junk) : RdSl w (some ⟨b, 0, none⟩) v rs := by
  subst hc
  right
  refine ⟨b, 0, rfl, fun k hk => ?_⟩
  have := hw.get b _ hat.mem
  simp only [World.cell?, this]
  simp [hk, List.getElem?_append_left]
theorem Off.of {w0 w : World} {S : List Nat} {L Li Lr : Lst} {b k : Nat} {o : Obj} (hw : Hp w0 S L w) (he : Ext L Li Lr) (hat : At Lr b o) : Off (some ⟨b, k, none⟩) (blks Li) := by
  intro a ha
  cases ha
  exact RdSl.off hw he hat.mem
theorem RdSl.chg {α : Type} {v : α → List Value} {rs : List α} {w w' : World} {S : List Nat} {p : Option Addr} (h : RdSl w p v rs) (hc : Chg S w w') (ho : Off p S) : RdSl w' p v rs := by
  rcases h with h | ⟨b, o, hp, h⟩
  · exact .inl h
  · refine .inr ⟨b, o, hp, fun k hk => ?_⟩
    have h1 := h k hk
    have h2 := ho _ hp
    rw [List.getElem?_eq_getElem hk] at h1 ⊢
    exact hc.cell h1 h2
theorem Off.nil (p : Option Addr) : Off p [] := fun _ _ => List.not_mem_nil
end Go.Proofs.YtligngjcnlbgmaaGreat
set_option linter.unusedSimpArgs false
set_option linter.unusedVariables false
set_option linter.unusedSectionVars false
namespace Go.Proofs.YtligngjcnlbgmaaGreat
open Go.RowKit Go.Shelf
theorem fl_app {α : Type} (v : α → List Value) (xs ys : List α) : fl v (xs ++ ys) = fl v xs ++ fl v ys := by simp [fl]
theorem Holds.ov {w0 w : World} {S : List Nat} {L : Lst} {e2 sz m : Nat} {ov2 : Ov} {xs : List Value} (hok : OvOk sz ov2 m xs) (hb : ∀ x ∈ blkL e2 ov2 xs, x ∈ L) (hw : Hp w0 S L w) : Holds w (slV ov2 m) xs := by
  cases ov2 with
  | none =>
    have h2 : m = 0 := hok.2
    have h1 := hok.1
    subst h2
    have : xs = [] := by cases xs; rfl; simp at h1
    subst this
    exact rfl
  | some x =>
    obtain ⟨b, j, junk⟩ := x
    have := hw.get b _ (hb _ List.mem_cons_self)
    intro i hi
    simp only [World.cell?, this, Nat.zero_add]
    simp [List.getElem?_append_left, hi]
section
variable {X : Cx} {σ : Env} {L Lr : Lst} {dd : Nat} {ty : TypeId} {pos : String} {af : Array Edge} {x y : Operand} {t t2 e : TypeId} {r r2 re : TRow}
variable {all : Array Oper} {rest : List Oper} {K : Env → Lst → Prop}
theorem append_none {P : Program} (tb : Tb P) {w : World} {ov : Ov} {n cap2 e2 : Nat} {p2 : Option Addr} (ht : tb.row t = some r) (hk : r.k = .slice e) (he : tb.row e = some re) (ht2 : tb.row t2 = some r2) (hk2 : r2.k = .slice e2) (hn : ov = none → n = 0) :
    (Builtin.append_ #[t, t2] ty #[slV ov n, .slice p2 0 cap2]).run P w = .ok (slV ov n) w := by
  have hu : P.underlying t = some (.slice e) := by have := (tb.get ht).is; rw [hk] at this; exact this
  have hu2 : P.underlying t2 = some (.slice e2) := by have := (tb.get ht2).is; rw [hk2] at this; exact this
  have hf : (Builtin.firstCells re.size 0 (.slice p2 0 cap2)).run P w = .ok #[] w := by
    cases p2 <;> simp [Builtin.firstCells, loadCells, loadCellsFrom]
  unfold Builtin.append_
  cases ov with
  | none =>
    simp [slV, run_underlying hu, run_underlying hu2, (tb.get he).size, Builtin.lenOf, hf]
  | some q =>
    obtain ⟨b, j, junk⟩ := q
    simp [slV, run_underlying hu, run_underlying hu2, (tb.get he).size, Builtin.lenOf, hf, storeCells]
theorem append_none' {P : Program} (tb : Tb P) {w : World} {ov : Ov} {n e2 : Nat} {s2 : Value} (ht : tb.row t = some r) (hk : r.k = .slice e) (he : tb.row e = some re) (ht2 : tb.row t2 = some r2) (hk2 : r2.k = .slice e2) (hn : ov = none → n = 0) (hs2 : Builtin.lenOf s2 = Pure.pure 0) (hh : Holds w s2 []) :
    (Builtin.append_ #[t, t2] ty #[slV ov n, s2]).run P w = .ok (slV ov n) w := by
  have hu : P.underlying t = some (.slice e) := by have := (tb.get ht).is; rw [hk] at this; exact this
  have hu2 : P.underlying t2 = some (.slice e2) := by have := (tb.get ht2).is; rw [hk2] at this; exact this
  have hf : (Builtin.firstCells re.size 0 s2).run P w = .ok #[] w := first_run hh (by simp)
  unfold Builtin.append_
  cases ov with
  | none =>
    simp [slV, run_underlying hu, run_underlying hu2, (tb.get he).size, hs2, hf]
  | some q =>
    obtain ⟨b, j, junk⟩ := q
    simp [slV, run_underlying hu, run_underlying hu2, (tb.get he).size, hs2, hf, storeCells]
/-- append(s, y...): s a slice of one's own, y any slice of which is known what it holds. -/
theorem R.appendH {ov : Ov} {n m e2 : Nat} {old news zc : List Value} {s2 : Value} (hn : Nat.blt dd X.n = true) (ht : X.tb.row t = some r) (hk : r.k = .slice e) (he : X.tb.row e = some re) (hz : cellsE re.zero = some zc) (hzl : zc.length = re.size) (ht2 : X.tb.row t2 = some r2) (hk2 : r2.k = .slice e2) (hb1 : Nat.ble 1 re.bytes = true) (hb2 : Nat.ble re.bytes 65536 = true)
    (hx : ev σ x = some (slV ov n)) (hy : ev σ y = some s2) (hs2 : Builtin.lenOf s2 = Pure.pure m) (hok : OvOk re.size ov n old) (hp : Ext L (blkL e ov old) Lr) (hh : ∀ w, Hp X.w0 X.S L w → Holds w s2 news) (hlen : news.length = m * re.size)
    (h1 : news.all Value.oneCell' = true) (hbig : n + m ≤ 1073741824)
    (h : ∀ ov', OvOk re.size ov' (n + m) (old ++ news) → R X all rest K ((dd, slV ov' (n + m)) :: σ) (blkL e ov' (old ++ news) ++ Lr)) :
    R X all (⟨some dd, .call { callee := .builtin .append, args := #[x, y], argTypes := #[t, t2] }, ty, pos, af, none⟩ :: rest) K σ L :=
  R.value rfl rfl hn fun a w ha hw => by
    have hw2 := hw.perm hp.perm
    rcases Nat.eq_zero_or_pos m with h0 | h0
    · subst h0
      have hnews : news = [] := by cases news; rfl; simp at hlen
      subst hnews
      have hrun := append_none' X.tb (w := w) (ty := ty) (n := n) (ov := ov) ht hk he ht2 hk2 (fun e => by subst e; exact hok.2) hs2 (hh w hw)
      refine ⟨slV ov n, w, blkL e ov (old ++ []) ++ Lr, ?_, by rw [List.append_nil]; exact hw2, h ov (by rw [List.append_nil]; exact hok)⟩
      simp [execOp, resolve, ha.ev hx, ha.ev hy, invoke, builtin, hrun]
    · have h3 := Nat.le_of_ble_eq_true hb2
      have hbig' : (2 * (n + m) + 768) * re.bytes ≤ 281474976710656 := by
        have := Nat.mul_le_mul (show 2 * (n + m) + 768 ≤ 2147484416 by omega) h3
        omega
      obtain ⟨b', j', junk', w', g1, g2, g3⟩ := append_run X.tb (ty := ty) ht hk he hz hzl ht2 hk2 hw2 (OwnAt.mid hok) hs2 (hh w hw) hlen h1 h0 hbig' (Nat.le_of_ble_eq_true hb1)
      refine ⟨slV (some (b', j', junk')) (n + m), w', _, ?_, g3, h (some (b', j', junk')) ⟨by rw [List.length_append, hok.1, hlen, Nat.add_mul], g1⟩⟩
      simp [execOp, resolve, ha.ev hx, ha.ev hy, invoke, builtin, g2]
      rfl
theorem R.buildSlice0 (hn : Nat.blt dd X.n = true) (ht : X.tb.row t = some r) (hk : r.k = .slice e) (he : X.tb.row e = some re)
    (h : ∀ b, R X all rest K ((dd, slV (some (b, 0, [])) 0) :: σ) ((b, .cells ⟨[]⟩ e (0, 0)) :: L)) : R X all (⟨some dd, .buildSlice t 0 #[], ty, pos, af, none⟩ :: rest) K σ L :=
  R.value rfl rfl hn fun a w ha hw => by
    refine ⟨.slice (some ⟨w.heap.size, 0, none⟩) 0 0, w.alloc (.cells ⟨[]⟩ e (0, 0)), _, ?_, hw.alloc _, h _⟩
    have h2 := (X.tb.get ht).is
    rw [hk] at h2
    simp only [TK.is] at h2
    have h3 : Array.range 0 = #[] := by apply Array.toList_inj.1; simp
    simp [execOp, Instr.buildSlice, run_underlying h2, (X.tb.get he).size, Instr.fill, newRow, run_newObj, h3]
theorem R.make1 {n : Nat} {k k' : IntKind} {z' : Value} (hn : Nat.blt dd X.n = true) (ht : X.tb.row t = some r) (hk : r.k = .slice e) (he : X.tb.row e = some re) (hz : cellsE re.zero = some [z']) (hs : Nat.beq re.size 1 = true) (hb : Nat.ble re.bytes 65536 = true)
    (hx : ev σ x = some (.int k n)) (hy : ev σ y = some (.int k' n)) (hle : n ≤ 1073741824)
    (h : ∀ b, R X all rest K ((dd, .slice (some ⟨b, 0, none⟩) n n) :: σ) ((b, .cells ⟨List.replicate n z'⟩ e (0, 0)) :: L)) : R X all (⟨some dd, .makeSlice t x y, ty, pos, af, none⟩ :: rest) K σ L :=
  R.value rfl rfl hn fun a w ha hw => by
    have hu : X.P.underlying t = some (.slice e) := by have := (X.tb.get ht).is; rw [hk] at this; exact this
    obtain ⟨i, hi, hib⟩ : ∃ i, X.P.info? e = some i ∧ i.bytes = re.bytes := by
      have := (X.tb.get he).bytes
      cases h : X.P.info? e with
      | none => rw [h] at this; cases this
      | some i => rw [h] at this; exact ⟨i, rfl, by simpa using this⟩
    have hti : ∀ w, (typeInfo e).run X.P w = .ok i w := fun w => by simp [typeInfo, hi]
    have hzc := cellsE_eq hz
    have hs1 := Nat.eq_of_beq_eq_true hs
    have hb1 := Nat.le_of_ble_eq_true hb
    have hwr : IntKind.i64.wrap (n : Int) = n := IntWalk.i64_in _ ⟨by omega, by omega⟩
    have hlt : ¬ ((re.bytes : Int) * (n : Int) > 2 ^ 48) := by
      have : re.bytes * n ≤ 65536 * 1073741824 := Nat.mul_le_mul hb1 hle
      have h9 : ((re.bytes * n : Nat) : Int) = (re.bytes : Int) * (n : Int) := by simp
      have h10 : (2 : Int) ^ 48 = 281474976710656 := by decide
      omega
    have hcells : (Array.range (n * 1)).map (fun i => (Array.mk [z'])[i % (Array.mk [z']).size]!) = (⟨List.replicate n z'⟩ : Array Value) := by
      apply Array.ext_getElem?
      intro j
      by_cases hj : j < n <;> simp [Array.getElem?_map, Array.getElem?_range, List.getElem?_replicate, hj, Nat.mod_one]
    refine ⟨.slice (some ⟨w.heap.size, 0, none⟩) n n, w.alloc (.cells ⟨List.replicate n z'⟩ e (0, 0)), _, ?_, hw.alloc _, h _⟩
    have hai : ∀ (k : IntKind) (w : World), (asInt (.int k n)).run X.P w = .ok (n : Int) w := fun k w => by simp [asInt, asIntOf]
    have hlt' : ¬ (2 ^ 48 < (re.bytes : Int) * (n : Int)) := hlt
    simp only [execOp, ha.ev hx, ha.ev hy, Instr.makeSlice, Sem.run_bind, run_underlying hu, Result.andThen_ok, hai, hti, hib, hwr, gt_iff_lt, hlt', show ¬ ((n : Int) < 0) by omega, Int.lt_irrefl, decide_false, Bool.or_self, Bool.false_eq_true, if_false, Sem.run_pure, run_askRoom, (X.tb.get he).size, hs1, Int.toNat_natCast, newRow, run_newObj]
    by_cases h0 : n = 0
    · subst h0
      have h3 : Array.range (0 * 1) = #[] := by apply Array.toList_inj.1; simp
      simp [h3]
    · have hne : ¬ n * 1 = 0 := by omega
      simp only [if_neg hne, Sem.run_bind, (X.tb.get he).zero, hzc, Result.andThen_ok, Sem.run_pure, run_newObj, hcells]
      rfl
end
section
variable {X : Cx} {all : Array Oper} {C : Lst} {fuel : Nat} {listed : Array Bool} {K : Env → Lst → Prop} {σ : Env}
end
end Go.Proofs.YtligngjcnlbgmaaGreat
set_option linter.unusedSimpArgs false
set_option linter.unusedVariables false
namespace Go.Proofs.YtligngjcnlbgmaaGreat
open Go.RowKit Go.Shelf
section
variable {α : Type} {v : α → List Value} {sz : Nat}
theorem fl_takeG (hv : ∀ a, (v a).length = sz) (l : List α) (i : Nat) : (fl v l).take (i * sz) = fl v (l.take i) := by
  induction l generalizing i with
  | nil => simp [fl]
  | cons a l ih =>
    cases i with
    | zero => simp [fl]
    | succ i =>
      have := ih i
      simp only [fl, List.map_cons, List.flatten_cons, List.take_succ_cons] at this ⊢
      rw [Nat.add_mul, List.take_append, ← this, hv, List.take_of_length_le (by rw [hv]; omega)]
      congr 2
      omega
theorem fl_dropG (hv : ∀ a, (v a).length = sz) (l : List α) (i : Nat) : (fl v l).drop (i * sz) = fl v (l.drop i) := by
  induction l generalizing i with
  | nil => simp [fl]
  | cons a l ih =>
    cases i with
    | zero => simp [fl]
    | succ i =>
      have := ih i
      simp only [fl, List.map_cons, List.flatten_cons, List.drop_succ_cons] at this ⊢
      rw [Nat.add_mul, List.drop_append, ← this, hv, List.drop_of_length_le (by rw [hv]; omega), List.nil_append]
      congr 1
      omega
theorem fl_cut (l : List α) {i : Nat} {x : α} (h : l[i]? = some x) : fl v l = fl v (l.take i) ++ (v x ++ fl v (l.drop (i + 1))) := by
  obtain ⟨hi, rfl⟩ := List.getElem?_eq_some_iff.1 h
  conv => lhs; rw [← List.take_append_drop i l, List.drop_eq_getElem_cons hi]
  simp only [fl, List.map_append, List.map_cons, List.flatten_append, List.flatten_cons]
theorem fl_set (l : List α) {i : Nat} (a : α) (h : i < l.length) : fl v (l.set i a) = fl v (l.take i) ++ (v a ++ fl v (l.drop (i + 1))) := by
  have h1 : (l.set i a)[i]? = some a := by simp [h]
  rw [fl_cut _ h1]
  congr 2
  · rw [List.take_set_of_le (Nat.le_refl _)]
  · congr 1
    rw [List.drop_set_of_lt (by omega)]
/-- A whole row written. -/
theorem setE_row (hv : ∀ a, (v a).length = sz) {l : List α} {i : Nat} (hi : i < l.length) (a : α) (junk : List Value) : setE (fl v l ++ junk) (0 + i * sz) (v a) = some (fl v (l.set i a) ++ junk) := by
  have h1 : l[i]? = some l[i] := List.getElem?_eq_getElem hi
  rw [fl_cut l h1, fl_set l a hi]
  have hl : (fl v (l.take i)).length = 0 + i * sz := by rw [fl_len hv, List.length_take, Nat.min_eq_left (by omega)]; omega
  have := setE_mid (fl v (l.take i)) (vs := v a) (junk := v l[i] ++ fl v (l.drop (i + 1)) ++ junk) (by rw [List.length_append, List.length_append, hv, hv]; omega)
  rw [hl] at this
  have e : fl v (l.take i) ++ (v l[i] ++ fl v (l.drop (i + 1))) ++ junk = fl v (l.take i) ++ (v l[i] ++ fl v (l.drop (i + 1)) ++ junk) := by simp only [List.append_assoc]
  rw [e, this]
  congr 1
  rw [show (v l[i] ++ fl v (l.drop (i + 1)) ++ junk).drop (v a).length = fl v (l.drop (i + 1)) ++ junk by rw [List.append_assoc, List.drop_append, hv, List.drop_of_length_le (by rw [hv]; omega), hv, Nat.sub_self]; rfl]
  simp only [List.append_assoc]
end
theorem setE_one {v : Value} : ∀ {cs : List Value} {o : Nat}, o < cs.length → setE cs o [v] = some (cs.set o v)
  | [], o, h => by simp at h
  | c :: cs, 0, h => by cases cs <;> simp [setE]
  | c :: cs, o + 1, h => by simp [setE, setE_one (by simpa using h)]
theorem RdSl.ofMem {α : Type} {v : α → List Value} {rs : List α} {w0 w : World} {S : List Nat} {L : Lst} {b : Nat} {e : TypeId} {fz : Nat × Nat} {cs junk : List Value} (hw : Hp w0 S L w) (hm : (b, Obj.cells ⟨cs⟩ e fz) ∈ L) (hc : cs = fl v rs ++ junk) : RdSl w (some ⟨b, 0, none⟩) v rs := by
  subst hc
  right
  refine ⟨b, 0, rfl, fun k hk => ?_⟩
  have := hw.get b _ hm
  simp only [World.cell?, this]
  simp [hk, List.getElem?_append_left]
end Go.Proofs.YtligngjcnlbgmaaGreat
set_option linter.unusedSimpArgs false
set_option linter.unusedVariables false
set_option linter.unusedSectionVars false
namespace Go.Proofs.YtligngjcnlbgmaaGreat
open Go.RowKit Go.Shelf
theorem subE_app : ∀ (xs junk : List Value) {n : Nat}, xs.length = n → subE (xs ++ junk) 0 n = some xs
  | [], junk, n, h => by simp at h; subst h; cases junk <;> rfl
  | x :: xs, junk, n, h => by
    cases n with
    | zero => simp at h
    | succ n =>
      have := subE_app xs junk (n := n) (by simpa using h)
      simp only [List.cons_append, subE, this]
theorem subE_all {xs : List Value} {n : Nat} (h : xs.length = n) : subE xs 0 n = some xs := by
  have := subE_app xs [] h
  rwa [List.append_nil] at this
theorem setE_all {cs vs : List Value} (h : vs.length = cs.length) : setE cs 0 vs = some vs := by
  have := setE_mid [] (vs := vs) (junk := cs) (by omega)
  simpa [h] using this
/-- Where a slice's last ones lie. -/
def sufP (p : Option Addr) (cap i sz : Nat) : Option Addr := if cap = i then p else p.map (·.add (i * sz))
section
variable {α : Type} {v : α → List Value} {sz : Nat} {xs : List α} {w : World} {p : Option Addr}
theorem RdSl.suf (hv : ∀ a, (v a).length = sz) (h : RdSl w p v xs) {cap i : Nat} (h1 : i ≤ xs.length) (h2 : xs.length ≤ cap) : RdSl w (sufP p cap i sz) v (xs.drop i) := by
  by_cases hc : cap = i
  · left; exact List.drop_eq_nil_of_le (by omega)
  · rcases h with h | ⟨b, o, rfl, h⟩
    · left; rw [h]; exact List.drop_nil
    · right
      refine ⟨b, o + i * sz, by simp [sufP, hc, Addr.add_none], fun k hk => ?_⟩
      rw [← fl_dropG hv] at hk ⊢
      rw [List.length_drop] at hk
      rw [List.getElem?_drop, ← h (i * sz + k) (by omega), Nat.add_assoc]
theorem RdSl.pre (hv : ∀ a, (v a).length = sz) (h : RdSl w p v xs) (i : Nat) : RdSl w p v (xs.take i) := by
  rcases h with h | ⟨b, o, rfl, h⟩
  · left; rw [h]; exact List.take_nil
  · right
    refine ⟨b, o, rfl, fun k hk => ?_⟩
    rw [← fl_takeG hv] at hk ⊢
    rw [List.length_take] at hk
    rw [List.getElem?_take, if_pos (by omega)]
    exact h k (by omega)
theorem Off.suf {S : List Nat} (h : Off p S) (cap i sz : Nat) : Off (sufP p cap i sz) S := by
  intro a ha
  unfold sufP at ha
  split at ha
  · exact h a ha
  · cases p with
    | none => cases ha
    | some a0 =>
      simp only [Option.map_some, Option.some.injEq] at ha
      subst ha
      have := h a0 rfl
      unfold Addr.add
      split <;> exact this
theorem RdSl.chg' {w' : World} {S : List Nat} (h : RdSl w p v xs) (hc : Chg S w w') (ho : xs ≠ [] → Off p S) : RdSl w' p v xs := by
  by_cases hx : xs = []
  · exact .inl hx
  · exact h.chg hc (ho hx)
/-- What is old lies in none of the blocks that are one's own. -/
theorem RdSl.old {w' : World} {S : List Nat} {L Li Lr : Lst} (hv : ∀ a, (v a).length = sz) (hs : 1 ≤ sz) (h : RdSl w p v xs) (ho : xs ≠ [] → Off p S) (hw : Hp w S L w') (he : Ext L Li Lr) : xs ≠ [] → Off p (blks Li) := by
  intro hx a ha hm
  rcases h with h | ⟨b, o, hp, h⟩
  · exact hx h
  · rw [hp] at ha
    cases ha
    obtain ⟨⟨b', ob⟩, hmem, hb'⟩ := List.mem_map.1 hm
    simp only at hb'
    subst hb'
    rcases hw.own b' ob (he.mem _ hmem) with h1 | h1
    · have h2 : 0 < (fl v xs).length := by
        rw [fl_len hv]
        have : 0 < xs.length := List.length_pos_iff.2 hx
        exact Nat.mul_pos this hs
      have h3 := h 0 h2
      rw [List.getElem?_eq_getElem h2] at h3
      simp only [World.cell?] at h3
      have h4 : w.heap[b']? = none := Array.getElem?_eq_none h1
      rw [h4] at h3
      simp at h3
    · exact ho hx _ hp h1
theorem RdSl.holds {n cap : Nat} (h : RdSl w p v xs) (hne : xs ≠ []) : Holds w (.slice p n cap) (fl v xs) := by
  rcases h with h | ⟨b, o, rfl, h⟩
  · exact absurd h hne
  · exact fun i hi => h i hi
end
section
variable {X : Cx} {σ : Env} {L Lr : Lst} {d : Option Nat} {dd : Nat} {ty : TypeId} {pos : String} {af : Array Edge} {g : Option (Nat × Bool)} {x y : Operand} {t t2 e : TypeId} {r r2 re : TRow}
variable {all : Array Oper} {rest : List Oper} {K : Env → Lst → Prop} {p : Option Addr} {n cap i : Nat}
theorem Ok1.sufR {lo : Operand} {sz : Nat} (ht : X.tb.row t = some r) (hk : r.k = .slice e) (he : X.tb.row e = some re) (hsz : re.size = sz) (hx : ev σ x = some (.slice p n cap)) (hh : ev σ lo = some (.int .i64 i)) (h1 : i ≤ n) (h2 : n ≤ cap) :
    Ok1 X ⟨d, .slice t x (some lo) none none, ty, pos, af, g⟩ σ L (.slice (sufP p cap i sz) (n - i) (cap - i)) := .mk fun a w ha hw => by
  subst hsz
  rw [slice_run (l := (i : Int)) (h := (n : Int)) (m := (cap : Int)) X.tb ht hk he ha hx rfl rfl (by simp [bd, hh]) (by omega) (by omega) (by omega) (by omega) (.inl rfl)]
  simp [sufP]
theorem Ok1.preR {hi : Operand} (ht : X.tb.row t = some r) (hk : r.k = .slice e) (he : X.tb.row e = some re) (hx : ev σ x = some (.slice p n cap)) (hh : ev σ hi = some (.int .i64 i)) (h1 : i ≤ cap) :
    Ok1 X ⟨d, .slice t x none (some hi) none, ty, pos, af, g⟩ σ L (.slice p i cap) := .mk fun a w ha hw => by
  rw [slice_run (l := 0) (h := (i : Int)) (m := (cap : Int)) X.tb ht hk he ha hx rfl (by simp [bd, hh]) rfl (by omega) (by omega) (by omega) (by omega) (.inl rfl)]
  have : p.map (·.add (0 * re.size)) = p := by cases p <;> simp [Addr.add]
  simp only [Int.toNat_zero, this, ite_self, Int.toNat_natCast, Nat.sub_zero]
theorem Ok1.capS (ht : X.tb.row t = some r) (hk : r.k = .slice e) (hx : ev σ x = some (.slice p n cap)) : Ok1 X ⟨d, .call { callee := .builtin .cap, args := #[x], argTypes := #[t] }, ty, pos, af, g⟩ σ L (.int .i64 cap) := .mk fun a w ha hw => by
  have h2 := (X.tb.get ht).is
  rw [hk] at h2
  simp only [TK.is] at h2
  simp [execOp, resolve, ha.ev hx, invoke, builtin, Builtin.cap_, run_underlying h2, goInt]
/-- append(s, y...): s a slice of one's own, y one that is read. -/
theorem R.appendRd {α : Type} {v : α → List Value} {xs : List α} {sz : Nat} {ov : Ov} {m cap2 e2 : Nat} {old zc : List Value} (hn : Nat.blt dd X.n = true) (ht : X.tb.row t = some r) (hk : r.k = .slice e) (he : X.tb.row e = some re) (hz : cellsE re.zero = some zc) (hzl : zc.length = re.size) (ht2 : X.tb.row t2 = some r2) (hk2 : r2.k = .slice e2) (hb1 : Nat.ble 1 re.bytes = true) (hb2 : Nat.ble re.bytes 65536 = true)
    (hx : ev σ x = some (slV ov n)) (hy : ev σ y = some (.slice p m cap2)) (hok : OvOk re.size ov n old) (hp : Ext L (blkL e ov old) Lr) (hm : m = xs.length) (hv : ∀ a, (v a).length = sz) (hs : re.size = sz) (hh : ∀ w, Hp X.w0 X.S L w → RdSl w p v xs)
    (h1 : (fl v xs).all Value.oneCell' = true) (hbig : n + m ≤ 1073741824)
    (h : ∀ ov', OvOk re.size ov' (n + m) (old ++ fl v xs) → (ov.isSome = true → ov'.isSome = true) → R X all rest K ((dd, slV ov' (n + m)) :: σ) (blkL e ov' (old ++ fl v xs) ++ Lr)) :
    R X all (⟨some dd, .call { callee := .builtin .append, args := #[x, y], argTypes := #[t, t2] }, ty, pos, af, none⟩ :: rest) K σ L := by
  subst hm
  cases xs with
  | nil =>
    refine R.value rfl rfl hn fun a w ha hw => ?_
    have hw2 := hw.perm hp.perm
    have hrun := append_none X.tb (w := w) (ty := ty) (n := n) (p2 := p) (cap2 := cap2) (ov := ov) ht hk he ht2 hk2 (fun e => by subst e; exact hok.2)
    refine ⟨slV ov n, w, blkL e ov (old ++ []) ++ Lr, ?_, by rw [List.append_nil]; exact hw2, h ov (by simpa [fl] using hok) id⟩
    simp [execOp, resolve, ha.ev hx, ha.ev hy, invoke, builtin, hrun]
  | cons x0 xs =>
    refine R.appendH hn ht hk he hz hzl ht2 hk2 hb1 hb2 hx hy rfl hok hp (fun w hw => (hh w hw).holds (by simp)) ?_ h1 hbig fun ov' h2 => h ov' h2 fun _ => by
      cases ov' with
      | none => have := h2.2; simp at this
      | some _ => rfl
    rw [fl_len hv, hs]
/-- Room for n, made ahead of any: append(nil, make(.., n)...). -/
theorem grow_run {P : Program} (tb : Tb P) (ht : tb.row t = some r) (hk : r.k = .slice e) (he : tb.row e = some re) {z : Value} (hz : cellsE re.zero = some [z]) (hsz : re.size = 1) (ht2 : tb.row t2 = some r2) (hk2 : r2.k = .int .i64)
    {w0 w : World} {S : List Nat} {n : Nat} (hw : Hp w0 S L w) (hm : 1 ≤ n) (hbig : (2 * n + 768) * re.bytes ≤ 281474976710656) (hb1 : 1 ≤ re.bytes) :
    ∃ b' j' w', (Builtin.append_ #[t, t2] ty #[.slice none 0 0, .int .i64 n]).run P w = .ok (.slice (some ⟨b', 0, none⟩) n (n + j')) w' ∧ Hp w0 S ((b', .cells ⟨List.replicate (n + j') z⟩ e (0, 0)) :: L) w' := by
  have hu : P.underlying t = some (.slice e) := by have := (tb.get ht).is; rw [hk] at this; exact this
  have hu2 : P.underlying t2 = some (.int .i64) := by have := (tb.get ht2).is; rw [hk2] at this; exact this
  obtain ⟨i, hi, hib⟩ : ∃ i, P.info? e = some i ∧ i.bytes = re.bytes := by
    have := (tb.get he).bytes
    cases h : P.info? e with
    | none => rw [h] at this; cases this
    | some i => rw [h] at this; exact ⟨i, rfl, by simpa using this⟩
  have hti : ∀ w, (typeInfo e).run P w = .ok i w := fun w => by simp [typeInfo, hi]
  have hzc := cellsE_eq hz
  have hnx := nextcap_le n 0 (by omega)
  have h48 : (2 : Nat) ^ 48 = 281474976710656 := by decide
  have hnb : ¬ Builtin.nextslicecap n 0 * re.bytes > 2 ^ 48 := by
    have := Nat.mul_le_mul_right re.bytes hnx
    omega
  have hn2 : n * 1 ≤ n * re.bytes := Nat.mul_le_mul_left _ hb1
  have hn3 : (2 * n + 768) * re.bytes = 2 * (n * re.bytes) + 768 * re.bytes := by rw [Nat.add_mul, Nat.mul_assoc]
  have hwn : IntKind.i64.wrap (n : Int) = n := wrap_in (by omega) (by omega)
  have hnn : ¬ (n : Int) < 0 := by omega
  have hlb : ¬ ((n : Int) * (re.bytes : Int) > 2 ^ 48) := by
    have h1 : n * re.bytes ≤ 2 ^ 48 := by omega
    have h2 : ((n * re.bytes : Nat) : Int) ≤ ((2 ^ 48 : Nat) : Int) := Int.ofNat_le.2 h1
    have h3 : ((2 ^ 48 : Nat) : Int) = 2 ^ 48 := by decide
    rw [Int.natCast_mul] at h2
    omega
  have hzr : ∀ k, (Builtin.zeroCells re.zero.cells k).toList = List.replicate k z := by
    intro k
    have hc : re.zero.cells = #[z] := by apply Array.toList_inj.1; rw [hzc]
    rw [hc]
    refine List.eq_replicate_iff.2 ⟨by simp [Builtin.zeroCells], fun x hx => ?_⟩
    simp only [Builtin.zeroCells, Array.toList_map, List.mem_map, List.size_toArray, List.length_singleton, Nat.mod_one] at hx
    obtain ⟨_, _, rfl⟩ := hx
    rfl
  obtain ⟨q, hq⟩ : ∃ q, (Question.appendCap n 0 e).cut (w.tape w.drawn (.appendCap n 0 e)) = n + q := ⟨_, rfl⟩
  refine ⟨w.heap.size, q, w.drew.alloc (.cells ⟨List.replicate (n + q) z⟩ e (0, 0)), ?_, (hw.step (Chg.drew [] w)).alloc _⟩
  have harr : ((#[] : Array Value) ++ Builtin.zeroCells re.zero.cells n ++ Builtin.zeroCells re.zero.cells (n + q - n) : Array Value) = ⟨List.replicate (n + q) z⟩ := by
    apply Array.toList_inj.1
    rw [Array.toList_append, Array.toList_append, hzr, hzr, Nat.add_sub_cancel_left, List.nil_append, List.replicate_append_replicate]
  have hai : ∀ w, (asInt (.int .i64 (n : Int))).run P w = .ok (n : Int) w := fun w => by simp [asInt, asIntOf]
  have hmx : ¬ (n : Int) > IntKind.i64.max := by have : IntKind.i64.max = 9223372036854775807 := by decide
                                                 omega
  unfold Builtin.append_
  simp only [hmx, false_and, List.getElem?_toArray, List.getElem?_cons_zero, List.getElem?_cons_succ, Sem.run_bind, run_underlying hu, run_underlying hu2, Result.andThen_ok, (tb.get he).size, Sem.run_pure, if_true, hai, hwn, hnn, if_false, Nat.zero_add, Nat.not_le.2 (show 0 < n by omega), hti, hib, Sem.run_ite, hlb, Int.toNat_natCast, Bool.not_true, Bool.false_eq_true,
    show ¬ re.bytes = 0 by omega, or_false, and_false, false_or, hnb, run_choose, Question.forced, hq, run_askRoom, World.drew_eq, Builtin.firstCells, hsz, Nat.mul_one, show ¬ n = 0 by omega, (tb.get he).zero, newRow, run_newObj, harr]
  rfl
theorem R.growMk {z : Value} (hn : Nat.blt dd X.n = true) (ht : X.tb.row t = some r) (hk : r.k = .slice e) (he : X.tb.row e = some re) (hz : cellsE re.zero = some [z]) (hsz : Nat.beq re.size 1 = true) (ht2 : X.tb.row t2 = some r2) (hk2 : r2.k = .int .i64) (hb1 : Nat.ble 1 re.bytes = true) (hb2 : Nat.ble re.bytes 65536 = true)
    (hx : ev σ x = some (.slice none 0 0)) (hy : ev σ y = some (.int .i64 n)) (hm : 1 ≤ n) (hbig : n ≤ 1073741824)
    (h : ∀ b' j', R X all rest K ((dd, .slice (some ⟨b', 0, none⟩) n (n + j')) :: σ) ((b', .cells ⟨List.replicate (n + j') z⟩ e (0, 0)) :: L)) :
    R X all (⟨some dd, .call { callee := .builtin .append, args := #[x, y], argTypes := #[t, t2] }, ty, pos, af, none⟩ :: rest) K σ L :=
  R.value rfl rfl hn fun a w ha hw => by
    have h3 := Nat.le_of_ble_eq_true hb2
    have hbig' : (2 * n + 768) * re.bytes ≤ 281474976710656 := by
      have := Nat.mul_le_mul (show 2 * n + 768 ≤ 2147484416 by omega) h3
      omega
    obtain ⟨b', j', w', g1, g2⟩ := grow_run X.tb (ty := ty) ht hk he hz (Nat.eq_of_beq_eq_true hsz) ht2 hk2 hw hm hbig' (Nat.le_of_ble_eq_true hb1)
    refine ⟨_, w', _, ?_, g2, h b' j'⟩
    simp [execOp, resolve, ha.ev hx, ha.ev hy, invoke, builtin, g1]
end
end Go.Proofs.YtligngjcnlbgmaaGreat
set_option linter.unusedSimpArgs false
set_option linter.unusedVariables false
namespace Go.Proofs.YtligngjcnlbgmaaGreat
open Go.RowKit Go.Shelf
section
variable {X : Cx} {σ : Env} {L : Lst} {d : Option Nat} {ty : TypeId} {pos : String} {af : Array Edge} {g : Option (Nat × Bool)} {x : Operand} {t e : TypeId} {r re : TRow} {p : Option Addr} {n cap i m : Nat}
end
section
variable {X : Cx} {σ : Env} {L : Lst} {d : Option Nat} {ty : TypeId} {pos : String} {af : Array Edge} {g : Option (Nat × Bool)} {x y : Operand} {k : IntKind} {i j m : Int} {ats : Array TypeId}
theorem Ok1.min2E (hx : ev σ x = some (.int k i)) (hy : ev σ y = some (.int k j)) (hm : min i j = m) : Ok1 X ⟨d, .call { callee := .builtin .min, args := #[x, y], argTypes := ats }, ty, pos, af, g⟩ σ L (.int k m) := hm ▸ Ok1.min2 hx hy
end
section
variable {X : Cx} {σ : Env} {L L' : Lst} {ty : TypeId} {pos : String} {af : Array Edge} {x : Operand} {t e te : TypeId} {r re : TRow} {b o n cap k : Nat} {z0 : Value} {cs cs' : List Value} {all : Array Oper} {rest : List Oper} {K : Env → Lst → Prop}
end
end Go.Proofs.YtligngjcnlbgmaaGreat
set_option linter.unusedSimpArgs false
set_option linter.unusedVariables false
set_option linter.unusedSectionVars false
namespace Go.Proofs.YtligngjcnlbgmaaGreat
open Go.RowKit Go.Shelf
/-- Where a walk goes: anywhere, or in a round of the loop l. -/
def fen : Option Nat → Fence
  | none => Fence.wide
  | some l => Fence.wide.inRound l
theorem fen_fn (ro : Option Nat) (f : Nat) : (fen ro).fn f := by cases ro <;> trivial
theorem fen_depth (ro : Option Nat) : (fen ro).depth = none := by cases ro <;> rfl
theorem fen_round (ro : Option Nat) : (fen ro).round = ro := by cases ro <;> rfl
theorem fen_calls {ro : Option Nat} {n : Nat} {P : Program} {f : FuncId} {args : Array Value} {w : World} {R : Ending → World → Prop} (h : Calls P f args w R) : CallsIn (fen ro) n P f args w R := by
  cases ro with
  | none => exact callsIn_wide.2 h
  | some l => exact ⟨trivial, ((callsIn_wide (n := n)).2 h).2⟩
theorem fen_rows {ro : Option Nat} {n : Nat} {P : Program} {row : String} {args : Array Value} {w : World} {R : Value → World → Prop} (h : Rows P row args w R) : RowsIn (fen ro) n P row args w R := by
  intro c cs _
  obtain ⟨v, w', r, s⟩ := h c cs
  refine ⟨v, w', r, ?_⟩
  cases ro with
  | none => exact stepsIn_wide.2 s
  | some l => rw [show Machine.fenced P (fen (some l)) = Machine.fenced P Fence.wide from rfl]; exact stepsIn_wide.2 s
def noDefer (o : Oper) : Bool := match o.op with | .defer _ => false | _ => true
theorem noDefer_spec {o : Oper} (h : noDefer o = true) : ∀ c, o.op ≠ .defer c := by
  intro c e; unfold noDefer at h; rw [e] at h; cases h
theorem Oper.up_fen {ro : Option Nat} {n : Nat} {P : Program} {o : Oper} {a : Act} {next : Act → World → Prop} {Q : Exit → Act → World → Prop} {r : Result Next} (h : o.upon P a next Q r) : o.uponIn (fen ro) n P a next Q r := by
  cases r with
  | ok m w' =>
    cases m with
    | enter f args => exact ⟨fun e => (by rw [fen_depth] at e; cases e), fen_calls h⟩
    | row f args => exact ⟨fun e => (by rw [fen_depth] at e; cases e), fen_rows h⟩
    | round => exact h.elim
    | value v => exact h
    | skip => exact h
    | defer d => exact h
    | _ => exact h.elim
  | halt x w' => cases x <;> first | exact h | exact h.elim
theorem Oper.wp_fen {ro : Option Nat} {n : Nat} {P : Program} {o : Oper} {a : Act} {w : World} {next : Act → World → Prop} {Q : Exit → Act → World → Prop} (hd : noDefer o = true) (h : o.wp P a w next Q) : o.wpIn (fen ro) n P a w next Q := by
  refine ⟨fun f _ => fen_fn ro f, ?_⟩
  rw [fen_round, Oper.semAt_eq _ _ _ (noDefer_spec hd)]
  exact Oper.up_fen h

/-- The judgement over a region's operations at such a fence. -/
structure RI (X : Cx) (ro : Option Nat) (all : Array Oper) (l : List Oper) (K : Env → Lst → Prop) (σ : Env) (L : Lst) : Prop where
  run : ∀ a w, Mod X.n a σ → Hp X.w0 X.S L w → wpListIn (fen ro) 0 X.P all (X.liftK K) l a w
section
variable {X : Cx} {ro : Option Nat} {all : Array Oper} {rest : List Oper} {K : Env → Lst → Prop} {σ : Env} {L : Lst} {o : Oper} {Q : Post}
theorem RI.nil (h : K σ L) : RI X ro all [] K σ L := ⟨fun a w ha hw => ⟨rfl, σ, L, ha, hw, h⟩⟩
theorem RI.step (hd : noDefer o = true) (h : R X all [o] (fun σ' L' => RI X ro all rest K σ' L') σ L) : RI X ro all (o :: rest) K σ L := by
  refine ⟨fun a w ha hw => ?_⟩
  have h1 := h.run a w ha hw
  have hnil : ∀ a' w', wpList X.P all (X.liftK fun σ' L' => RI X ro all rest K σ' L') [] a' w' → wpListIn (fen ro) 0 X.P all (X.liftK K) rest a' w' := by
    rintro a' w' ⟨_, σ', L', h2, h3, h4⟩
    exact h4.run a' w' h2 h3
  unfold wpList at h1
  unfold wpListIn
  by_cases hwd : Region.wanted o (yielded all a.tmps) = true
  · rw [if_pos hwd] at h1 ⊢
    rcases h1 with h1 | ⟨_, a, w, h1⟩
    · exact Oper.wp_fen hd (Oper.wp_change hnil (fun c a w h => by cases h.1) (fun ⟨a, w, h⟩ => by cases h.1) h1)
    · cases h1.1
  · rw [if_neg hwd] at h1 ⊢
    exact ⟨fun f _ => fen_fn ro f, hnil _ _ h1⟩
end
/-- A call of yield: what a round does to the known blocks. -/
structure YieldM (P : Program) (l : Nat) (args : List Value) (L : Lst) (w : World) (R1 : Value → Lst → Prop) : Prop where
  run : Hp w (blks L) L w → ∃ fn tmps assign body, (Instr.yield l args.toArray).run P w = .ok (.round l fn tmps assign body) w ∧ RoundIn Fence.wide 0 P l fn tmps assign body w fun e w' => ∃ v L', e = .returned v ∧ R1 v L' ∧ Hp w (blks L) L' w'
theorem RI.yield {X : Cx} {all : Array Oper} {rest : List Oper} {K : Env → Lst → Prop} {σ : Env} {L Li Lr : Lst} {dd l : Nat} {ty : TypeId} {pos : String} {af : Array Edge} {c : Operand} {xs : List Operand} {vs : List Value} {ats : Array TypeId} {R1 : Value → Lst → Prop}
    (hcv : ev σ c = some (.func (.yield l) #[] #[])) (hx : evs σ xs = some vs) (hn : Nat.blt dd X.n = true) (hp : Ext L Li Lr) (hc : ∀ w, Hp X.w0 X.S L w → YieldM X.P l vs Li w R1) (h : ∀ v Lo, R1 v Lo → RI X none all rest K ((dd, v) :: σ) (Lo ++ Lr)) :
    RI X none all (⟨some dd, .call { callee := .value c, args := xs.toArray, argTypes := ats }, ty, pos, af, none⟩ :: rest) K σ L := by
  refine ⟨fun a w ha hw => wpListIn_plain rfl fun K' hK' => ⟨fun f _ => trivial, ?_⟩⟩
  have hw2 := hw.perm hp.perm
  have hin : Hp w (blks Li) Li w := ⟨.refl _ _, fun b o hm => hw2.get b o (List.mem_append_left _ hm), (List.nodup_append.1 (by have := hw2.nod; rwa [List.map_append] at this)).1, fun b o hm => .inr (List.mem_map.2 ⟨(b, o), hm, rfl⟩)⟩
  obtain ⟨fn, tmps, assign, body, hy, hR⟩ := (hc w hw).run hin
  have hm : xs.toArray.map a.eval = vs.toArray := by rw [List.map_toArray, evs_map ha hx]
  have hr : (Oper.semAt (fen none).round a.eval { dst := some dd, op := .call { callee := .value c, args := xs.toArray, argTypes := ats }, type := ty, pos := pos, after := af, guard := none }).run X.P w = .ok (.round l fn tmps assign body) w := by
    rw [fen_round, Oper.semAt_none]
    simp only [execOp, resolve, ha.ev hcv, hm, Deferred.ofValue, Sem.run_bind, Sem.run_pure, Result.andThen_ok, invoke, Array.append_empty, Array.empty_append, List.append_toArray, List.nil_append]
    simpa using hy
  rw [hr, Oper.uponIn_round]
  refine ⟨fun e => (by rw [fen_depth] at e; cases e), hR.mono ?_⟩
  rintro e w' ⟨v, L', rfl, h2, h3⟩
  exact hK' _ _ ((h v L' h2).run _ _ (ha.put (blt_lt hn) v) (hw2.callM h3))

/-- What a round's contract is made of: the assignments to the loop's variables, then the body. -/
theorem YieldM.of {P : Program} {tb : Tb P} {n l p ia ib rb : Nat} {rec : Loop} {aops bops : Array Oper} {σ : Env} {u : Value} {Li : Lst} {w : World} {R1 : Lst → Prop}
    (hm : Mod n { tmps := rec.tmps, defers := [] } σ) (hp : rec.params = #[p]) (hpn : p < n) (ha : rec.assign = .region ia aops false) (hb : rec.body = .block ib (.region rb bops false)) (hst : rec.state = .ready) (hpe : rec.pending = none)
    (h : RI ⟨P, tb, n, w, l :: blks Li⟩ (some l) aops aops.toList (fun σ2 L2 => ∃ L3, Keep L2 ((l, .loop rec) :: L3) ∧ RI ⟨P, tb, n, w, l :: blks Li⟩ (some l) bops bops.toList (fun σ4 L4 => ∃ L5, Keep L4 ((l, .loop { rec with state := .busy }) :: L5) ∧ R1 L5) σ2 ((l, .loop { rec with state := .busy }) :: L3)) ((p, u) :: σ) ((l, .loop rec) :: Li)) :
    YieldM P l [u] ((l, .loop rec) :: Li) w fun v L => v = .bool true ∧ ∃ L5, R1 L5 ∧ L = (l, .loop rec) :: L5 := by
  refine ⟨fun hw => ?_⟩
  have hl := hw.get l _ List.mem_cons_self
  refine ⟨_, _, _, _, run_yield hl (by rw [hp]; rfl), roundIn_of_wpIn trivial ?_⟩
  have hm' : Mod n { tmps := ((rec.params.zip #[u]).foldl (fun t (q, v) => t.setIfInBounds q v) rec.tmps), defers := [] } ((p, u) :: σ) := by
    have := hm.put hpn u
    rw [hp]
    simpa [Act.put] using this
  rw [ha, hb]
  refine Go.wpIn_mono (wpIn_region_list (h.run _ w hm' hw)) ?_
  rintro e a1 w1 ⟨rfl, σ2, L2, m2, h2, L3, hk, hbody⟩
  have h3 := h2.keep hk
  have hl1 := h3.get l _ List.mem_cons_self
  have hlt : l < w1.heap.size := (Array.getElem?_eq_some_iff.1 hl1).1
  refine ⟨_, run_beginRound hl1 hst, ?_⟩
  have h4 : Hp w (l :: blks Li) ((l, .loop { rec with state := .busy }) :: L3) (w1.putObj l (.loop { rec with state := .busy })) := h3.upd .head (Chg.setObj w1 _ (by simp)) (World.putObj_heap_same hlt)
  have hbl : (Code.region rb bops false).wpIn (Fence.wide.inRound l) 0 P (Exit.inBlock ib (roundPost P l fun e w' => ∃ v L', e = .returned v ∧ (v = .bool true ∧ ∃ L5, R1 L5 ∧ L' = (l, .loop rec) :: L5) ∧ Hp w (blks ((l, .loop rec) :: Li)) L' w')) a1 (w1.putObj l (.loop { rec with state := .busy })) := by
    refine Go.wpIn_mono (wpIn_region_list (hbody.run _ _ m2 h4)) ?_
    rintro e a5 w5 ⟨rfl, σ4, L4, m4, h5, L5, hk5, hR5⟩
    have h6 := h5.keep hk5
    have hl5 := h6.get l _ List.mem_cons_self
    have hlt5 : l < w5.heap.size := (Array.getElem?_eq_some_iff.1 hl5).1
    refine ⟨_, _, run_endRound none hl5, .bool true, (l, .loop rec) :: L5, rfl, ⟨rfl, L5, hR5, rfl⟩, ?_⟩
    have he : ({ { rec with state := LoopState.busy } with state := if (none : Option Code).isNone then .ready else .done, pending := none } : Loop) = rec := by
      cases rec; simp only at hst hpe; subst hst; subst hpe; rfl
    rw [he]
    exact h6.upd .head (Chg.setObj w5 _ (by simp)) (World.putObj_heap_same hlt5)
  exact wpIn_block hbl

def shift (ds : List Deferred) (a : Act) : Act := { a with defers := a.defers ++ ds }
theorem shift_eval (ds : List Deferred) (a : Act) : (shift ds a).eval = a.eval := by
  funext x; cases x <;> rfl
theorem shift_put (ds : List Deferred) (a : Act) (d : Option Tmp) (v : Value) : (shift ds a).put d v = shift ds (a.put d v) := by cases d <;> rfl
def shQ (ds : List Deferred) (Q : Exit → Act → World → Prop) : Exit → Act → World → Prop := fun e a' w' => ∃ a'', a' = shift ds a'' ∧ Q e a'' w'
theorem Oper.wp_shift {P : Program} {ds : List Deferred} {o : Oper} {a : Act} {w : World} {next next' : Act → World → Prop} {Q : Exit → Act → World → Prop} (hn : ∀ a w, next a w → next' (shift ds a) w) (h : o.wp P a w next Q) : o.wp P (shift ds a) w next' (shQ ds Q) := by
  unfold Oper.wp at h ⊢
  rw [shift_eval]
  generalize (execOp a.eval o).run P w = r at *
  cases r with
  | ok m w' =>
    cases m with
    | value v => rw [Oper.upon_value] at h ⊢; rw [shift_put]; exact hn _ _ h
    | skip => rw [Oper.upon_skip] at h ⊢; rw [shift_put]; exact hn _ _ h
    | defer d =>
      rw [Oper.upon_defer] at h ⊢
      have := hn _ _ h
      rw [← shift_put] at this
      exact this
    | enter f args =>
      rw [Oper.upon_enter] at h ⊢
      refine Calls.mono h fun e w'' he => ?_
      cases e with
      | returned v => simp only at he ⊢; rw [shift_put]; exact hn _ _ he
      | panicked c => exact ⟨a, rfl, he⟩
      | outgrown => obtain ⟨a1, w1, h1⟩ := he; exact ⟨shift ds a1, w1, a1, rfl, h1⟩
    | row f args =>
      refine Rows.mono (h : Rows P f args w' _) fun v w'' he => ?_
      rw [shift_put]; exact hn _ _ he
    | _ => exact h.elim
  | halt x w' => cases x <;> first | exact ⟨a, rfl, h⟩ | exact h.elim
theorem wpList_shift {P : Program} {ds : List Deferred} {all : Array Oper} {Q : Exit → Act → World → Prop} : ∀ (l : List Oper) (a : Act) (w : World), wpList P all Q l a w → wpList P all (shQ ds Q) l (shift ds a) w
  | [], a, w, h => ⟨a, rfl, h⟩
  | o :: r, a, w, h => by
    unfold wpList at h ⊢
    have ht : (shift ds a).tmps = a.tmps := rfl
    rw [ht]
    by_cases hw : Region.wanted o (yielded all a.tmps) = true
    · rw [if_pos hw] at h ⊢
      rcases h with h | ⟨h1, a1, w1, h2⟩
      · exact .inl (Oper.wp_shift (fun a w h => wpList_shift r a w h) h)
      · refine .inr ⟨?_, shift ds a1, w1, a1, rfl, h2⟩
        unfold Oper.asks at h1 ⊢
        rw [shift_eval]; exact h1
    · rw [if_neg hw] at h ⊢
      rw [shift_put]; exact wpList_shift r _ _ h
structure TD (X : Cx) (ds : List Deferred) (c : Code) (Q : Post) (σ : Env) (L : Lst) : Prop where
  run : ∀ a w, Mod X.n a σ → Hp X.w0 X.S L w → c.wp X.P (shQ ds (X.lift Q)) (shift ds a) w
section
variable {X : Cx} {ds : List Deferred} {x y : Code} {Q : Post} {σ : Env} {L : Lst}
theorem TD.region {id : Nat} {ops : Array Oper} (h : R X ops ops.toList (Q .normal) σ L) : TD X ds (.region id ops false) Q σ L :=
  ⟨fun a w ha hw => wp_mono (wp_region_list (wpList_shift _ _ _ (h.run a w ha hw))) fun e a w ⟨a2, h1, he, σ, L, h2, h3, h4⟩ => ⟨a2, h1, σ, L, h2, h3, he ▸ h4⟩⟩
theorem TD.seq (h : TD X ds x (thenQ (fun σ L => TD X ds y Q σ L) Q) σ L) : TD X ds (.seq x y) Q σ L :=
  ⟨fun a w ha hw => wp_seq (wp_mono (h.run a w ha hw) fun e a w ⟨a2, h1, σ, L, h2, h3, h4⟩ => by
    subst h1
    cases e with
    | normal => exact h4.run a2 w h2 h3
    | _ => exact ⟨a2, rfl, σ, L, h2, h3, h4⟩)⟩
theorem TD.ret (h : Q .ret σ L) : TD X ds .ret Q σ L := ⟨fun a w ha hw => wp_ret ⟨a, rfl, σ, L, ha, hw, h⟩⟩
end
/-- The judgement over a function that holds a range over a function, up to the loop. -/
structure TF (X : Cx) (fn : Func) (Rr : Ending → World → Prop) (c : Code) (σ : Env) (L : Lst) : Prop where
  run : ∀ a w, Mod X.n a σ → Hp X.w0 X.S L w → c.wp X.P (bodyPostM Fence.wide 0 X.P fn Rr) a w
def noQ (K : Env → Lst → Prop) : Post := fun e σ L => match e with | .normal => K σ L | _ => False
theorem TF.seq {X : Cx} {fn : Func} {Rr : Ending → World → Prop} {x y : Code} {σ : Env} {L : Lst} (h : T X x (noQ fun σ L => TF X fn Rr y σ L) σ L) : TF X fn Rr (.seq x y) σ L :=
  ⟨fun a w ha hw => wp_seq (wp_mono (h.run a w ha hw) fun e a w ⟨σ, L, h2, h3, h4⟩ => by
    cases e with
    | normal => exact h4.run a w h2 h3
    | _ => exact h4.elim)⟩
/-- The loop's record as the rounds find it. -/
structure RecOk (n : Nat) (σ : Env) (p : Nat) (assign body : Code) (rec : Loop) : Prop where
  mod : Mod n { tmps := rec.tmps, defers := [] } σ
  params : rec.params = #[p]
  assign : rec.assign = assign
  body : rec.body = body
  state : rec.state = .ready
  pending : rec.pending = none
/-- Where the loop begins: what the iterator is handed (La), what its call leaves (J), and the rest of the function. -/
structure RG (X : Cx) (gf : Nat) (k p : Nat) (assign body rest : Code) (Rp : Value → Lst → Prop) (g : Operand) (σ : Env) (L : Lst) : Prop where
  ex : ∃ (lb : List Value) (La Lr : Lst) (J : Lst → Prop), Keep L (La ++ Lr) ∧ ev σ g = some (.func (.func gf) #[] lb.toArray) ∧
    (∀ l rec w, RecOk X.n σ p assign body rec → (∃ L2, Hp X.w0 X.S (((l, .loop rec) :: La) ++ L2) w) → CallM X.P gf (.func (.yield l) #[] #[] :: lb) ((l, .loop rec) :: La) w fun v L' => ∃ Lb, J Lb ∧ L' = (l, .loop rec) :: Lb) ∧
    (∀ D Lb, J Lb → TD X [{ target := .collected D, args := #[] }] rest (fun e σ' L' => e = .ret ∧ ∃ v L3, look σ' k = some v ∧ Keep L' ((D, .deferred (some [])) :: L3) ∧ Rp v L3) σ ((D, .deferred (some [])) :: (Lb ++ Lr)))
theorem TF.range {X : Cx} {fn : Func} {Rp : Value → Lst → Prop} {x rest assign body : Code} {id p k gf : Nat} {g : Operand} {σ : Env} {L : Lst} (hfn : fn.results = #[.tmp k]) (he : X.tb.fns.contains gf = true)
    (h : T X x (noQ fun σ L => RG X gf k p assign body rest Rp g σ L) σ L) :
    TF X fn (fun e w' => ∃ v L', e = .returned v ∧ Rp v L' ∧ Hp X.w0 X.S L' w') (.seq (.seq x (.block id (.rangeFunc g #[p] assign body))) rest) σ L := by
  refine ⟨fun a w ha hw => wp_seq (wp_seq (wp_mono (h.run a w ha hw) ?_))⟩
  rintro e a w ⟨σ1, L1, m1, h1, q⟩
  cases e with
  | normal =>
    obtain ⟨lb, La, Lr, J, hk, hg, hc, hr⟩ := q.ex
    refine wp_block (wpIn_wide.1 (wpIn_rangeFunc (F := Fence.wide) (n := 0) fun fnn _ => ?_))
    obtain ⟨rec, hrec⟩ : ∃ rec : Loop, rec = { state := .ready, pending := none, fn := fnn, tmps := a.tmps, params := #[p], assign, body, defers := w.heap.size } := ⟨_, rfl⟩
    have hp1 := h1.keep hk
    have hp2 := hp1.alloc (.deferred (some []))
    have hp3 := hp2.alloc (.loop rec)
    rw [World.size_alloc] at hp3
    have hok : RecOk X.n σ1 p assign body rec := by
      subst hrec
      exact ⟨⟨m1.size, rfl, m1.ok⟩, rfl, rfl, rfl, rfl, rfl⟩
    have hperm : (((w.heap.size + 1, Obj.loop rec) :: La) ++ ((w.heap.size, Obj.deferred (some [])) :: Lr)).Perm ((w.heap.size + 1, Obj.loop rec) :: (w.heap.size, Obj.deferred (some [])) :: (La ++ Lr)) := by
      rw [List.cons_append]
      exact (List.perm_middle).cons _
    have hp4 := hp3.perm hperm
    generalize hW : (w.alloc (.deferred (some []))).alloc (.loop rec) = W1 at *
    refine ⟨w.heap.size + 1, [{ target := .collected w.heap.size, args := #[] }], W1, { target := .fn (.func gf) lb.toArray, args := #[.func (.yield (w.heap.size + 1)) #[] #[]] }, W1, gf,
      (.func (.yield (w.heap.size + 1)) #[] #[] :: lb).toArray, W1, ?_, ?_, fun _ _ => trivial, ?_, fun e => (by cases e), ?_⟩
    · rw [← hW, hrec]; exact run_enterLoop_outer _ _ _ _ _
    · simp only [resolve, m1.ev hg]
      simp [go_sem]
    · have h9 := X.tb.ent he (.func (.yield (w.heap.size + 1)) #[] #[] :: lb).toArray W1
      simp only [invoke]
      simpa using h9
    · have hin : Hp W1 (blks ((w.heap.size + 1, Obj.loop rec) :: La)) ((w.heap.size + 1, Obj.loop rec) :: La) W1 := ⟨.refl _ _, fun b o hm => hp4.get b o (List.mem_append_left _ hm), (List.nodup_append.1 (by have := hp4.nod; rwa [List.map_append] at this)).1, fun b o hm => .inr (List.mem_map.2 ⟨(b, o), hm, rfl⟩)⟩
      refine callsIn_wide.2 (Calls.mono ((hc (w.heap.size + 1) rec W1 hok ⟨_, hp4⟩).run hin) ?_)
      rintro e w3 ⟨v, L', rfl, ⟨Lb, hJ, rfl⟩, h3⟩
      have hp5 := hp4.callM h3
      have hl5 := hp5.get (w.heap.size + 1) _ List.mem_cons_self
      have hlt5 : w.heap.size + 1 < w3.heap.size := (Array.getElem?_eq_some_iff.1 hl5).1
      refine ⟨none, w3.putObj (w.heap.size + 1) (.loop { rec with state := .exhausted }), by rw [run_endLoop hl5 (by rw [hok.state]; simp), hok.pending], ?_⟩
      have hp6 : Hp X.w0 X.S ((w.heap.size + 1, Obj.loop { rec with state := .exhausted }) :: (Lb ++ ((w.heap.size, Obj.deferred (some [])) :: Lr))) (w3.putObj (w.heap.size + 1) (.loop { rec with state := .exhausted })) := hp5.upd .head (Chg.setObj w3 _ (by simp)) (World.putObj_heap_same hlt5)
      have hp7 := (hp6.sub (List.sublist_cons_self _ _)).perm (List.perm_middle.symm)
      have hrun := (hr w.heap.size Lb hJ).run a _ m1 hp7
      have hsh : shift [{ target := .collected w.heap.size, args := #[] }] a = { a with defers := [{ target := .collected w.heap.size, args := #[] }] ++ a.defers } := by
        unfold shift; rw [m1.defers]; rfl
      rw [hsh] at hrun
      refine wp_mono hrun ?_
      rintro e a9 w9 ⟨a10, rfl, σ9, L9, m9, h9, rfl, v9, L10, hv9, hk9, hR9⟩
      have h10 := h9.keep hk9
      have hD := h10.get w.heap.size _ List.mem_cons_self
      have hltD : w.heap.size < w9.heap.size := (Array.getElem?_eq_some_iff.1 hD).1
      have h11 : Hp X.w0 X.S ((w.heap.size, Obj.deferred none) :: L10) (w9.putObj w.heap.size (.deferred none)) := h10.upd .head (Chg.setObj w9 _ (by simp)) (World.putObj_heap_same hltD)
      have hde : (shift [{ target := .collected w.heap.size, args := #[] }] a10).defers = [{ target := .collected w.heap.size, args := #[] }] := by
        unfold shift; simp [m9.defers]
      show LeavesInM Fence.wide 0 X.P fn _ _ _ .returning w9
      rw [hde]
      refine ⟨by simp, .inl ⟨w.heap.size, _, rfl, run_takeDeferred hD, v9, ?_, v9, L10, rfl, hR9, h11.sub (List.sublist_cons_self _ _)⟩⟩
      rw [results_tmp hfn]
      have := m9.ok k v9 hv9
      show Result.ok ((shift _ a10).tmps.getD k undef) _ = _
      rw [show (shift [{ target := Target.collected w.heap.size, args := #[] }] a10).tmps = a10.tmps from rfl, this]
  | _ => exact q.elim
end Go.Proofs.YtligngjcnlbgmaaGreat
set_option linter.unusedSimpArgs false
set_option linter.unusedVariables false
set_option linter.unusedSectionVars false
namespace Go.Proofs.YtligngjcnlbgmaaGreat
open Go.RowKit Go.Shelf
def noDefers (ops : Array Oper) : Bool := ops.toList.all noDefer
theorem noDefers_get {ops : Array Oper} (h : noDefers ops = true) {i : Nat} {o : Oper} (hi : ops[i]? = some o) : noDefer o = true := by
  unfold noDefers at h
  rw [List.all_eq_true] at h
  exact h o (by rw [Array.mem_toList_iff]; exact Array.mem_of_getElem? hi)
theorem wpList_fen {ro : Option Nat} {X : Cx} {ops : Array Oper} {K : Env → Lst → Prop} : ∀ (l : List Oper) (a : Act) (w : World), l.all noDefer = true → wpList X.P ops (X.liftK K) l a w → wpListIn (fen ro) 0 X.P ops (X.liftK K) l a w
  | [], _, _, _, h => h
  | o :: r, a, w, hd, h => by
    rw [List.all_cons, Bool.and_eq_true] at hd
    unfold wpList at h
    unfold wpListIn
    by_cases hwd : Region.wanted o (yielded ops a.tmps) = true
    · rw [if_pos hwd] at h ⊢
      rcases h with h | ⟨_, a, w, h⟩
      · exact Oper.wp_fen hd.1 (Oper.wp_change (fun a w h => wpList_fen r a w hd.2 h) (fun c a w h => by cases h.1) (fun ⟨a, w, h⟩ => by cases h.1) h)
      · cases h.1
    · rw [if_neg hwd] at h ⊢
      exact ⟨fun f _ => fen_fn ro f, wpList_fen r _ _ hd.2 h⟩
theorem wpAny_fen {ro : Option Nat} {X : Cx} {ops : Array Oper} {K : Env → Lst → Prop} (hd : noDefers ops = true) : ∀ (fuel : Nat) (listed : Array Bool) (a : Act) (w : World), wpAny X.P .any ops (X.liftK K) fuel listed a w → wpAnyIn (fen ro) 0 X.P .any ops (X.liftK K) fuel listed a w
  | 0, _, _, _, h => h
  | fuel + 1, listed, a, w, h => by
    refine ⟨h.1, fun i hi => ?_⟩
    have h1 := h.2 i hi
    unfold wpOp at h1
    unfold wpOpIn
    cases ho : ops[i]? with
    | none => rw [ho] at h1; exact wpAny_fen hd fuel _ a w h1
    | some o =>
      rw [ho] at h1
      simp only at h1 ⊢
      by_cases hwd : Region.wanted o (yielded ops a.tmps) = true
      · rw [if_pos hwd] at h1 ⊢
        rcases h1 with h1 | ⟨_, a, w, h1⟩
        · exact Oper.wp_fen (noDefers_get hd ho) (Oper.wp_change (fun a w h => wpAny_fen hd fuel _ a w h) (fun c a w h => by cases h.1) (fun ⟨a, w, h⟩ => by cases h.1) h1)
        · cases h1.1
      · rw [if_neg hwd] at h1 ⊢
        exact ⟨fun f _ => fen_fn ro f, wpAny_fen hd fuel _ _ _ h1⟩
/-- The judgement over code within a round. -/
structure TI (X : Cx) (ro : Option Nat) (c : Code) (Q : Post) (σ : Env) (L : Lst) : Prop where
  run : ∀ a w, Mod X.n a σ → Hp X.w0 X.S L w → c.wpIn (fen ro) 0 X.P (X.lift Q) a w
section
variable {X : Cx} {ro : Option Nat} {x y c : Code} {Q : Post} {σ : Env} {L : Lst} {id : Nat} {ops : Array Oper}
theorem TI.region (hd : noDefers ops = true) (h : R X ops ops.toList (Q .normal) σ L) : TI X ro (.region id ops false) Q σ L :=
  ⟨fun a w ha hw => Go.wpIn_mono (wpIn_region_list (wpList_fen _ a w hd (h.run a w ha hw))) fun e a w ⟨he, σ, L, h1, h2, h3⟩ => ⟨σ, L, h1, h2, he ▸ h3⟩⟩
theorem TI.drawC (is : List Nat) (hn : is.Nodup) (hd : noDefers ops = true) (h : A X ops (pick L is) ops.size (Array.replicate ops.size false) (Q .normal) σ L) : TI X ro (.region id ops true) Q σ L :=
  ⟨fun a w ha hw => by
    have hw' := hw.step (Chg.drew [] w)
    exact Go.wpIn_mono (wpIn_region_any X.tb.mix (wpAny_fen hd _ _ _ _ (wpAny_of_C _ _ _ _ (h.run a _ ha hw' (hw'.pick hn))))) fun e a w ⟨he, σ, L, h1, h2, h3⟩ => ⟨σ, L, h1, h2, he ▸ h3⟩⟩
theorem TI.seq (h : TI X ro x (noQ fun σ L => TI X ro y Q σ L) σ L) : TI X ro (.seq x y) Q σ L :=
  ⟨fun a w ha hw => wpIn_seq (Go.wpIn_mono (h.run a w ha hw) fun e a w ⟨σ, L, h1, h2, h3⟩ => by
    cases e with
    | normal => exact h3.run a w h1 h2
    | _ => exact h3.elim)⟩
theorem TI.block {K : Env → Lst → Prop} (h : TI X ro c (noQ K) σ L) : TI X ro (.block id c) (noQ K) σ L :=
  ⟨fun a w ha hw => wpIn_block (Go.wpIn_mono (h.run a w ha hw) fun e a w ⟨σ, L, h1, h2, h3⟩ => by
    cases e with
    | normal => exact ⟨σ, L, h1, h2, h3⟩
    | _ => exact h3.elim)⟩
end
theorem RetOk.run {X : Cx} {fn : Func} {Rp : Value → Lst → Prop} {σ : Env} {L : Lst} {a : Act} {w : World} (h : RetOk X fn.results.toList Rp σ L) (ha : Mod X.n a σ) (hw : Hp X.w0 X.S L w) : ∃ v, (results fn a.tmps).run X.P w = .ok v w ∧ Rp v L := by
  obtain ⟨⟨vs, h4, h5⟩⟩ := h
  refine ⟨tup vs, ?_, h5⟩
  have := ResIs.run ha hw h4
  have h6 : (fn.results.mapM (m := Sem) fun | .tmp t => Pure.pure (a.tmps.getD t undef) | .cell b t => do loadVar t (← asAddr (a.tmps.getD b undef))).run X.P w = .ok vs.toArray w := by
    rw [← Array.toArray_toList (xs := fn.results), List.mapM_toArray]
    simp only [Sem.run_map]
    erw [this]
    rfl
  simp only [results, Sem.run_bind]
  erw [h6]
  simp only [Result.andThen_ok, Sem.run_pure]
  congr 1
  cases vs with
  | nil => rfl
  | cons v vs => cases vs <;> rfl
theorem CallM.wk {P : Program} {f : FuncId} {vs : List Value} {L : Lst} {w : World} {R R' : Value → Lst → Prop} (h : CallM P f vs L w R) (hr : ∀ v L, R v L → R' v L) : CallM P f vs L w R' :=
  ⟨fun hw => (h.run hw).mono fun e w' ⟨v, L', h1, h2, h3⟩ => ⟨v, L', h1, hr _ _ h2, h3⟩⟩
end Go.Proofs.YtligngjcnlbgmaaGreat
set_option linter.unusedSimpArgs false
set_option linter.unusedVariables false
set_option linter.unusedSectionVars false
namespace Go.Proofs.YtligngjcnlbgmaaGreat
open Go.RowKit Go.Shelf Go.ChangeShapes Go.WideShapes Go.Deep
/-- A cell of this kind, within its range. -/
def cellW : TK → Value → Prop
  | .int k, .int k' n => k' = k ∧ k.min ≤ n ∧ n ≤ k.max
  | .bool, .bool _ => True
  | .string, .string s => s.size ≤ maxLen
  | _, _ => False
def allW : List TK → List Value → Prop
  | [], [] => True
  | k :: ks, v :: vs => cellW k v ∧ allW ks vs
  | _, _ => False
theorem allW_append : ∀ {ks ls : List TK} {vs : List Value}, allW ks (vs.take ks.length) → allW ls (vs.drop ks.length) → allW (ks ++ ls) vs
  | [], ls, vs, _, h => by simpa using h
  | k :: ks, ls, [], h, _ => by simp [allW] at h
  | k :: ks, ls, v :: vs, h, h2 => by
    simp only [List.length_cons, List.take_succ_cons, List.drop_succ_cons, allW] at h h2
    exact ⟨h.1, allW_append h.2 h2⟩

section
variable {H : Type} {enc : TypeId × Value → H} {P : Program} {w : World} {base : Nat} {spare : Nat → Bool} {held : Bool}
theorem cells_of (w : World) {t sz : Nat} (h : ∀ w, (Go.sizeOf t).run P w = .ok sz w) : P.cellsOf t = sz := by
  have := h w
  simp only [Go.sizeOf, typeInfo, Sem.run_bind, Sem.run_pure] at this
  unfold Program.cellsOf
  cases hi : P.info? t with
  | none => simp [hi] at this
  | some i => simp [hi] at this; simp [this]
theorem trodFs {g : Nat → Option (List TK)} {n : Nat} {cs : List Value} (hg : ∀ t ks us x, g t = some ks → P.cellsOf t = ks.length → DataW.trod enc P w base spare held n t us = some x → allW ks us) :
    ∀ (fields : List Field) (fs : List (Nat × Nat × Nat)) (k : Nat) (ks : List TK), Flds P fields fs → flatFs g fs k = some ks → cs.length = k + ks.length → (∀ f ∈ fields, ∃ x, DataW.trod enc P w base spare held n f.type ((cs.drop f.offset).take (P.cellsOf f.type)) = some x) → allW ks (cs.drop k)
  | [], [], k, ks, _, h, hl, _ => by
    simp only [flatFs, Option.some.injEq] at h
    subst h
    rw [List.drop_eq_nil_of_le (by simp at hl; omega)]
    trivial
  | [], _ :: _, _, _, h, _, _, _ => h.elim
  | _ :: _, [], _, _, h, _, _, _ => h.elim
  | f :: fields, (t, off, sz) :: fs, k, ks, hF, h, hl, hx => by
    obtain ⟨e1, e2, e3, e4, e5⟩ := hF
    simp only [flatFs] at h
    split at h
    · cases h
    · rename_i hb
      have hb' := Nat.eq_of_beq_eq_true hb
      split at h
      · cases h
      · rename_i k1 hk1
        split at h
        · cases h
        · rename_i hl1
          have hl1' := Nat.eq_of_beq_eq_true hl1
          split at h
          · cases h
          · rename_i k2 hk2
            cases h
            obtain ⟨x, hx1⟩ := hx f List.mem_cons_self
            have hsz := cells_of w e3
            rw [e1, e2, hsz, hb'] at hx1
            have h1 := hg t k1 _ x hk1 (by rw [hsz, hl1']) hx1
            have h2 := trodFs hg fields fs (k + sz) k2 e5 hk2 (by rw [hl, List.length_append, hl1']; omega) fun f' hf' => hx f' (List.mem_cons_of_mem _ hf')
            refine allW_append (by rw [hl1']; exact h1) ?_
            rw [List.drop_drop, hl1']; exact h2
theorem allW_rep {k1 : List TK} : ∀ (m : Nat) (cs : List Value), cs.length = m * k1.length → (∀ i, i < m → allW k1 ((cs.drop (i * k1.length)).take k1.length)) → allW (repK k1 m) cs
  | 0, cs, hl, _ => by
    have : cs = [] := by cases cs; rfl; simp at hl
    subst this; trivial
  | m + 1, cs, hl, h => by
    have h0 := h 0 (by omega)
    simp only [Nat.zero_mul, List.drop_zero] at h0
    rw [Nat.add_mul] at hl
    refine allW_append h0 (allW_rep m _ (by rw [List.length_drop, hl]; omega) fun i hi => ?_)
    have := h (i + 1) (by omega)
    rwa [List.drop_drop, show k1.length + i * k1.length = (i + 1) * k1.length by rw [Nat.add_mul]; omega]
theorem trod_flat (tb : Tb P) : ∀ (n t : Nat) (ks : List TK), flatE tb n t = some ks → P.cellsOf t = ks.length → ∀ fuel cs x, DataW.trod enc P w base spare held fuel t cs = some x → allW ks cs
  | 0, _, _, h, _, _, _, _, _ => by cases h
  | n + 1, t, ks, h, hlen, fuel, cs, x, hx => by
    simp only [flatE] at h
    split at h
    · cases h
    · rename_i r hr
      have hgd := tb.get hr
      have his := hgd.is
      split at h
      · rename_i k hk
        rw [hk] at his
        cases h
        obtain ⟨m, rfl, _, hwf⟩ := DataW.trod_int his hx
        simp only [Lit.wf, Bool.and_eq_true, decide_eq_true_eq] at hwf
        exact ⟨⟨rfl, hwf⟩, trivial⟩
      · rename_i hk
        rw [hk] at his
        cases h
        obtain ⟨b, rfl, _⟩ := DataW.trod_bool his hx
        exact ⟨trivial, trivial⟩
      · rename_i hk
        rw [hk] at his
        cases h
        obtain ⟨s, rfl, _, hs⟩ := DataW.trod_string his hx
        exact ⟨hs, trivial⟩
      · rename_i fs hk
        rw [hk] at his
        obtain ⟨fields, h1, h2⟩ := his
        obtain ⟨xs, m, rfl, _, hcl, hxl, hf⟩ := DataW.trod_struct h1 hx
        have := trodFs (cs := cs) (n := m) (fun t ks us x hg hc ht => trod_flat tb n t ks hg hc m us x ht) fields.toList fs 0 ks h2 h (by rw [hcl, hlen]; omega) fun f hf' => by
          obtain ⟨i, hi, he⟩ := List.getElem_of_mem hf'
          have h3 : fields[i]? = some f := by rw [← he]; simp at hi; simp [hi]
          have h4 := hf i f h3
          simp at hi
          rw [List.getElem?_eq_getElem (by omega)] at h4
          exact ⟨_, h4⟩
        simpa using this
      · rename_i mm e hk
        rw [hk] at his
        split at h
        · cases h
        · rename_i re hre
          split at h
          · cases h
          · rename_i k1 hk1
            split at h
            · cases h
            · rename_i hl1
              have hl1' := Nat.eq_of_beq_eq_true hl1
              cases h
              obtain ⟨xs, m, rfl, _, hcl, hxl, hf⟩ := DataW.trod_array his hx
              have hce : P.cellsOf e = k1.length := by rw [cells_of w (tb.get hre).size, hl1']
              refine allW_rep mm cs (by rw [hcl, hlen, repK_len]) fun i hi => ?_
              have h4 := hf i hi
              rw [hce, List.getElem?_eq_getElem (by omega)] at h4
              exact trod_flat tb n e k1 hk1 hce m _ _ h4
      · cases h

/-- A slice of plain rows that came in. -/
theorem open_rows {α : Type} [Inhabited α] (f : α → List Value) (tb : Tb P) {t e : TypeId} {r re : TRow} {ks : List TK} {v : Value} {d : DataW H} {p : List MemPlace} (ht : tb.row t = some r) (hk : r.k = .slice e) (he : tb.row e = some re) (hf : flatE tb 8 e = some ks) (hl : Nat.beq ks.length re.size = true) (hpos : Nat.ble 1 ks.length = true)
    (hlen : ∀ a, (f a).length = ks.length) (dec : ∀ cs, allW ks cs → ∃ a, f a = cs)
    {rc : Reach} {b0 : Nat} (hv : Value.okWide P w rc b0 t v) (h : DataW.Trod enc P w base spare held t v d p) :
    ∃ (a : Option Addr) (rs : List α) (cap : Nat), v = .slice a rs.length cap ∧ RdSl w a f rs ∧ rs.length ≤ cap ∧ cap ≤ maxLen ∧ (∀ x ∈ rs, allW ks (f x)) ∧ (a = none → cap = 0) := by
  have hu : P.underlying t = some (.slice e) := by have := (tb.get ht).is; rw [hk] at this; exact this
  obtain ⟨a0, len0, cap0, rfl⟩ := okWide_slice hu hv
  obtain ⟨fuel, hfu⟩ := h
  have hce : P.cellsOf e = ks.length := by rw [cells_of w (tb.get he).size, Nat.eq_of_beq_eq_true hl]
  rcases open_slice hu hfu with ⟨h0, _⟩ | ⟨a, len, cap, m, n, D, Pl, hcs, hb, hlc, hm, hmm, hx, hi⟩
  · have : a0 = none ∧ len0 = 0 ∧ cap0 = 0 := by simpa [Value.cells] using h0
    obtain ⟨rfl, rfl, rfl⟩ := this
    exact ⟨none, [], 0, rfl, .inl rfl, by simp, by simp, by simp, fun _ => rfl⟩
  · have : a0 = some a ∧ len0 = len ∧ cap0 = cap := by simpa [Value.cells] using hcs
    obtain ⟨rfl, rfl, rfl⟩ := this
    have hle : len0 ≤ m := by rw [hmm]; split <;> omega
    obtain ⟨R, hR⟩ := choose_lt (α := α) (p := fun i x => w.cells? base (a.add (i * P.cellsOf e)) (P.cellsOf e) = some (f x) ∧ allW ks (f x)) (n := len0) (fun i hi' => by
      obtain ⟨cs', h1, h2⟩ := hi i (by omega)
      have h3 := trod_flat tb 8 e ks hf hce _ _ _ h2
      obtain ⟨x, hx⟩ := dec cs' h3
      exact ⟨x, by rw [hx]; exact h1, by rw [hx]; exact h3⟩)
    have hrl : ((List.range len0).map R).length = len0 := by simp
    refine ⟨some a, (List.range len0).map R, cap0, by rw [hrl], ?_, by rw [hrl]; exact hlc, hm, ?_, fun h => by cases h⟩
    · by_cases hz : len0 = 0
      · left; simp [hz]
      · right
        have hpos' := Nat.le_of_ble_eq_true hpos
        have hspot : a.spot = none := by
          obtain ⟨_, h2, h3⟩ := World.cells?_some (hR 0 (by omega)).1
          have h4 := h3 0 (by omega)
          rw [List.getElem?_eq_getElem (by omega)] at h4
          unfold World.cell? at h4
          cases a with | mk b o s =>
          cases s with
          | none => rfl
          | some s => 
            simp only [Addr.add] at h4
            split at h4
            · simp at h4
            · cases h4
        cases a with | mk b o s =>
        simp only at hspot
        subst hspot
        refine ⟨b, o, rfl, fun k hk' => ?_⟩
        rw [fl_len hlen, hrl] at hk'
        have hdm := Nat.div_add_mod k ks.length
        have hml := Nat.mod_lt k (show 0 < ks.length by omega)
        have hil : k / ks.length < len0 := by rw [Nat.div_lt_iff_lt_mul (by omega)]; exact hk'
        have hgi : ((List.range len0).map R)[k / ks.length]? = some (R (k / ks.length)) := by simp [hil]
        have h5 := fl_get hlen hgi hml
        rw [show k / ks.length * ks.length + k % ks.length = k by rw [Nat.mul_comm]; exact hdm] at h5
        rw [h5]
        obtain ⟨_, h2, h3⟩ := World.cells?_some (hR _ hil).1
        have h4 := h3 (k % ks.length) (by rw [hce]; exact hml)
        rw [Addr.add_none, Addr.add_none, hce] at h4
        rw [← h4, show o + k / ks.length * ks.length + k % ks.length = o + k by rw [Nat.add_assoc, show k / ks.length * ks.length + k % ks.length = k by rw [Nat.mul_comm]; exact hdm]]
    · intro x hx'
      obtain ⟨i, hi', rfl⟩ := List.mem_map.1 hx'
      exact (hR i (List.mem_range.1 hi')).2

/-- The arguments read behind the call as before: nothing that was there has changed. -/
theorem trodAll_stays {W W' : World} (hl : laidOutB P = true) (hb : Below W.heap.size W W') {sp : Nat → Bool} : ∀ {ts : List TypeId} {vs : List Value} {ds : List (DataW H)} {ps : List MemPlace}, (∀ t ∈ ts, P.readableRec t = true ∧ t < P.types.size) →
    DataW.TrodAll enc P W 0 (fun _ => true) true ts vs ds ps → (∀ p ∈ ps, p.block < W.heap.size ∧ sp p.block = true) → DataW.TrodAll enc P W' 0 sp true ts vs ds ps
  | [], vs, ds, ps, _, h, _ => by
    obtain ⟨rfl, rfl, rfl⟩ := trodAll_nil h
    exact trodAll_mk0
  | t :: ts, vs, ds, ps, hr, h, hp => by
    obtain ⟨v, vs', d, ds', p, q, rfl, rfl, rfl, h1, h2⟩ := trodAll_cons h
    have g := hr t List.mem_cons_self
    exact ⟨p, q, WideElems.Trod_stays hl g.1 g.2 h1 (fun x hx => hb.same (hp x (List.mem_append_left _ hx)).1) (fun x hx => (hp x (List.mem_append_left _ hx)).2),
      trodAll_stays hl hb (fun t' ht' => hr t' (List.mem_cons_of_mem _ ht')) h2 (fun x hx => hp x (List.mem_append_right _ hx)), rfl⟩
/-- A statement's last step: it returned true, and nothing that was there has changed. -/
theorem law_post {f : Func} {s : ChangeSpec} {apart fresh handsOn again : Bool} {W W' : World} {args : Array Value} {ds gs : List (DataW H)} {before : List MemPlace} {tt : TypeId}
    (hW : DataW.Whole enc P f.params.toList s.vars apart W args.toList ds gs before) (hv : s.vars = []) (hfn : s.fn H ds = { results := [.lit (.bool true)], args := ds, vars := [] })
    (hrt : f.resultTypes = #[tt]) (htt : P.underlying tt = some .bool) (hl : laidOutB P = true) (hread : ∀ t ∈ f.params.toList, P.readableRec t = true ∧ t < P.types.size) (hb : Below W.heap.size W W') :
    s.post enc P f apart fresh handsOn again W args (.bool true) W' := by
  have hlt : ∀ p ∈ before, p.block < W.heap.size := fun p hp => hW.lt p hp
  obtain ⟨p, q, hA, hV, rfl, hz, hn⟩ := hW
  have hV' := hV
  rw [hv] at hV'
  obtain ⟨rfl, rfl⟩ := trodVars_none hV'
  rw [List.append_nil] at hlt hz hn
  have key : ∀ sp : Nat → Bool, (∀ x ∈ p, sp x.block = true) → DataW.TrodAll enc P W' 0 sp true f.params.toList args.toList ds p := fun sp hs => trodAll_stays hl hb hread hA fun x hx => ⟨hlt x hx, hs x hx⟩
  have hres : ∀ (b : Nat) (sp : Nat → Bool) (hd : Bool), DataW.TrodAll enc P W' b sp hd f.resultTypes.toList ((Value.bool true).resultList f.resultTypes.size) [.lit (.bool true)] [] := fun b sp hd => by
    rw [hrt]; exact trodAll_mk1 (shut_bool htt true)
  refine ⟨ds, [], p, [], p, [], ⟨p, [], hA, hV, by simp, hz, hn⟩, ?_, ?_, ?_, World.keptBut_mono (fun x hx => ⟨hx, .inr (.inl hx)⟩) (hb.frame (· ∈ p)), fun _ => ⟨?_, ?_⟩⟩
  · rw [List.append_nil, hfn]; exact hres _ _ _
  · rw [List.append_nil, hfn]; exact key _ fun x hx => by simpa using hlt x hx
  · rw [List.append_nil, hfn, hv]; rfl
  · exact ok_one hrt rfl (okWide_bool_mk htt true)
  · refine ⟨.lit (.bool true) :: ds, [], p, ⟨p, [], ?_, by rw [hv]; rfl, by simp, ?_, hn⟩, fun x hx _ => hx⟩
    · rw [hrt]
      exact ⟨[], p, shut_bool htt true, key _ fun _ _ => rfl, rfl⟩
    · intro b off hx
      rw [hb.frozen (hlt _ hx)]
      exact hz b off hx
end
end Go.Proofs.YtligngjcnlbgmaaGreat
set_option linter.unusedSimpArgs false
set_option linter.unusedVariables false
namespace Go.Proofs.YtligngjcnlbgmaaGreat
open Go.ChangeShapes Go.WideShapes Go.ChangeAt Go.RowKit
set_option linter.unusedSectionVars false
open Go.Shelf Go.Deep
section
variable {H : Type} {enc : TypeId × Value → H} {P : Program} {w : World} {base : Nat} {spare : Nat → Bool} {held : Bool}
/-- What a type's cells may be, once they have been trodden. -/
def Opens (enc : TypeId × Value → H) (P : Program) (w : World) (base : Nat) (spare : Nat → Bool) (held : Bool) (t : TypeId) (Q : List Value → Prop) : Prop := ∀ fuel cs x, DataW.trod enc P w base spare held fuel t cs = some x → Q cs
theorem Opens.flat (tb : Tb P) {t : TypeId} {r : TRow} {ks : List TK} (ht : tb.row t = some r) (hf : flatE tb 8 t = some ks) (hl : Nat.beq ks.length r.size = true) : Opens enc P w base spare held t (allW ks) :=
  fun fuel cs x h => trod_flat tb 8 t ks hf (by rw [cells_of w (tb.get ht).size, Nat.eq_of_beq_eq_true hl]) fuel cs x h
/-- One field of a struct. -/
theorem Opens.field (tb : Tb P) {t ft off sz : Nat} {r : TRow} {fs : List (Nat × Nat × Nat)} {Q : List Value → Prop} (ht : tb.row t = some r) (hk : r.k = .strct fs) (i : Nat) (hi : fldE fs i = some (ft, off, sz)) (hQ : Opens enc P w base spare held ft Q) :
    Opens enc P w base spare held t fun cs => cs.length = r.size ∧ Q ((cs.drop off).take sz) := by
  intro fuel cs x hx
  have his := (tb.get ht).is
  rw [hk] at his
  obtain ⟨fields, h1, h2⟩ := his
  obtain ⟨xs, m, rfl, _, hcl, hxl, hf⟩ := DataW.trod_struct h1 hx
  obtain ⟨f, g1, g2, g3, g4, _⟩ := Flds.get h2 hi
  have g1' : fields[i]? = some f := by rw [← g1]; simp
  have h4 := hf i f g1'
  have hlt : i < xs.length := by rw [hxl]; exact (Array.getElem?_eq_some_iff.1 g1').1
  rw [List.getElem?_eq_getElem hlt, g2, g3, cells_of w g4] at h4
  exact ⟨by rw [hcl, cells_of w (tb.get ht).size], hQ _ _ _ h4⟩
theorem Opens.and {t : TypeId} {Q R : List Value → Prop} (h : Opens enc P w base spare held t Q) (h2 : Opens enc P w base spare held t R) : Opens enc P w base spare held t fun cs => Q cs ∧ R cs := fun f cs x hx => ⟨h f cs x hx, h2 f cs x hx⟩
theorem Opens.mono {t : TypeId} {Q R : List Value → Prop} (h : Opens enc P w base spare held t Q) (h2 : ∀ cs, Q cs → R cs) : Opens enc P w base spare held t R := fun f cs x hx => h2 _ (h f cs x hx)
/-- A slice whose elements open. -/
theorem Opens.slice {α : Type} [Inhabited α] (f : α → List Value) (Q : α → Prop) (tb : Tb P) {t e : TypeId} {r re : TRow} (ht : tb.row t = some r) (hk : r.k = .slice e) (he : tb.row e = some re) (hpos : Nat.ble 1 re.size = true)
    (hlen : ∀ a, (f a).length = re.size) (hE : Opens enc P w base spare held e fun cs => ∃ a, f a = cs ∧ Q a) :
    Opens enc P w base spare held t fun cs => ∃ (a : Option Addr) (rs : List α) (cap : Nat), cs = [.slice a rs.length cap] ∧ RdSl w a f rs ∧ rs.length ≤ cap ∧ cap ≤ maxLen ∧ (∀ x ∈ rs, Q x) ∧ (a = none → cap = 0) := by
  intro fuel cs x hfu
  have hu : P.underlying t = some (.slice e) := by have := (tb.get ht).is; rw [hk] at this; exact this
  have hce : P.cellsOf e = re.size := cells_of w (tb.get he).size
  rcases open_slice hu hfu with ⟨h0, _⟩ | ⟨a, len, cap, m, n, D, Pl, hcs, hb, hlc, hm, hmm, hx, hi⟩
  · exact ⟨none, [], 0, h0, .inl rfl, by simp, by simp, by simp, fun _ => rfl⟩
  · have hle : len ≤ m := by rw [hmm]; split <;> omega
    obtain ⟨R, hR⟩ := choose_lt (α := α) (p := fun i x => w.cells? base (a.add (i * P.cellsOf e)) (P.cellsOf e) = some (f x) ∧ Q x) (n := len) (fun i hi' => by
      obtain ⟨cs', h1, h2⟩ := hi i (by omega)
      obtain ⟨x, hx, hq⟩ := hE _ _ _ h2
      exact ⟨x, by rw [hx]; exact h1, hq⟩)
    have hrl : ((List.range len).map R).length = len := by simp
    refine ⟨some a, (List.range len).map R, cap, by rw [hrl]; exact hcs, ?_, by rw [hrl]; exact hlc, hm, ?_, fun h => by cases h⟩
    · by_cases hz : len = 0
      · left; simp [hz]
      · right
        have hpos' := Nat.le_of_ble_eq_true hpos
        have hspot : a.spot = none := by
          obtain ⟨_, h2, h3⟩ := World.cells?_some (hR 0 (by omega)).1
          have h4 := h3 0 (by omega)
          rw [List.getElem?_eq_getElem (by omega)] at h4
          unfold World.cell? at h4
          cases a with | mk b o s =>
          cases s with
          | none => rfl
          | some s =>
            simp only [Addr.add] at h4
            split at h4
            · simp at h4
            · cases h4
        cases a with | mk b o s =>
        simp only at hspot
        subst hspot
        refine ⟨b, o, rfl, fun k hk' => ?_⟩
        rw [fl_len hlen, hrl] at hk'
        have hdm := Nat.div_add_mod k re.size
        have hml := Nat.mod_lt k (show 0 < re.size by omega)
        have hil : k / re.size < len := by rw [Nat.div_lt_iff_lt_mul (by omega)]; exact hk'
        have hgi : ((List.range len).map R)[k / re.size]? = some (R (k / re.size)) := by simp [hil]
        have h5 := fl_get hlen hgi hml
        rw [show k / re.size * re.size + k % re.size = k by rw [Nat.mul_comm]; exact hdm] at h5
        rw [h5]
        obtain ⟨_, h2, h3⟩ := World.cells?_some (hR _ hil).1
        have h4 := h3 (k % re.size) (by rw [hce]; exact hml)
        rw [Addr.add_none, Addr.add_none, hce] at h4
        rw [← h4, show o + k / re.size * re.size + k % re.size = o + k by rw [Nat.add_assoc, show k / re.size * re.size + k % re.size = k by rw [Nat.mul_comm]; exact hdm]]
    · intro x hx'
      obtain ⟨i, hi', rfl⟩ := List.mem_map.1 hx'
      exact (hR i (List.mem_range.1 hi')).2
/-- An argument that opens. -/
theorem Opens.arg {t : TypeId} {Q : List Value → Prop} (hE : Opens enc P w base spare held t Q) {v : Value} {d : DataW H} {p : List MemPlace} (h : DataW.Trod enc P w base spare held t v d p) : Q v.cells.toList := by
  obtain ⟨fuel, hfu⟩ := h
  exact hE _ _ _ hfu
/-- A slice that came in. -/
theorem Opens.argSl {α : Type} {R : Option Addr → List α → Nat → Prop} (tb : Tb P) {t e : TypeId} {r : TRow} (ht : tb.row t = some r) (hk : r.k = .slice e) {v : Value} {d : DataW H} {p : List MemPlace} {rc : Reach} {b0 : Nat} (hv : Value.okWide P w rc b0 t v)
    (hE : Opens enc P w base spare held t fun cs => ∃ (a : Option Addr) (rs : List α) (cap : Nat), cs = [.slice a rs.length cap] ∧ R a rs cap) (h : DataW.Trod enc P w base spare held t v d p) : ∃ (a : Option Addr) (rs : List α) (cap : Nat), v = .slice a rs.length cap ∧ R a rs cap := by
  have hu : P.underlying t = some (.slice e) := by have := (tb.get ht).is; rw [hk] at this; exact this
  obtain ⟨a0, len0, cap0, rfl⟩ := okWide_slice hu hv
  obtain ⟨a, rs, cap, h1, h2⟩ := hE.arg h
  simp only [Value.cells, List.cons.injEq, Value.slice.injEq, and_true] at h1
  obtain ⟨rfl, rfl, rfl⟩ := h1
  exact ⟨_, _, _, rfl, h2⟩
end
section
variable {H : Type} {enc : TypeId × Value → H} {P : Program} {w : World} {base : Nat} {spare : Nat → Bool} {held : Bool}
end
end Go.Proofs.YtligngjcnlbgmaaGreat
set_option linter.unusedSimpArgs false
set_option linter.unusedVariables false
namespace Go.Proofs.YtligngjcnlbgmaaGreat
open Go.RowKit Go.Shelf
def andI (k : IntKind) (x y : Int) : Int := k.wrap (BitVec.ofInt k.bits x &&& BitVec.ofInt k.bits y).toNat
def orI (k : IntKind) (x y : Int) : Int := k.wrap (BitVec.ofInt k.bits x ||| BitVec.ofInt k.bits y).toNat
def xorI (k : IntKind) (x y : Int) : Int := k.wrap (BitVec.ofInt k.bits x ^^^ BitVec.ofInt k.bits y).toNat
section
variable {X : Cx} {σ : Env} {L : Lst} {d : Option Nat} {ty ty2 t : TypeId} {pos : String} {af : Array Edge} {g : Option (Nat × Bool)} {x y : Operand} {i j : Int} {k : IntKind}
theorem Ok1.andK (hx : ev σ x = some (.int k i)) (hy : ev σ y = some (.int k j)) : Ok1 X ⟨d, .binOp .and t x y ty2, ty, pos, af, g⟩ σ L (.int k (andI k i j)) := .mk fun a w ha hw => by
  simp [execOp, ha.ev hx, ha.ev hy, eqGuard, binOp, Op.intBits, andI]
theorem Ok1.orK (hx : ev σ x = some (.int k i)) (hy : ev σ y = some (.int k j)) : Ok1 X ⟨d, .binOp .or t x y ty2, ty, pos, af, g⟩ σ L (.int k (orI k i j)) := .mk fun a w ha hw => by
  simp [execOp, ha.ev hx, ha.ev hy, eqGuard, binOp, Op.intBits, orI]
theorem Ok1.xorK (hx : ev σ x = some (.int k i)) (hy : ev σ y = some (.int k j)) : Ok1 X ⟨d, .binOp .xor t x y ty2, ty, pos, af, g⟩ σ L (.int k (xorI k i j)) := .mk fun a w ha hw => by
  simp [execOp, ha.ev hx, ha.ev hy, eqGuard, binOp, Op.intBits, xorI]
theorem Ok1.cplK (hx : ev σ x = some (.int k i)) (hs : k.signed = false) : Ok1 X ⟨d, .unOp .xor t x, ty, pos, af, g⟩ σ L (.int k (xorI k k.max i)) := .mk fun a w ha hw => by
  simp [execOp, ha.ev hx, Op.unary, Op.intBits, xorI, hs]
theorem Ok1.shl {k2 : IntKind} {m : Int} (hx : ev σ x = some (.int k i)) (hy : ev σ y = some (.int k2 j)) (h : 0 ≤ j) (h2 : j.toNat ≤ k.bits) (hm : pw j.toNat = m) : Ok1 X ⟨d, .binOp .shl t x y ty2, ty, pos, af, g⟩ σ L (.int k (k.wrap (i * m))) := .mk fun a w ha hw => by
  have : ¬ j < 0 := by omega
  rw [← hm, pw_eq]
  simp [execOp, ha.ev hx, ha.ev hy, eqGuard, binOp, Op.shift, this, Nat.min_eq_left h2]
theorem Ok1.add32 (hx : ev σ x = some (.int .u32 i)) (hy : ev σ y = some (.int .u32 j)) : Ok1 X ⟨d, .binOp .add t x y ty2, ty, pos, af, g⟩ σ L (.int .u32 (IntKind.u32.wrap (i + j))) := Ok1.add hx hy
theorem Ok1.mul32 (hx : ev σ x = some (.int .u32 i)) (hy : ev σ y = some (.int .u32 j)) : Ok1 X ⟨d, .binOp .mul t x y ty2, ty, pos, af, g⟩ σ L (.int .u32 (IntKind.u32.wrap (i * j))) := Ok1.mul hx hy
theorem wrap_u64 {i : Int} (h1 : 0 ≤ i) (h2 : i ≤ 18446744073709551615) : IntKind.u64.wrap i = i := IntWalk.u64_in i ⟨h1, h2⟩
theorem Ok1.addU (hx : ev σ x = some (.int .u64 i)) (hy : ev σ y = some (.int .u64 j)) (h1 : 0 ≤ i + j) (h2 : i + j ≤ 18446744073709551615) : Ok1 X ⟨d, .binOp .add t x y ty2, ty, pos, af, g⟩ σ L (.int .u64 (i + j)) := by
  have := Ok1.add (X := X) (σ := σ) (L := L) (d := d) (ty := ty) (pos := pos) (af := af) (g := g) (t := t) (ty2 := ty2) hx hy
  rwa [wrap_u64 h1 h2] at this
theorem Ok1.mulU (hx : ev σ x = some (.int .u64 i)) (hy : ev σ y = some (.int .u64 j)) (h1 : 0 ≤ i * j) (h2 : i * j ≤ 18446744073709551615) : Ok1 X ⟨d, .binOp .mul t x y ty2, ty, pos, af, g⟩ σ L (.int .u64 (i * j)) := by
  have := Ok1.mul (X := X) (σ := σ) (L := L) (d := d) (ty := ty) (pos := pos) (af := af) (g := g) (t := t) (ty2 := ty2) hx hy
  rwa [wrap_u64 h1 h2] at this
theorem Ok1.quoU (hx : ev σ x = some (.int .u64 i)) (hy : ev σ y = some (.int .u64 j)) (h0 : 0 ≤ i) (h1 : 0 < j) (h2 : i ≤ 18446744073709551615) : Ok1 X ⟨d, .binOp .quo t x y ty2, ty, pos, af, g⟩ σ L (.int .u64 (i / j)) := by
  have := Ok1.quo (X := X) (L := L) (ty := ty) (ty2 := ty2) (t := t) (pos := pos) (af := af) (d := d) (g := g) hx hy (by omega)
  rw [Int.tdiv_eq_ediv_of_nonneg h0] at this
  have h3 := Int.ediv_le_self j h0
  have h4 := Int.ediv_nonneg h0 (Int.le_of_lt h1)
  rwa [wrap_u64 h4 (by omega)] at this
theorem Ok1.andE {m : Int} (hx : ev σ x = some (.int k i)) (hy : ev σ y = some (.int k j)) (hm : andI k i j = m) : Ok1 X ⟨d, .binOp .and t x y ty2, ty, pos, af, g⟩ σ L (.int k m) := hm ▸ Ok1.andK hx hy
theorem Ok1.subU (hx : ev σ x = some (.int .u64 i)) (hy : ev σ y = some (.int .u64 j)) (h1 : 0 ≤ i - j) (h2 : i - j ≤ 18446744073709551615) : Ok1 X ⟨d, .binOp .sub t x y ty2, ty, pos, af, g⟩ σ L (.int .u64 (i - j)) := by
  have := Ok1.sub (X := X) (σ := σ) (L := L) (d := d) (ty := ty) (pos := pos) (af := af) (g := g) (t := t) (ty2 := ty2) hx hy
  rwa [wrap_u64 h1 h2] at this
end
end Go.Proofs.YtligngjcnlbgmaaGreat
set_option linter.unusedSimpArgs false
set_option linter.unusedVariables false
namespace Go.Proofs.YtligngjcnlbgmaaGreat
open Go.RowKit Go.Shelf
def wr (i : Int) : Int := IntKind.u32.wrap i
theorem wr_mod (i : Int) : wr i = i % 4294967296 := by simp [wr, IntKind.wrap, IntKind.bits, IntKind.signed]
theorem wr_in {i : Int} (h1 : 0 ≤ i) (h2 : i ≤ 4294967295) : wr i = i := by rw [wr_mod]; omega
theorem wr_bv (v : BitVec 32) : IntKind.u32.wrap (v.toNat : Int) = v.toNat := by
  have := v.isLt
  exact wr_in (i := (v.toNat : Int)) (by omega) (by omega)
theorem ofInt_bv (v : BitVec 32) : BitVec.ofInt 32 (v.toNat : Int) = v := by simp
theorem xorI_nat (a b : Int) : xorI .u32 a b = (BitVec.ofInt 32 a ^^^ BitVec.ofInt 32 b).toNat := wr_bv (BitVec.ofInt 32 a ^^^ BitVec.ofInt 32 b)
theorem xorI_ofInt (a b : Int) : BitVec.ofInt 32 (xorI .u32 a b) = BitVec.ofInt 32 a ^^^ BitVec.ofInt 32 b := by rw [xorI_nat]; exact ofInt_bv _
theorem andI_nat (a b : Int) : andI .u32 a b = (BitVec.ofInt 32 a &&& BitVec.ofInt 32 b).toNat := wr_bv (BitVec.ofInt 32 a &&& BitVec.ofInt 32 b)
theorem andI_ofInt (a b : Int) : BitVec.ofInt 32 (andI .u32 a b) = BitVec.ofInt 32 a &&& BitVec.ofInt 32 b := by rw [andI_nat]; exact ofInt_bv _
theorem orI_nat (a b : Int) : orI .u32 a b = (BitVec.ofInt 32 a ||| BitVec.ofInt 32 b).toNat := wr_bv (BitVec.ofInt 32 a ||| BitVec.ofInt 32 b)
theorem orI_ofInt (a b : Int) : BitVec.ofInt 32 (orI .u32 a b) = BitVec.ofInt 32 a ||| BitVec.ofInt 32 b := by rw [orI_nat]; exact ofInt_bv _
theorem orI_comm (a b : Int) : orI .u32 a b = orI .u32 b a := by rw [orI_nat, orI_nat, BitVec.or_comm]
def rotr (x p q : Int) : Int := orI .u32 (wr (x * q)) (x / p)
def turned (x p1 q1 p2 q2 p3 q3 : Int) : Int := xorI .u32 (xorI .u32 (rotr x p1 q1) (rotr x p2 q2)) (rotr x p3 q3)
def chI (a b c : Int) : Int := xorI .u32 (andI .u32 a b) (andI .u32 (xorI .u32 4294967295 a) c)
def majI (a b c : Int) : Int := xorI .u32 (xorI .u32 (andI .u32 a b) (andI .u32 a c)) (andI .u32 b c)
theorem bv_ch (a b c : BitVec 32) : (a &&& b) ^^^ ((BitVec.ofInt 32 4294967295 ^^^ a) &&& c) = (a &&& b) ||| ((a ^^^ BitVec.ofInt 32 4294967295) &&& c) := by
  have h1 : BitVec.ofInt 32 4294967295 = BitVec.allOnes 32 := by decide
  rw [h1]
  apply BitVec.eq_of_getLsbD_eq
  intro i hi
  simp only [BitVec.getLsbD_xor, BitVec.getLsbD_and, BitVec.getLsbD_or, BitVec.getLsbD_allOnes, hi, decide_true]
  cases a.getLsbD i <;> cases b.getLsbD i <;> cases c.getLsbD i <;> rfl
theorem bv_maj (a b c : BitVec 32) : (a &&& b) ^^^ (a &&& c) ^^^ (b &&& c) = (a &&& b) ||| (a &&& c) ||| (b &&& c) := by
  apply BitVec.eq_of_getLsbD_eq
  intro i hi
  simp only [BitVec.getLsbD_xor, BitVec.getLsbD_and, BitVec.getLsbD_or]
  cases a.getLsbD i <;> cases b.getLsbD i <;> cases c.getLsbD i <;> rfl
theorem ch_eq (a b c : Int) : orI .u32 (andI .u32 a b) (andI .u32 (xorI .u32 a 4294967295) c) = chI a b c := by
  unfold chI
  rw [orI_nat, xorI_nat (andI .u32 a b)]
  simp only [andI_ofInt, xorI_ofInt]
  rw [bv_ch]
theorem maj_eq (a b c : Int) : orI .u32 (orI .u32 (andI .u32 a b) (andI .u32 a c)) (andI .u32 b c) = majI a b c := by
  unfold majI
  rw [orI_nat, xorI_nat]
  simp only [andI_ofInt, xorI_ofInt, orI_ofInt]
  rw [bv_maj]
/-- Four bytes, the highest first. -/
def wordI (a b c d : Int) : Int := a * 16777216 + b * 65536 + c * 256 + d
theorem or_nat (a b : Nat) (i : Nat) (h : b < 2 ^ i) (h2 : 2 ^ i * a + b < 4294967296) : (BitVec.ofNat 32 (2 ^ i * a) ||| BitVec.ofNat 32 b) = BitVec.ofNat 32 (2 ^ i * a + b) := by
  apply BitVec.eq_of_toNat_eq
  have h3 : 2 ^ i * a < 4294967296 := by omega
  have h4 : b < 4294967296 := by
    have : 0 ≤ 2 ^ i * a := Nat.zero_le _
    omega
  rw [BitVec.toNat_or, BitVec.toNat_ofNat, BitVec.toNat_ofNat, BitVec.toNat_ofNat, Nat.mod_eq_of_lt h3, Nat.mod_eq_of_lt h4, Nat.mod_eq_of_lt h2, Nat.two_pow_add_eq_or_of_lt h]
theorem orI_add {x y : Int} (a b i : Nat) (hx : x = (2 ^ i * a : Nat)) (hy : y = b) (h : b < 2 ^ i) (h2 : 2 ^ i * a + b < 4294967296) : orI .u32 x y = x + y := by
  subst hx; subst hy
  rw [orI_nat, BitVec.ofInt_natCast, BitVec.ofInt_natCast, or_nat a b i h h2, BitVec.toNat_ofNat, Nat.mod_eq_of_lt h2]
  omega
theorem word_or {a b c d : Int} (ha : 0 ≤ a ∧ a ≤ 255) (hb : 0 ≤ b ∧ b ≤ 255) (hc : 0 ≤ c ∧ c ≤ 255) (hd : 0 ≤ d ∧ d ≤ 255) : orI .u32 (orI .u32 (orI .u32 (wr (a * 16777216)) (wr (b * 65536))) (wr (c * 256))) d = wordI a b c d := by
  rw [wr_in (i := a * 16777216) (by omega) (by omega), wr_in (i := b * 65536) (by omega) (by omega), wr_in (i := c * 256) (by omega) (by omega)]
  have h1 : orI .u32 (a * 16777216) (b * 65536) = a * 16777216 + b * 65536 := orI_add (a.toNat) (b.toNat * 65536) 24 (by omega) (by omega) (by omega) (by omega)
  have h2 : orI .u32 (a * 16777216 + b * 65536) (c * 256) = a * 16777216 + b * 65536 + c * 256 := orI_add (a.toNat * 256 + b.toNat) (c.toNat * 256) 16 (by omega) (by omega) (by omega) (by omega)
  have h3 : orI .u32 (a * 16777216 + b * 65536 + c * 256) d = a * 16777216 + b * 65536 + c * 256 + d := orI_add (a.toNat * 65536 + b.toNat * 256 + c.toNat) d.toNat 8 (by omega) (by omega) (by omega) (by omega)
  rw [h1, h2, h3]
  rfl
structure H8 where
  a : Int
  b : Int
  c : Int
  d : Int
  e : Int
  f : Int
  g : Int
  h : Int
def H8.l (s : H8) : List Int := [s.a, s.b, s.c, s.d, s.e, s.f, s.g, s.h]
def u32s (l : List Int) : List Value := l.map (.int .u32)
def u8s (l : List Int) : List Value := l.map (.int .u8)
def H8.v (s : H8) : List Value := u32s s.l
def oneI (s : H8) (k w : Int) : Int := wr (wr (wr (wr (s.h + turned s.e 64 67108864 2048 2097152 33554432 128) + chI s.e s.f s.g) + k) + w)
def twoI (s : H8) : Int := wr (turned s.a 4 1073741824 8192 524288 4194304 1024 + majI s.a s.b s.c)
def stepI (s : H8) (k w : Int) : H8 := ⟨wr (oneI s k w + twoI s), s.a, s.b, s.c, wr (s.d + oneI s k w), s.e, s.f, s.g⟩
def addH (s t : H8) : H8 := ⟨wr (s.a + t.a), wr (s.b + t.b), wr (s.c + t.c), wr (s.d + t.d), wr (s.e + t.e), wr (s.f + t.f), wr (s.g + t.g), wr (s.h + t.h)⟩
/-- The words of a block's bytes b. -/
def nextI (b l : List Int) : Int :=
  if l.length < 16 then wordI (b.getD (4 * l.length) 0) (b.getD (4 * l.length + 1) 0) (b.getD (4 * l.length + 2) 0) (b.getD (4 * l.length + 3) 0)
  else wr (wr (wr (l.getD (l.length - 16) 0 + xorI .u32 (xorI .u32 (rotr (l.getD (l.length - 15) 0) 128 33554432) (rotr (l.getD (l.length - 15) 0) 262144 16384)) (l.getD (l.length - 15) 0 / 8)) + l.getD (l.length - 7) 0)
    + xorI .u32 (xorI .u32 (rotr (l.getD (l.length - 2) 0) 131072 32768) (rotr (l.getD (l.length - 2) 0) 524288 8192)) (l.getD (l.length - 2) 0 / 1024))
def schedI (b : List Int) : Nat → List Int
  | 0 => []
  | i + 1 => schedI b i ++ [nextI b (schedI b i)]
theorem sched_len (b : List Int) (i : Nat) : (schedI b i).length = i := by
  induction i with
  | zero => rfl
  | succ i ih => simp [schedI, ih]
def roundsI (K W : List Int) (s : H8) : Nat → H8
  | 0 => s
  | i + 1 => stepI (roundsI K W s i) (K.getD i 0) (W.getD i 0)
def mixI (K b : List Int) (s : H8) : H8 := addH s (roundsI K (schedI b 64) s 64)
/-- All whole blocks. -/
def allI (K : List Int) : Nat → List Int → H8 → H8
  | 0, _, s => s
  | n + 1, b, s => allI K n (b.drop 64) (mixI K (b.take 64) s)
def h0I : H8 := ⟨1779033703, 3144134277, 1013904242, 2773480762, 1359893119, 2600822924, 528734635, 1541459225⟩
def kI : List Int := [1116352408, 1899447441, 3049323471, 3921009573, 961987163, 1508970993, 2453635748, 2870763221, 3624381080, 310598401, 607225278, 1426881987, 1925078388, 2162078206, 2614888103, 3248222580, 3835390401, 4022224774, 264347078, 604807628, 770255983, 1249150122, 1555081692, 1996064986, 2554220882, 2821834349, 2952996808, 3210313671, 3336571891, 3584528711, 113926993, 338241895, 666307205, 773529912, 1294757372, 1396182291, 1695183700, 1986661051, 2177026350, 2456956037, 2730485921, 2820302411, 3259730800, 3345764771, 3516065817, 3600352804, 4094571909, 275423344, 430227734, 506948616, 659060556, 883997877, 958139571, 1322822218, 1537002063, 1747873779, 1955562222, 2024104815, 2227730452, 2361852424, 2428436474, 2756734187, 3204031479, 3329325298]
def lenI (n : Int) : List Int := [n / 72057594037927936 % 256, n / 281474976710656 % 256, n / 1099511627776 % 256, n / 4294967296 % 256, n / 16777216 % 256, n / 65536 % 256, n / 256 % 256, n % 256]
/-- What stands behind n bytes: a sign, zeros, the length. -/
def padI (n : Nat) : List Int := 128 :: (List.replicate ((119 - n % 64) % 64) 0 ++ lenI (8 * n))
def outI (s : H8) : List Int := s.l.flatMap fun x => [x / 16777216 % 256, x / 65536 % 256, x / 256 % 256, x % 256]
def shaI (b : List Int) : List Int := outI (allI kI ((b ++ padI b.length).length / 64) (b ++ padI b.length) h0I)
theorem out_len (s : H8) : (outI s).length = 32 := by simp [outI, H8.l]
theorem sha_len (b : List Int) : (shaI b).length = 32 := out_len _
theorem kI_len : kI.length = 64 := rfl

theorem allI_add (K : List Int) (j : Nat) : ∀ (i : Nat) (b : List Int) (s : H8), allI K (i + j) b s = allI K j (b.drop (64 * i)) (allI K i b s)
  | 0, b, s => by simp [allI]
  | i + 1, b, s => by
    rw [show i + 1 + j = (i + j) + 1 by omega, allI, allI_add K j i, allI, List.drop_drop, show 64 + 64 * i = 64 * (i + 1) by omega]
theorem allI_app (K : List Int) : ∀ (i : Nat) (b c : List Int) (s : H8), 64 * i ≤ b.length → allI K i (b ++ c) s = allI K i b s
  | 0, _, _, _, _ => rfl
  | i + 1, b, c, s, h => by
    rw [allI, allI, List.drop_append_of_le_length (by omega), List.take_append_of_le_length (by omega)]
    exact allI_app K i _ c _ (by rw [List.length_drop]; omega)
/-- The words and what is left, once bytes b have come. -/
def wordsI (b : List Int) : H8 := allI kI (b.length / 64) b h0I
def leftI (b : List Int) : List Int := b.drop (64 * (b.length / 64))
theorem left_len (b : List Int) : (leftI b).length = b.length % 64 := by unfold leftI; rw [List.length_drop]; omega
theorem feed (b x : List Int) : allI kI ((leftI b ++ x).length / 64) (leftI b ++ x) (wordsI b) = wordsI (b ++ x) ∧ (leftI b ++ x).drop (64 * ((leftI b ++ x).length / 64)) = leftI (b ++ x) := by
  have hl := left_len b
  have hd : leftI b ++ x = (b ++ x).drop (64 * (b.length / 64)) := by
    unfold leftI; rw [List.drop_append_of_le_length (by omega)]
  have hn : (b ++ x).length / 64 = b.length / 64 + (leftI b ++ x).length / 64 := by
    rw [List.length_append, List.length_append, hl]; omega
  constructor
  · unfold wordsI
    rw [hn, allI_add, ← hd, allI_app kI _ b x _ (by omega)]
  · conv => rhs; unfold leftI
    rw [hn, Nat.mul_add, ← List.drop_drop, ← hd]
theorem sha_words (b : List Int) : shaI b = outI (wordsI (b ++ padI b.length)) := rfl
end Go.Proofs.YtligngjcnlbgmaaGreat
namespace Go.Proofs.YtligngjcnlbgmaaGreat
open Go.RowKit Go.Shelf
def rowsTab : List (Option TRow) := [
  none,
  some { k := .fn, size := 1, bytes := 8, zero := .nilFunc },
  some { k := .int .i64, size := 1, bytes := 8, zero := .int .i64 0 },
  some { k := .int .i64, size := 1, bytes := 8, zero := .int .i64 0 },
  some { k := .bool, size := 1, bytes := 1, zero := .bool false },
  some { k := .int .u8, size := 1, bytes := 1, zero := .int .u8 0 },
  some { k := .int .u8, size := 1, bytes := 1, zero := .int .u8 0 },
  none,
  none,
  some { k := .string, size := 1, bytes := 16, zero := .string ByteArray.empty },
  some { k := .string, size := 1, bytes := 16, zero := .string ByteArray.empty },
  some { k := .string, size := 1, bytes := 16, zero := .string ByteArray.empty },
  some { k := .int .u64, size := 1, bytes := 8, zero := .int .u64 0 },
  none,
  none,
  some { k := .ptr 293, size := 1, bytes := 8, zero := .pointer none },
  some { k := .ptr 296, size := 1, bytes := 8, zero := .pointer none },
  some { k := .ptr 304, size := 1, bytes := 8, zero := .pointer none },
  none,
  none,
  none,
  some { k := .int .i32, size := 1, bytes := 4, zero := .int .i32 0 },
  some { k := .slice 5, size := 1, bytes := 24, zero := .slice none 0 0 },
  some { k := .strct [(3, 0, 1), (3, 1, 1), (3, 2, 1), (22, 3, 1)], size := 4, bytes := 48, zero := .agg #[.int .i64 0, .int .i64 0, .int .i64 0, .slice none 0 0] },
  some { k := .strct [(3, 0, 1), (3, 1, 1), (3, 2, 1), (22, 3, 1)], size := 4, bytes := 48, zero := .agg #[.int .i64 0, .int .i64 0, .int .i64 0, .slice none 0 0] },
  some { k := .strct [(3, 0, 1), (3, 1, 1), (3, 2, 1), (22, 3, 1)], size := 4, bytes := 48, zero := .agg #[.int .i64 0, .int .i64 0, .int .i64 0, .slice none 0 0] },
  some { k := .strct [(3, 0, 1), (3, 1, 1), (3, 2, 1), (22, 3, 1)], size := 4, bytes := 48, zero := .agg #[.int .i64 0, .int .i64 0, .int .i64 0, .slice none 0 0] },
  some { k := .fn, size := 1, bytes := 8, zero := .nilFunc },
  some { k := .ptr 105, size := 1, bytes := 8, zero := .pointer none },
  some { k := .fn, size := 1, bytes := 8, zero := .nilFunc },
  some { k := .int .u32, size := 1, bytes := 4, zero := .int .u32 0 },
  some { k := .arr 64 30, size := 64, bytes := 256, zero := .agg #[.int .u32 0, .int .u32 0, .int .u32 0, .int .u32 0, .int .u32 0, .int .u32 0, .int .u32 0, .int .u32 0, .int .u32 0, .int .u32 0, .int .u32 0, .int .u32 0, .int .u32 0, .int .u32 0, .int .u32 0, .int .u32 0, .int .u32 0, .int .u32 0, .int .u32 0, .int .u32 0, .int .u32 0, .int .u32 0, .int .u32 0, .int .u32 0, .int .u32 0, .int .u32 0, .int .u32 0, .int .u32 0, .int .u32 0, .int .u32 0, .int .u32 0, .int .u32 0, .int .u32 0, .int .u32 0, .int .u32 0, .int .u32 0, .int .u32 0, .int .u32 0, .int .u32 0, .int .u32 0, .int .u32 0, .int .u32 0, .int .u32 0, .int .u32 0, .int .u32 0, .int .u32 0, .int .u32 0, .int .u32 0, .int .u32 0, .int .u32 0, .int .u32 0, .int .u32 0, .int .u32 0, .int .u32 0, .int .u32 0, .int .u32 0, .int .u32 0, .int .u32 0, .int .u32 0, .int .u32 0, .int .u32 0, .int .u32 0, .int .u32 0, .int .u32 0] },
  some { k := .arr 8 30, size := 8, bytes := 32, zero := .agg #[.int .u32 0, .int .u32 0, .int .u32 0, .int .u32 0, .int .u32 0, .int .u32 0, .int .u32 0, .int .u32 0] },
  some { k := .strct [(31, 0, 64), (32, 64, 8)], size := 72, bytes := 288, zero := .agg #[.int .u32 0, .int .u32 0, .int .u32 0, .int .u32 0, .int .u32 0, .int .u32 0, .int .u32 0, .int .u32 0, .int .u32 0, .int .u32 0, .int .u32 0, .int .u32 0, .int .u32 0, .int .u32 0, .int .u32 0, .int .u32 0, .int .u32 0, .int .u32 0, .int .u32 0, .int .u32 0, .int .u32 0, .int .u32 0, .int .u32 0, .int .u32 0, .int .u32 0, .int .u32 0, .int .u32 0, .int .u32 0, .int .u32 0, .int .u32 0, .int .u32 0, .int .u32 0, .int .u32 0, .int .u32 0, .int .u32 0, .int .u32 0, .int .u32 0, .int .u32 0, .int .u32 0, .int .u32 0, .int .u32 0, .int .u32 0, .int .u32 0, .int .u32 0, .int .u32 0, .int .u32 0, .int .u32 0, .int .u32 0, .int .u32 0, .int .u32 0, .int .u32 0, .int .u32 0, .int .u32 0, .int .u32 0, .int .u32 0, .int .u32 0, .int .u32 0, .int .u32 0, .int .u32 0, .int .u32 0, .int .u32 0, .int .u32 0, .int .u32 0, .int .u32 0, .int .u32 0, .int .u32 0, .int .u32 0, .int .u32 0, .int .u32 0, .int .u32 0, .int .u32 0, .int .u32 0] },
  some { k := .strct [(31, 0, 64), (32, 64, 8)], size := 72, bytes := 288, zero := .agg #[.int .u32 0, .int .u32 0, .int .u32 0, .int .u32 0, .int .u32 0, .int .u32 0, .int .u32 0, .int .u32 0, .int .u32 0, .int .u32 0, .int .u32 0, .int .u32 0, .int .u32 0, .int .u32 0, .int .u32 0, .int .u32 0, .int .u32 0, .int .u32 0, .int .u32 0, .int .u32 0, .int .u32 0, .int .u32 0, .int .u32 0, .int .u32 0, .int .u32 0, .int .u32 0, .int .u32 0, .int .u32 0, .int .u32 0, .int .u32 0, .int .u32 0, .int .u32 0, .int .u32 0, .int .u32 0, .int .u32 0, .int .u32 0, .int .u32 0, .int .u32 0, .int .u32 0, .int .u32 0, .int .u32 0, .int .u32 0, .int .u32 0, .int .u32 0, .int .u32 0, .int .u32 0, .int .u32 0, .int .u32 0, .int .u32 0, .int .u32 0, .int .u32 0, .int .u32 0, .int .u32 0, .int .u32 0, .int .u32 0, .int .u32 0, .int .u32 0, .int .u32 0, .int .u32 0, .int .u32 0, .int .u32 0, .int .u32 0, .int .u32 0, .int .u32 0, .int .u32 0, .int .u32 0, .int .u32 0, .int .u32 0, .int .u32 0, .int .u32 0, .int .u32 0, .int .u32 0] },
  some { k := .fn, size := 1, bytes := 8, zero := .nilFunc },
  some { k := .strct [(3, 0, 1), (3, 1, 1), (3, 2, 1), (22, 3, 1)], size := 4, bytes := 48, zero := .agg #[.int .i64 0, .int .i64 0, .int .i64 0, .slice none 0 0] },
  some { k := .fn, size := 1, bytes := 8, zero := .nilFunc },
  some { k := .strct [(3, 0, 1), (3, 1, 1), (3, 2, 1), (22, 3, 1)], size := 4, bytes := 48, zero := .agg #[.int .i64 0, .int .i64 0, .int .i64 0, .slice none 0 0] },
  some { k := .int .i64, size := 1, bytes := 8, zero := .int .i64 0 },
  none,
  some { k := .fn, size := 1, bytes := 8, zero := .nilFunc },
  none,
  some { k := .fn, size := 1, bytes := 8, zero := .nilFunc },
  some { k := .slice 24, size := 1, bytes := 24, zero := .slice none 0 0 },
  some { k := .fn, size := 1, bytes := 8, zero := .nilFunc },
  some { k := .slice 36, size := 1, bytes := 24, zero := .slice none 0 0 },
  none,
  some { k := .fn, size := 1, bytes := 8, zero := .nilFunc },
  some { k := .fn, size := 1, bytes := 8, zero := .nilFunc },
  some { k := .slice 26, size := 1, bytes := 24, zero := .slice none 0 0 },
  some { k := .fn, size := 1, bytes := 8, zero := .nilFunc },
  some { k := .slice 38, size := 1, bytes := 24, zero := .slice none 0 0 },
  some { k := .fn, size := 1, bytes := 8, zero := .nilFunc },
  some { k := .fn, size := 1, bytes := 8, zero := .nilFunc },
  none,
  some { k := .fn, size := 1, bytes := 8, zero := .nilFunc },
  some { k := .fn, size := 1, bytes := 8, zero := .nilFunc },
  some { k := .fn, size := 1, bytes := 8, zero := .nilFunc },
  some { k := .strct [(3, 0, 1), (3, 1, 1)], size := 2, bytes := 16, zero := .agg #[.int .i64 0, .int .i64 0] },
  some { k := .strct [(3, 0, 1), (3, 1, 1)], size := 2, bytes := 16, zero := .agg #[.int .i64 0, .int .i64 0] },
  some { k := .strct [(3, 0, 1), (3, 1, 1), (3, 2, 1), (3, 3, 1)], size := 4, bytes := 32, zero := .agg #[.int .i64 0, .int .i64 0, .int .i64 0, .int .i64 0] },
  some { k := .strct [(3, 0, 1), (3, 1, 1), (3, 2, 1), (3, 3, 1)], size := 4, bytes := 32, zero := .agg #[.int .i64 0, .int .i64 0, .int .i64 0, .int .i64 0] },
  none,
  some { k := .fn, size := 1, bytes := 8, zero := .nilFunc },
  some { k := .strct [(3, 0, 1), (3, 1, 1)], size := 2, bytes := 16, zero := .agg #[.int .i64 0, .int .i64 0] },
  some { k := .fn, size := 1, bytes := 8, zero := .nilFunc },
  some { k := .strct [(3, 0, 1), (3, 1, 1), (3, 2, 1), (3, 3, 1)], size := 4, bytes := 32, zero := .agg #[.int .i64 0, .int .i64 0, .int .i64 0, .int .i64 0] },
  some { k := .fn, size := 1, bytes := 8, zero := .nilFunc },
  none,
  some { k := .fn, size := 1, bytes := 8, zero := .nilFunc },
  none,
  some { k := .fn, size := 1, bytes := 8, zero := .nilFunc },
  some { k := .fn, size := 1, bytes := 8, zero := .nilFunc },
  some { k := .fn, size := 1, bytes := 8, zero := .nilFunc },
  some { k := .fn, size := 1, bytes := 8, zero := .nilFunc },
  some { k := .fn, size := 1, bytes := 8, zero := .nilFunc },
  some { k := .fn, size := 1, bytes := 8, zero := .nilFunc },
  some { k := .fn, size := 1, bytes := 8, zero := .nilFunc },
  some { k := .fn, size := 1, bytes := 8, zero := .nilFunc },
  some { k := .slice 86, size := 1, bytes := 24, zero := .slice none 0 0 },
  some { k := .ptr 139, size := 1, bytes := 8, zero := .pointer none },
  some { k := .fn, size := 1, bytes := 8, zero := .nilFunc },
  some { k := .int .u64, size := 1, bytes := 8, zero := .int .u64 0 },
  some { k := .slice 91, size := 1, bytes := 24, zero := .slice none 0 0 },
  some { k := .strct [(3, 0, 1), (4, 1, 1), (24, 2, 4), (26, 6, 4)], size := 10, bytes := 112, zero := .agg #[.int .i64 0, .bool false, .int .i64 0, .int .i64 0, .int .i64 0, .slice none 0 0, .int .i64 0, .int .i64 0, .int .i64 0, .slice none 0 0] },
  some { k := .strct [(3, 0, 1), (4, 1, 1), (24, 2, 4), (26, 6, 4)], size := 10, bytes := 112, zero := .agg #[.int .i64 0, .bool false, .int .i64 0, .int .i64 0, .int .i64 0, .slice none 0 0, .int .i64 0, .int .i64 0, .int .i64 0, .slice none 0 0] },
  some { k := .fn, size := 1, bytes := 8, zero := .nilFunc },
  none,
  some { k := .fn, size := 1, bytes := 8, zero := .nilFunc },
  some { k := .strct [(26, 0, 4), (22, 4, 1), (4, 5, 1)], size := 6, bytes := 80, zero := .agg #[.int .i64 0, .int .i64 0, .int .i64 0, .slice none 0 0, .slice none 0 0, .bool false] },
  some { k := .strct [(26, 0, 4), (22, 4, 1), (4, 5, 1)], size := 6, bytes := 80, zero := .agg #[.int .i64 0, .int .i64 0, .int .i64 0, .slice none 0 0, .slice none 0 0, .bool false] },
  some { k := .fn, size := 1, bytes := 8, zero := .nilFunc },
  some { k := .fn, size := 1, bytes := 8, zero := .nilFunc },
  some { k := .fn, size := 1, bytes := 8, zero := .nilFunc },
  some { k := .fn, size := 1, bytes := 8, zero := .nilFunc },
  some { k := .fn, size := 1, bytes := 8, zero := .nilFunc },
  some { k := .fn, size := 1, bytes := 8, zero := .nilFunc },
  some { k := .fn, size := 1, bytes := 8, zero := .nilFunc },
  some { k := .fn, size := 1, bytes := 8, zero := .nilFunc },
  some { k := .fn, size := 1, bytes := 8, zero := .nilFunc },
  some { k := .fn, size := 1, bytes := 8, zero := .nilFunc },
  some { k := .fn, size := 1, bytes := 8, zero := .nilFunc },
  some { k := .slice 5, size := 1, bytes := 24, zero := .slice none 0 0 },
  some { k := .strct [(103, 0, 1)], size := 1, bytes := 24, zero := .agg #[.slice none 0 0] },
  some { k := .strct [(103, 0, 1)], size := 1, bytes := 24, zero := .agg #[.slice none 0 0] },
  some { k := .fn, size := 1, bytes := 8, zero := .nilFunc },
  none,
  some { k := .fn, size := 1, bytes := 8, zero := .nilFunc },
  some { k := .fn, size := 1, bytes := 8, zero := .nilFunc },
  some { k := .fn, size := 1, bytes := 8, zero := .nilFunc },
  some { k := .fn, size := 1, bytes := 8, zero := .nilFunc },
  some { k := .fn, size := 1, bytes := 8, zero := .nilFunc },
  none,
  some { k := .fn, size := 1, bytes := 8, zero := .nilFunc },
  some { k := .fn, size := 1, bytes := 8, zero := .nilFunc },
  some { k := .fn, size := 1, bytes := 8, zero := .nilFunc },
  some { k := .fn, size := 1, bytes := 8, zero := .nilFunc },
  none,
  some { k := .fn, size := 1, bytes := 8, zero := .nilFunc },
  none,
  some { k := .fn, size := 1, bytes := 8, zero := .nilFunc },
  some { k := .fn, size := 1, bytes := 8, zero := .nilFunc },
  some { k := .arr 32 5, size := 32, bytes := 32, zero := .agg #[.int .u8 0, .int .u8 0, .int .u8 0, .int .u8 0, .int .u8 0, .int .u8 0, .int .u8 0, .int .u8 0, .int .u8 0, .int .u8 0, .int .u8 0, .int .u8 0, .int .u8 0, .int .u8 0, .int .u8 0, .int .u8 0, .int .u8 0, .int .u8 0, .int .u8 0, .int .u8 0, .int .u8 0, .int .u8 0, .int .u8 0, .int .u8 0, .int .u8 0, .int .u8 0, .int .u8 0, .int .u8 0, .int .u8 0, .int .u8 0, .int .u8 0, .int .u8 0] },
  some { k := .strct [(67, 0, 4), (123, 4, 32)], size := 36, bytes := 64, zero := .agg #[.int .i64 0, .int .i64 0, .int .i64 0, .int .i64 0, .int .u8 0, .int .u8 0, .int .u8 0, .int .u8 0, .int .u8 0, .int .u8 0, .int .u8 0, .int .u8 0, .int .u8 0, .int .u8 0, .int .u8 0, .int .u8 0, .int .u8 0, .int .u8 0, .int .u8 0, .int .u8 0, .int .u8 0, .int .u8 0, .int .u8 0, .int .u8 0, .int .u8 0, .int .u8 0, .int .u8 0, .int .u8 0, .int .u8 0, .int .u8 0, .int .u8 0, .int .u8 0, .int .u8 0, .int .u8 0, .int .u8 0, .int .u8 0] },
  some { k := .strct [(67, 0, 4), (123, 4, 32)], size := 36, bytes := 64, zero := .agg #[.int .i64 0, .int .i64 0, .int .i64 0, .int .i64 0, .int .u8 0, .int .u8 0, .int .u8 0, .int .u8 0, .int .u8 0, .int .u8 0, .int .u8 0, .int .u8 0, .int .u8 0, .int .u8 0, .int .u8 0, .int .u8 0, .int .u8 0, .int .u8 0, .int .u8 0, .int .u8 0, .int .u8 0, .int .u8 0, .int .u8 0, .int .u8 0, .int .u8 0, .int .u8 0, .int .u8 0, .int .u8 0, .int .u8 0, .int .u8 0, .int .u8 0, .int .u8 0, .int .u8 0, .int .u8 0, .int .u8 0, .int .u8 0] },
  none,
  some { k := .fn, size := 1, bytes := 8, zero := .nilFunc },
  some { k := .ptr 189, size := 1, bytes := 8, zero := .pointer none },
  none,
  some { k := .fn, size := 1, bytes := 8, zero := .nilFunc },
  some { k := .fn, size := 1, bytes := 8, zero := .nilFunc },
  some { k := .strct [(3, 0, 1), (67, 1, 4), (3, 5, 1), (65, 6, 2), (22, 8, 1), (123, 9, 32)], size := 41, bytes := 120, zero := .agg #[.int .i64 0, .int .i64 0, .int .i64 0, .int .i64 0, .int .i64 0, .int .i64 0, .int .i64 0, .int .i64 0, .slice none 0 0, .int .u8 0, .int .u8 0, .int .u8 0, .int .u8 0, .int .u8 0, .int .u8 0, .int .u8 0, .int .u8 0, .int .u8 0, .int .u8 0, .int .u8 0, .int .u8 0, .int .u8 0, .int .u8 0, .int .u8 0, .int .u8 0, .int .u8 0, .int .u8 0, .int .u8 0, .int .u8 0, .int .u8 0, .int .u8 0, .int .u8 0, .int .u8 0, .int .u8 0, .int .u8 0, .int .u8 0, .int .u8 0, .int .u8 0, .int .u8 0, .int .u8 0, .int .u8 0] },
  some { k := .strct [(3, 0, 1), (67, 1, 4), (3, 5, 1), (65, 6, 2), (22, 8, 1), (123, 9, 32)], size := 41, bytes := 120, zero := .agg #[.int .i64 0, .int .i64 0, .int .i64 0, .int .i64 0, .int .i64 0, .int .i64 0, .int .i64 0, .int .i64 0, .slice none 0 0, .int .u8 0, .int .u8 0, .int .u8 0, .int .u8 0, .int .u8 0, .int .u8 0, .int .u8 0, .int .u8 0, .int .u8 0, .int .u8 0, .int .u8 0, .int .u8 0, .int .u8 0, .int .u8 0, .int .u8 0, .int .u8 0, .int .u8 0, .int .u8 0, .int .u8 0, .int .u8 0, .int .u8 0, .int .u8 0, .int .u8 0, .int .u8 0, .int .u8 0, .int .u8 0, .int .u8 0, .int .u8 0, .int .u8 0, .int .u8 0, .int .u8 0, .int .u8 0] },
  none,
  some { k := .fn, size := 1, bytes := 8, zero := .nilFunc },
  some { k := .fn, size := 1, bytes := 8, zero := .nilFunc },
  some { k := .map 145 142, size := 1, bytes := 8, zero := .map none },
  some { k := .strct [(137, 0, 1)], size := 1, bytes := 8, zero := .agg #[.map none] },
  some { k := .strct [(137, 0, 1)], size := 1, bytes := 8, zero := .agg #[.map none] },
  some { k := .fn, size := 1, bytes := 8, zero := .nilFunc },
  some { k := .strct [(38, 0, 4), (22, 4, 1), (4, 5, 1)], size := 6, bytes := 80, zero := .agg #[.int .i64 0, .int .i64 0, .int .i64 0, .slice none 0 0, .slice none 0 0, .bool false] },
  some { k := .strct [(38, 0, 4), (22, 4, 1), (4, 5, 1)], size := 6, bytes := 80, zero := .agg #[.int .i64 0, .int .i64 0, .int .i64 0, .slice none 0 0, .slice none 0 0, .bool false] },
  some { k := .fn, size := 1, bytes := 8, zero := .nilFunc },
  some { k := .slice 3, size := 1, bytes := 24, zero := .slice none 0 0 },
  some { k := .arr 2 3, size := 2, bytes := 16, zero := .agg #[.int .i64 0, .int .i64 0] },
  some { k := .slice 142, size := 1, bytes := 24, zero := .slice none 0 0 },
  some { k := .fn, size := 1, bytes := 8, zero := .nilFunc },
  some { k := .fn, size := 1, bytes := 8, zero := .nilFunc },
  some { k := .fn, size := 1, bytes := 8, zero := .nilFunc },
  some { k := .strct [(22, 0, 1), (39, 1, 1)], size := 2, bytes := 32, zero := .agg #[.slice none 0 0, .int .i64 0] },
  some { k := .strct [(22, 0, 1), (39, 1, 1)], size := 2, bytes := 32, zero := .agg #[.slice none 0 0, .int .i64 0] },
  some { k := .ptr 151, size := 1, bytes := 8, zero := .pointer none },
  some { k := .fn, size := 1, bytes := 8, zero := .nilFunc },
  some { k := .fn, size := 1, bytes := 8, zero := .nilFunc },
  some { k := .fn, size := 1, bytes := 8, zero := .nilFunc },
  some { k := .fn, size := 1, bytes := 8, zero := .nilFunc },
  some { k := .fn, size := 1, bytes := 8, zero := .nilFunc },
  some { k := .fn, size := 1, bytes := 8, zero := .nilFunc },
  some { k := .strct [(3, 0, 1), (3, 1, 1), (22, 2, 1)], size := 3, bytes := 40, zero := .agg #[.int .i64 0, .int .i64 0, .slice none 0 0] },
  some { k := .strct [(3, 0, 1), (3, 1, 1), (22, 2, 1)], size := 3, bytes := 40, zero := .agg #[.int .i64 0, .int .i64 0, .slice none 0 0] },
  some { k := .fn, size := 1, bytes := 8, zero := .nilFunc },
  some { k := .fn, size := 1, bytes := 8, zero := .nilFunc },
  some { k := .fn, size := 1, bytes := 8, zero := .nilFunc },
  some { k := .fn, size := 1, bytes := 8, zero := .nilFunc },
  some { k := .fn, size := 1, bytes := 8, zero := .nilFunc },
  some { k := .slice 22, size := 1, bytes := 24, zero := .slice none 0 0 },
  some { k := .ptr 220, size := 1, bytes := 8, zero := .pointer none },
  some { k := .fn, size := 1, bytes := 8, zero := .nilFunc },
  some { k := .fn, size := 1, bytes := 8, zero := .nilFunc },
  some { k := .arr 4 3, size := 4, bytes := 32, zero := .agg #[.int .i64 0, .int .i64 0, .int .i64 0, .int .i64 0] },
  none,
  some { k := .fn, size := 1, bytes := 8, zero := .nilFunc },
  some { k := .fn, size := 1, bytes := 8, zero := .nilFunc },
  some { k := .ptr 227, size := 1, bytes := 8, zero := .pointer none },
  none,
  some { k := .fn, size := 1, bytes := 8, zero := .nilFunc },
  some { k := .ptr 229, size := 1, bytes := 8, zero := .pointer none },
  none,
  some { k := .fn, size := 1, bytes := 8, zero := .nilFunc },
  some { k := .ptr 232, size := 1, bytes := 8, zero := .pointer none },
  none,
  some { k := .fn, size := 1, bytes := 8, zero := .nilFunc },
  some { k := .ptr 235, size := 1, bytes := 8, zero := .pointer none },
  some { k := .fn, size := 1, bytes := 8, zero := .nilFunc },
  some { k := .strct [(65, 0, 2), (83, 2, 1)], size := 3, bytes := 24, zero := .agg #[.int .i64 0, .int .i64 0, .int .u64 0] },
  some { k := .strct [(65, 0, 2), (83, 2, 1)], size := 3, bytes := 24, zero := .agg #[.int .i64 0, .int .i64 0, .int .u64 0] },
  some { k := .arr 4 186, size := 12, bytes := 96, zero := .agg #[.int .i64 0, .int .i64 0, .int .u64 0, .int .i64 0, .int .i64 0, .int .u64 0, .int .i64 0, .int .i64 0, .int .u64 0, .int .i64 0, .int .i64 0, .int .u64 0] },
  some { k := .strct [(177, 0, 1), (174, 1, 1), (183, 2, 1), (180, 3, 1), (187, 4, 12)], size := 16, bytes := 128, zero := .agg #[.pointer none, .pointer none, .pointer none, .pointer none, .int .i64 0, .int .i64 0, .int .u64 0, .int .i64 0, .int .i64 0, .int .u64 0, .int .i64 0, .int .i64 0, .int .u64 0, .int .i64 0, .int .i64 0, .int .u64 0] },
  some { k := .strct [(177, 0, 1), (174, 1, 1), (183, 2, 1), (180, 3, 1), (187, 4, 12)], size := 16, bytes := 128, zero := .agg #[.pointer none, .pointer none, .pointer none, .pointer none, .int .i64 0, .int .i64 0, .int .u64 0, .int .i64 0, .int .i64 0, .int .u64 0, .int .i64 0, .int .i64 0, .int .u64 0, .int .i64 0, .int .i64 0, .int .u64 0] },
  none,
  some { k := .fn, size := 1, bytes := 8, zero := .nilFunc },
  none,
  some { k := .fn, size := 1, bytes := 8, zero := .nilFunc },
  some { k := .fn, size := 1, bytes := 8, zero := .nilFunc },
  some { k := .fn, size := 1, bytes := 8, zero := .nilFunc },
  some { k := .fn, size := 1, bytes := 8, zero := .nilFunc },
  some { k := .fn, size := 1, bytes := 8, zero := .nilFunc },
  some { k := .strct [(167, 0, 1)], size := 1, bytes := 8, zero := .agg #[.pointer none] },
  some { k := .strct [(167, 0, 1)], size := 1, bytes := 8, zero := .agg #[.pointer none] },
  some { k := .fn, size := 1, bytes := 8, zero := .nilFunc },
  some { k := .fn, size := 1, bytes := 8, zero := .nilFunc },
  some { k := .fn, size := 1, bytes := 8, zero := .nilFunc },
  some { k := .fn, size := 1, bytes := 8, zero := .nilFunc },
  some { k := .fn, size := 1, bytes := 8, zero := .nilFunc },
  some { k := .arr 12 83, size := 12, bytes := 96, zero := .agg #[.int .u64 0, .int .u64 0, .int .u64 0, .int .u64 0, .int .u64 0, .int .u64 0, .int .u64 0, .int .u64 0, .int .u64 0, .int .u64 0, .int .u64 0, .int .u64 0] },
  some { k := .fn, size := 1, bytes := 8, zero := .nilFunc },
  some { k := .fn, size := 1, bytes := 8, zero := .nilFunc },
  some { k := .fn, size := 1, bytes := 8, zero := .nilFunc },
  some { k := .strct [(3, 0, 1), (3, 1, 1), (22, 2, 1)], size := 3, bytes := 40, zero := .agg #[.int .i64 0, .int .i64 0, .slice none 0 0] },
  some { k := .fn, size := 1, bytes := 8, zero := .nilFunc },
  some { k := .fn, size := 1, bytes := 8, zero := .nilFunc },
  some { k := .fn, size := 1, bytes := 8, zero := .nilFunc },
  some { k := .fn, size := 1, bytes := 8, zero := .nilFunc },
  some { k := .strct [(3, 0, 1), (3, 1, 1), (3, 2, 1)], size := 3, bytes := 24, zero := .agg #[.int .i64 0, .int .i64 0, .int .i64 0] },
  some { k := .strct [(3, 0, 1), (3, 1, 1), (3, 2, 1)], size := 3, bytes := 24, zero := .agg #[.int .i64 0, .int .i64 0, .int .i64 0] },
  some { k := .arr 4 215, size := 12, bytes := 96, zero := .agg #[.int .i64 0, .int .i64 0, .int .i64 0, .int .i64 0, .int .i64 0, .int .i64 0, .int .i64 0, .int .i64 0, .int .i64 0, .int .i64 0, .int .i64 0, .int .i64 0] },
  some { k := .fn, size := 1, bytes := 8, zero := .nilFunc },
  some { k := .strct [(22, 0, 1), (39, 1, 1)], size := 2, bytes := 32, zero := .agg #[.slice none 0 0, .int .i64 0] },
  some { k := .strct [(218, 0, 2)], size := 2, bytes := 32, zero := .agg #[.slice none 0 0, .int .i64 0] },
  some { k := .strct [(218, 0, 2)], size := 2, bytes := 32, zero := .agg #[.slice none 0 0, .int .i64 0] },
  some { k := .fn, size := 1, bytes := 8, zero := .nilFunc },
  some { k := .fn, size := 1, bytes := 8, zero := .nilFunc },
  some { k := .fn, size := 1, bytes := 8, zero := .nilFunc },
  some { k := .map 67 28, size := 1, bytes := 8, zero := .map none },
  some { k := .map 3 28, size := 1, bytes := 8, zero := .map none },
  some { k := .strct [(125, 0, 36), (224, 36, 1), (225, 37, 1)], size := 38, bytes := 80, zero := .agg #[.int .i64 0, .int .i64 0, .int .i64 0, .int .i64 0, .int .u8 0, .int .u8 0, .int .u8 0, .int .u8 0, .int .u8 0, .int .u8 0, .int .u8 0, .int .u8 0, .int .u8 0, .int .u8 0, .int .u8 0, .int .u8 0, .int .u8 0, .int .u8 0, .int .u8 0, .int .u8 0, .int .u8 0, .int .u8 0, .int .u8 0, .int .u8 0, .int .u8 0, .int .u8 0, .int .u8 0, .int .u8 0, .int .u8 0, .int .u8 0, .int .u8 0, .int .u8 0, .int .u8 0, .int .u8 0, .int .u8 0, .int .u8 0, .map none, .map none] },
  some { k := .strct [(125, 0, 36), (224, 36, 1), (225, 37, 1)], size := 38, bytes := 80, zero := .agg #[.int .i64 0, .int .i64 0, .int .i64 0, .int .i64 0, .int .u8 0, .int .u8 0, .int .u8 0, .int .u8 0, .int .u8 0, .int .u8 0, .int .u8 0, .int .u8 0, .int .u8 0, .int .u8 0, .int .u8 0, .int .u8 0, .int .u8 0, .int .u8 0, .int .u8 0, .int .u8 0, .int .u8 0, .int .u8 0, .int .u8 0, .int .u8 0, .int .u8 0, .int .u8 0, .int .u8 0, .int .u8 0, .int .u8 0, .int .u8 0, .int .u8 0, .int .u8 0, .int .u8 0, .int .u8 0, .int .u8 0, .int .u8 0, .map none, .map none] },
  some { k := .strct [(65, 0, 2)], size := 2, bytes := 16, zero := .agg #[.int .i64 0, .int .i64 0] },
  some { k := .strct [(65, 0, 2)], size := 2, bytes := 16, zero := .agg #[.int .i64 0, .int .i64 0] },
  some { k := .arr 16 3, size := 16, bytes := 128, zero := .agg #[.int .i64 0, .int .i64 0, .int .i64 0, .int .i64 0, .int .i64 0, .int .i64 0, .int .i64 0, .int .i64 0, .int .i64 0, .int .i64 0, .int .i64 0, .int .i64 0, .int .i64 0, .int .i64 0, .int .i64 0, .int .i64 0] },
  some { k := .strct [(3, 0, 1), (230, 1, 16)], size := 17, bytes := 136, zero := .agg #[.int .i64 0, .int .i64 0, .int .i64 0, .int .i64 0, .int .i64 0, .int .i64 0, .int .i64 0, .int .i64 0, .int .i64 0, .int .i64 0, .int .i64 0, .int .i64 0, .int .i64 0, .int .i64 0, .int .i64 0, .int .i64 0, .int .i64 0] },
  some { k := .strct [(3, 0, 1), (230, 1, 16)], size := 17, bytes := 136, zero := .agg #[.int .i64 0, .int .i64 0, .int .i64 0, .int .i64 0, .int .i64 0, .int .i64 0, .int .i64 0, .int .i64 0, .int .i64 0, .int .i64 0, .int .i64 0, .int .i64 0, .int .i64 0, .int .i64 0, .int .i64 0, .int .i64 0, .int .i64 0] },
  some { k := .map 67 306, size := 1, bytes := 8, zero := .map none },
  some { k := .strct [(233, 0, 1)], size := 1, bytes := 8, zero := .agg #[.map none] },
  some { k := .strct [(233, 0, 1)], size := 1, bytes := 8, zero := .agg #[.map none] },
  some { k := .fn, size := 1, bytes := 8, zero := .nilFunc },
  some { k := .fn, size := 1, bytes := 8, zero := .nilFunc },
  some { k := .fn, size := 1, bytes := 8, zero := .nilFunc },
  some { k := .fn, size := 1, bytes := 8, zero := .nilFunc },
  some { k := .fn, size := 1, bytes := 8, zero := .nilFunc },
  some { k := .int .u64, size := 1, bytes := 8, zero := .int .u64 0 },
  some { k := .slice 209, size := 1, bytes := 24, zero := .slice none 0 0 },
  some { k := .fn, size := 1, bytes := 8, zero := .nilFunc },
  some { k := .fn, size := 1, bytes := 8, zero := .nilFunc },
  some { k := .fn, size := 1, bytes := 8, zero := .nilFunc },
  some { k := .fn, size := 1, bytes := 8, zero := .nilFunc },
  some { k := .ptr 218, size := 1, bytes := 8, zero := .pointer none },
  some { k := .strct [(32, 0, 8)], size := 8, bytes := 32, zero := .agg #[.int .u32 0, .int .u32 0, .int .u32 0, .int .u32 0, .int .u32 0, .int .u32 0, .int .u32 0, .int .u32 0] },
  some { k := .strct [(32, 0, 8)], size := 8, bytes := 32, zero := .agg #[.int .u32 0, .int .u32 0, .int .u32 0, .int .u32 0, .int .u32 0, .int .u32 0, .int .u32 0, .int .u32 0] },
  some { k := .strct [(249, 0, 8), (4, 8, 1), (22, 9, 1), (3, 10, 1)], size := 11, bytes := 72, zero := .agg #[.int .u32 0, .int .u32 0, .int .u32 0, .int .u32 0, .int .u32 0, .int .u32 0, .int .u32 0, .int .u32 0, .bool false, .slice none 0 0, .int .i64 0] },
  some { k := .strct [(249, 0, 8), (4, 8, 1), (22, 9, 1), (3, 10, 1)], size := 11, bytes := 72, zero := .agg #[.int .u32 0, .int .u32 0, .int .u32 0, .int .u32 0, .int .u32 0, .int .u32 0, .int .u32 0, .int .u32 0, .bool false, .slice none 0 0, .int .i64 0] },
  some { k := .ptr 251, size := 1, bytes := 8, zero := .pointer none },
  some { k := .fn, size := 1, bytes := 8, zero := .nilFunc },
  some { k := .fn, size := 1, bytes := 8, zero := .nilFunc },
  some { k := .fn, size := 1, bytes := 8, zero := .nilFunc },
  some { k := .fn, size := 1, bytes := 8, zero := .nilFunc },
  some { k := .fn, size := 1, bytes := 8, zero := .nilFunc },
  some { k := .fn, size := 1, bytes := 8, zero := .nilFunc },
  some { k := .fn, size := 1, bytes := 8, zero := .nilFunc },
  some { k := .fn, size := 1, bytes := 8, zero := .nilFunc },
  none,
  some { k := .fn, size := 1, bytes := 8, zero := .nilFunc },
  some { k := .fn, size := 1, bytes := 8, zero := .nilFunc },
  some { k := .int .i64, size := 1, bytes := 8, zero := .int .i64 0 },
  none,
  some { k := .fn, size := 1, bytes := 8, zero := .nilFunc },
  some { k := .fn, size := 1, bytes := 8, zero := .nilFunc },
  some { k := .fn, size := 1, bytes := 8, zero := .nilFunc },
  some { k := .fn, size := 1, bytes := 8, zero := .nilFunc },
  some { k := .fn, size := 1, bytes := 8, zero := .nilFunc },
  some { k := .fn, size := 1, bytes := 8, zero := .nilFunc },
  some { k := .fn, size := 1, bytes := 8, zero := .nilFunc },
  some { k := .fn, size := 1, bytes := 8, zero := .nilFunc },
  some { k := .fn, size := 1, bytes := 8, zero := .nilFunc },
  some { k := .fn, size := 1, bytes := 8, zero := .nilFunc },
  some { k := .fn, size := 1, bytes := 8, zero := .nilFunc },
  some { k := .int .u64, size := 1, bytes := 8, zero := .int .u64 0 },
  some { k := .fn, size := 1, bytes := 8, zero := .nilFunc },
  some { k := .fn, size := 1, bytes := 8, zero := .nilFunc },
  some { k := .fn, size := 1, bytes := 8, zero := .nilFunc },
  some { k := .ptr 3, size := 1, bytes := 8, zero := .pointer none },
  some { k := .fn, size := 1, bytes := 8, zero := .nilFunc },
  some { k := .ptr 249, size := 1, bytes := 8, zero := .pointer none },
  some { k := .ptr 277, size := 1, bytes := 8, zero := .pointer none },
  none,
  some { k := .fn, size := 1, bytes := 8, zero := .nilFunc },
  some { k := .fn, size := 1, bytes := 8, zero := .nilFunc },
  some { k := .fn, size := 1, bytes := 8, zero := .nilFunc },
  some { k := .fn, size := 1, bytes := 8, zero := .nilFunc },
  some { k := .fn, size := 1, bytes := 8, zero := .nilFunc },
  some { k := .fn, size := 1, bytes := 8, zero := .nilFunc },
  none,
  none,
  none,
  none,
  none,
  some { k := .int .u8, size := 1, bytes := 1, zero := .int .u8 0 },
  some { k := .int .u8, size := 1, bytes := 1, zero := .int .u8 0 },
  some { k := .fn, size := 1, bytes := 8, zero := .nilFunc },
  some { k := .ptr 5, size := 1, bytes := 8, zero := .pointer none },
  some { k := .int .i32, size := 1, bytes := 4, zero := .int .i32 0 },
  some { k := .int .i32, size := 1, bytes := 4, zero := .int .i32 0 },
  none,
  none,
  some { k := .fn, size := 1, bytes := 8, zero := .nilFunc },
  some { k := .ptr 309, size := 1, bytes := 8, zero := .pointer none },
  none,
  some { k := .strct [(186, 0, 3), (28, 3, 1), (3, 4, 1)], size := 5, bytes := 40, zero := .agg #[.int .i64 0, .int .i64 0, .int .u64 0, .pointer none, .int .i64 0] },
  some { k := .strct [(186, 0, 3), (28, 3, 1), (3, 4, 1)], size := 5, bytes := 40, zero := .agg #[.int .i64 0, .int .i64 0, .int .u64 0, .pointer none, .int .i64 0] },
  some { k := .fn, size := 1, bytes := 8, zero := .nilFunc },
  some { k := .ptr 186, size := 1, bytes := 8, zero := .pointer none }]
set_option maxRecDepth 100000 in
theorem rowsGood : TGoods Tryz.prog 0 rowsTab :=
  ⟨⟨⟨_, _, _, Tryz.underlying1⟩, Tryz.sizeOf1, Tryz.zeroValue1, trivial, by kernel_rfl⟩,
   ⟨Tryz.underlying2, Tryz.sizeOf2, Tryz.zeroValue2, trivial, by kernel_rfl⟩,
   ⟨Tryz.underlying3, Tryz.sizeOf3, Tryz.zeroValue3, trivial, by kernel_rfl⟩,
   ⟨Tryz.underlying4, Tryz.sizeOf4, Tryz.zeroValue4, trivial, by kernel_rfl⟩,
   ⟨Tryz.underlying5, Tryz.sizeOf5, Tryz.zeroValue5, trivial, by kernel_rfl⟩,
   ⟨Tryz.underlying6, Tryz.sizeOf6, Tryz.zeroValue6, trivial, by kernel_rfl⟩,
   ⟨Tryz.underlying9, Tryz.sizeOf9, Tryz.zeroValue9, trivial, by kernel_rfl⟩,
   ⟨Tryz.underlying10, Tryz.sizeOf10, Tryz.zeroValue10, trivial, by kernel_rfl⟩,
   ⟨Tryz.underlying11, Tryz.sizeOf11, Tryz.zeroValue11, trivial, by kernel_rfl⟩,
   ⟨Tryz.underlying12, Tryz.sizeOf12, Tryz.zeroValue12, trivial, by kernel_rfl⟩,
   ⟨Tryz.underlying15, Tryz.sizeOf15, Tryz.zeroValue15, trivial, by kernel_rfl⟩,
   ⟨Tryz.underlying16, Tryz.sizeOf16, Tryz.zeroValue16, trivial, by kernel_rfl⟩,
   ⟨Tryz.underlying17, Tryz.sizeOf17, Tryz.zeroValue17, trivial, by kernel_rfl⟩,
   ⟨Tryz.underlying21, Tryz.sizeOf21, Tryz.zeroValue21, trivial, by kernel_rfl⟩,
   ⟨Tryz.underlying22, Tryz.sizeOf22, Tryz.zeroValue22, trivial, by kernel_rfl⟩,
   ⟨⟨_, Tryz.underlying23, rfl, rfl, Tryz.sizeOf3, rfl, rfl, rfl, Tryz.sizeOf3, rfl, rfl, rfl, Tryz.sizeOf3, rfl, rfl, rfl, Tryz.sizeOf22, rfl, trivial⟩, Tryz.sizeOf23, Tryz.zeroValue23, (by show Tryz.prog.stoodInHeld 23 = false; kernel_rfl), by kernel_rfl⟩,
   ⟨⟨_, Tryz.underlying24, rfl, rfl, Tryz.sizeOf3, rfl, rfl, rfl, Tryz.sizeOf3, rfl, rfl, rfl, Tryz.sizeOf3, rfl, rfl, rfl, Tryz.sizeOf22, rfl, trivial⟩, Tryz.sizeOf24, Tryz.zeroValue24, (by show Tryz.prog.stoodInHeld 24 = false; kernel_rfl), by kernel_rfl⟩,
   ⟨⟨_, Tryz.underlying25, rfl, rfl, Tryz.sizeOf3, rfl, rfl, rfl, Tryz.sizeOf3, rfl, rfl, rfl, Tryz.sizeOf3, rfl, rfl, rfl, Tryz.sizeOf22, rfl, trivial⟩, Tryz.sizeOf25, Tryz.zeroValue25, (by show Tryz.prog.stoodInHeld 25 = false; kernel_rfl), by kernel_rfl⟩,
   ⟨⟨_, Tryz.underlying26, rfl, rfl, Tryz.sizeOf3, rfl, rfl, rfl, Tryz.sizeOf3, rfl, rfl, rfl, Tryz.sizeOf3, rfl, rfl, rfl, Tryz.sizeOf22, rfl, trivial⟩, Tryz.sizeOf26, Tryz.zeroValue26, (by show Tryz.prog.stoodInHeld 26 = false; kernel_rfl), by kernel_rfl⟩,
   ⟨⟨_, _, _, Tryz.underlying27⟩, Tryz.sizeOf27, Tryz.zeroValue27, trivial, by kernel_rfl⟩,
   ⟨Tryz.underlying28, Tryz.sizeOf28, Tryz.zeroValue28, trivial, by kernel_rfl⟩,
   ⟨⟨_, _, _, Tryz.underlying29⟩, Tryz.sizeOf29, Tryz.zeroValue29, trivial, by kernel_rfl⟩,
   ⟨Tryz.underlying30, Tryz.sizeOf30, Tryz.zeroValue30, trivial, by kernel_rfl⟩,
   ⟨Tryz.underlying31, Tryz.sizeOf31, Tryz.zeroValue31, trivial, by kernel_rfl⟩,
   ⟨Tryz.underlying32, Tryz.sizeOf32, Tryz.zeroValue32, trivial, by kernel_rfl⟩,
   ⟨⟨_, Tryz.underlying33, rfl, rfl, Tryz.sizeOf31, rfl, rfl, rfl, Tryz.sizeOf32, rfl, trivial⟩, Tryz.sizeOf33, Tryz.zeroValue33, (by show Tryz.prog.stoodInHeld 33 = false; kernel_rfl), by kernel_rfl⟩,
   ⟨⟨_, Tryz.underlying34, rfl, rfl, Tryz.sizeOf31, rfl, rfl, rfl, Tryz.sizeOf32, rfl, trivial⟩, Tryz.sizeOf34, Tryz.zeroValue34, (by show Tryz.prog.stoodInHeld 34 = false; kernel_rfl), by kernel_rfl⟩,
   ⟨⟨_, _, _, Tryz.underlying35⟩, Tryz.sizeOf35, Tryz.zeroValue35, trivial, by kernel_rfl⟩,
   ⟨⟨_, Tryz.underlying36, rfl, rfl, Tryz.sizeOf3, rfl, rfl, rfl, Tryz.sizeOf3, rfl, rfl, rfl, Tryz.sizeOf3, rfl, rfl, rfl, Tryz.sizeOf22, rfl, trivial⟩, Tryz.sizeOf36, Tryz.zeroValue36, (by show Tryz.prog.stoodInHeld 36 = false; kernel_rfl), by kernel_rfl⟩,
   ⟨⟨_, _, _, Tryz.underlying37⟩, Tryz.sizeOf37, Tryz.zeroValue37, trivial, by kernel_rfl⟩,
   ⟨⟨_, Tryz.underlying38, rfl, rfl, Tryz.sizeOf3, rfl, rfl, rfl, Tryz.sizeOf3, rfl, rfl, rfl, Tryz.sizeOf3, rfl, rfl, rfl, Tryz.sizeOf22, rfl, trivial⟩, Tryz.sizeOf38, Tryz.zeroValue38, (by show Tryz.prog.stoodInHeld 38 = false; kernel_rfl), by kernel_rfl⟩,
   ⟨Tryz.underlying39, Tryz.sizeOf39, Tryz.zeroValue39, trivial, by kernel_rfl⟩,
   ⟨⟨_, _, _, Tryz.underlying41⟩, Tryz.sizeOf41, Tryz.zeroValue41, trivial, by kernel_rfl⟩,
   ⟨⟨_, _, _, Tryz.underlying43⟩, Tryz.sizeOf43, Tryz.zeroValue43, trivial, by kernel_rfl⟩,
   ⟨Tryz.underlying44, Tryz.sizeOf44, Tryz.zeroValue44, trivial, by kernel_rfl⟩,
   ⟨⟨_, _, _, Tryz.underlying45⟩, Tryz.sizeOf45, Tryz.zeroValue45, trivial, by kernel_rfl⟩,
   ⟨Tryz.underlying46, Tryz.sizeOf46, Tryz.zeroValue46, trivial, by kernel_rfl⟩,
   ⟨⟨_, _, _, Tryz.underlying48⟩, Tryz.sizeOf48, Tryz.zeroValue48, trivial, by kernel_rfl⟩,
   ⟨⟨_, _, _, Tryz.underlying49⟩, Tryz.sizeOf49, Tryz.zeroValue49, trivial, by kernel_rfl⟩,
   ⟨Tryz.underlying50, Tryz.sizeOf50, Tryz.zeroValue50, trivial, by kernel_rfl⟩,
   ⟨⟨_, _, _, Tryz.underlying51⟩, Tryz.sizeOf51, Tryz.zeroValue51, trivial, by kernel_rfl⟩,
   ⟨Tryz.underlying52, Tryz.sizeOf52, Tryz.zeroValue52, trivial, by kernel_rfl⟩,
   ⟨⟨_, _, _, Tryz.underlying53⟩, Tryz.sizeOf53, Tryz.zeroValue53, trivial, by kernel_rfl⟩,
   ⟨⟨_, _, _, Tryz.underlying54⟩, Tryz.sizeOf54, Tryz.zeroValue54, trivial, by kernel_rfl⟩,
   ⟨⟨_, _, _, Tryz.underlying56⟩, Tryz.sizeOf56, Tryz.zeroValue56, trivial, by kernel_rfl⟩,
   ⟨⟨_, _, _, Tryz.underlying57⟩, Tryz.sizeOf57, Tryz.zeroValue57, trivial, by kernel_rfl⟩,
   ⟨⟨_, _, _, Tryz.underlying58⟩, Tryz.sizeOf58, Tryz.zeroValue58, trivial, by kernel_rfl⟩,
   ⟨⟨_, Tryz.underlying59, rfl, rfl, Tryz.sizeOf3, rfl, rfl, rfl, Tryz.sizeOf3, rfl, trivial⟩, Tryz.sizeOf59, Tryz.zeroValue59, (by show Tryz.prog.stoodInHeld 59 = false; kernel_rfl), by kernel_rfl⟩,
   ⟨⟨_, Tryz.underlying60, rfl, rfl, Tryz.sizeOf3, rfl, rfl, rfl, Tryz.sizeOf3, rfl, trivial⟩, Tryz.sizeOf60, Tryz.zeroValue60, (by show Tryz.prog.stoodInHeld 60 = false; kernel_rfl), by kernel_rfl⟩,
   ⟨⟨_, Tryz.underlying61, rfl, rfl, Tryz.sizeOf3, rfl, rfl, rfl, Tryz.sizeOf3, rfl, rfl, rfl, Tryz.sizeOf3, rfl, rfl, rfl, Tryz.sizeOf3, rfl, trivial⟩, Tryz.sizeOf61, Tryz.zeroValue61, (by show Tryz.prog.stoodInHeld 61 = false; kernel_rfl), by kernel_rfl⟩,
   ⟨⟨_, Tryz.underlying62, rfl, rfl, Tryz.sizeOf3, rfl, rfl, rfl, Tryz.sizeOf3, rfl, rfl, rfl, Tryz.sizeOf3, rfl, rfl, rfl, Tryz.sizeOf3, rfl, trivial⟩, Tryz.sizeOf62, Tryz.zeroValue62, (by show Tryz.prog.stoodInHeld 62 = false; kernel_rfl), by kernel_rfl⟩,
   ⟨⟨_, _, _, Tryz.underlying64⟩, Tryz.sizeOf64, Tryz.zeroValue64, trivial, by kernel_rfl⟩,
   ⟨⟨_, Tryz.underlying65, rfl, rfl, Tryz.sizeOf3, rfl, rfl, rfl, Tryz.sizeOf3, rfl, trivial⟩, Tryz.sizeOf65, Tryz.zeroValue65, (by show Tryz.prog.stoodInHeld 65 = false; kernel_rfl), by kernel_rfl⟩,
   ⟨⟨_, _, _, Tryz.underlying66⟩, Tryz.sizeOf66, Tryz.zeroValue66, trivial, by kernel_rfl⟩,
   ⟨⟨_, Tryz.underlying67, rfl, rfl, Tryz.sizeOf3, rfl, rfl, rfl, Tryz.sizeOf3, rfl, rfl, rfl, Tryz.sizeOf3, rfl, rfl, rfl, Tryz.sizeOf3, rfl, trivial⟩, Tryz.sizeOf67, Tryz.zeroValue67, (by show Tryz.prog.stoodInHeld 67 = false; kernel_rfl), by kernel_rfl⟩,
   ⟨⟨_, _, _, Tryz.underlying68⟩, Tryz.sizeOf68, Tryz.zeroValue68, trivial, by kernel_rfl⟩,
   ⟨⟨_, _, _, Tryz.underlying70⟩, Tryz.sizeOf70, Tryz.zeroValue70, trivial, by kernel_rfl⟩,
   ⟨⟨_, _, _, Tryz.underlying72⟩, Tryz.sizeOf72, Tryz.zeroValue72, trivial, by kernel_rfl⟩,
   ⟨⟨_, _, _, Tryz.underlying73⟩, Tryz.sizeOf73, Tryz.zeroValue73, trivial, by kernel_rfl⟩,
   ⟨⟨_, _, _, Tryz.underlying74⟩, Tryz.sizeOf74, Tryz.zeroValue74, trivial, by kernel_rfl⟩,
   ⟨⟨_, _, _, Tryz.underlying75⟩, Tryz.sizeOf75, Tryz.zeroValue75, trivial, by kernel_rfl⟩,
   ⟨⟨_, _, _, Tryz.underlying76⟩, Tryz.sizeOf76, Tryz.zeroValue76, trivial, by kernel_rfl⟩,
   ⟨⟨_, _, _, Tryz.underlying77⟩, Tryz.sizeOf77, Tryz.zeroValue77, trivial, by kernel_rfl⟩,
   ⟨⟨_, _, _, Tryz.underlying78⟩, Tryz.sizeOf78, Tryz.zeroValue78, trivial, by kernel_rfl⟩,
   ⟨⟨_, _, _, Tryz.underlying79⟩, Tryz.sizeOf79, Tryz.zeroValue79, trivial, by kernel_rfl⟩,
   ⟨Tryz.underlying80, Tryz.sizeOf80, Tryz.zeroValue80, trivial, by kernel_rfl⟩,
   ⟨Tryz.underlying81, Tryz.sizeOf81, Tryz.zeroValue81, trivial, by kernel_rfl⟩,
   ⟨⟨_, _, _, Tryz.underlying82⟩, Tryz.sizeOf82, Tryz.zeroValue82, trivial, by kernel_rfl⟩,
   ⟨Tryz.underlying83, Tryz.sizeOf83, Tryz.zeroValue83, trivial, by kernel_rfl⟩,
   ⟨Tryz.underlying84, Tryz.sizeOf84, Tryz.zeroValue84, trivial, by kernel_rfl⟩,
   ⟨⟨_, Tryz.underlying85, rfl, rfl, Tryz.sizeOf3, rfl, rfl, rfl, Tryz.sizeOf4, rfl, rfl, rfl, Tryz.sizeOf24, rfl, rfl, rfl, Tryz.sizeOf26, rfl, trivial⟩, Tryz.sizeOf85, Tryz.zeroValue85, (by show Tryz.prog.stoodInHeld 85 = false; kernel_rfl), by kernel_rfl⟩,
   ⟨⟨_, Tryz.underlying86, rfl, rfl, Tryz.sizeOf3, rfl, rfl, rfl, Tryz.sizeOf4, rfl, rfl, rfl, Tryz.sizeOf24, rfl, rfl, rfl, Tryz.sizeOf26, rfl, trivial⟩, Tryz.sizeOf86, Tryz.zeroValue86, (by show Tryz.prog.stoodInHeld 86 = false; kernel_rfl), by kernel_rfl⟩,
   ⟨⟨_, _, _, Tryz.underlying87⟩, Tryz.sizeOf87, Tryz.zeroValue87, trivial, by kernel_rfl⟩,
   ⟨⟨_, _, _, Tryz.underlying89⟩, Tryz.sizeOf89, Tryz.zeroValue89, trivial, by kernel_rfl⟩,
   ⟨⟨_, Tryz.underlying90, rfl, rfl, Tryz.sizeOf26, rfl, rfl, rfl, Tryz.sizeOf22, rfl, rfl, rfl, Tryz.sizeOf4, rfl, trivial⟩, Tryz.sizeOf90, Tryz.zeroValue90, (by show Tryz.prog.stoodInHeld 90 = false; kernel_rfl), by kernel_rfl⟩,
   ⟨⟨_, Tryz.underlying91, rfl, rfl, Tryz.sizeOf26, rfl, rfl, rfl, Tryz.sizeOf22, rfl, rfl, rfl, Tryz.sizeOf4, rfl, trivial⟩, Tryz.sizeOf91, Tryz.zeroValue91, (by show Tryz.prog.stoodInHeld 91 = false; kernel_rfl), by kernel_rfl⟩,
   ⟨⟨_, _, _, Tryz.underlying92⟩, Tryz.sizeOf92, Tryz.zeroValue92, trivial, by kernel_rfl⟩,
   ⟨⟨_, _, _, Tryz.underlying93⟩, Tryz.sizeOf93, Tryz.zeroValue93, trivial, by kernel_rfl⟩,
   ⟨⟨_, _, _, Tryz.underlying94⟩, Tryz.sizeOf94, Tryz.zeroValue94, trivial, by kernel_rfl⟩,
   ⟨⟨_, _, _, Tryz.underlying95⟩, Tryz.sizeOf95, Tryz.zeroValue95, trivial, by kernel_rfl⟩,
   ⟨⟨_, _, _, Tryz.underlying96⟩, Tryz.sizeOf96, Tryz.zeroValue96, trivial, by kernel_rfl⟩,
   ⟨⟨_, _, _, Tryz.underlying97⟩, Tryz.sizeOf97, Tryz.zeroValue97, trivial, by kernel_rfl⟩,
   ⟨⟨_, _, _, Tryz.underlying98⟩, Tryz.sizeOf98, Tryz.zeroValue98, trivial, by kernel_rfl⟩,
   ⟨⟨_, _, _, Tryz.underlying99⟩, Tryz.sizeOf99, Tryz.zeroValue99, trivial, by kernel_rfl⟩,
   ⟨⟨_, _, _, Tryz.underlying100⟩, Tryz.sizeOf100, Tryz.zeroValue100, trivial, by kernel_rfl⟩,
   ⟨⟨_, _, _, Tryz.underlying101⟩, Tryz.sizeOf101, Tryz.zeroValue101, trivial, by kernel_rfl⟩,
   ⟨⟨_, _, _, Tryz.underlying102⟩, Tryz.sizeOf102, Tryz.zeroValue102, trivial, by kernel_rfl⟩,
   ⟨Tryz.underlying103, Tryz.sizeOf103, Tryz.zeroValue103, trivial, by kernel_rfl⟩,
   ⟨⟨_, Tryz.underlying104, rfl, rfl, Tryz.sizeOf103, rfl, trivial⟩, Tryz.sizeOf104, Tryz.zeroValue104, (by show Tryz.prog.stoodInHeld 104 = false; kernel_rfl), by kernel_rfl⟩,
   ⟨⟨_, Tryz.underlying105, rfl, rfl, Tryz.sizeOf103, rfl, trivial⟩, Tryz.sizeOf105, Tryz.zeroValue105, (by show Tryz.prog.stoodInHeld 105 = false; kernel_rfl), by kernel_rfl⟩,
   ⟨⟨_, _, _, Tryz.underlying106⟩, Tryz.sizeOf106, Tryz.zeroValue106, trivial, by kernel_rfl⟩,
   ⟨⟨_, _, _, Tryz.underlying108⟩, Tryz.sizeOf108, Tryz.zeroValue108, trivial, by kernel_rfl⟩,
   ⟨⟨_, _, _, Tryz.underlying109⟩, Tryz.sizeOf109, Tryz.zeroValue109, trivial, by kernel_rfl⟩,
   ⟨⟨_, _, _, Tryz.underlying110⟩, Tryz.sizeOf110, Tryz.zeroValue110, trivial, by kernel_rfl⟩,
   ⟨⟨_, _, _, Tryz.underlying111⟩, Tryz.sizeOf111, Tryz.zeroValue111, trivial, by kernel_rfl⟩,
   ⟨⟨_, _, _, Tryz.underlying112⟩, Tryz.sizeOf112, Tryz.zeroValue112, trivial, by kernel_rfl⟩,
   ⟨⟨_, _, _, Tryz.underlying114⟩, Tryz.sizeOf114, Tryz.zeroValue114, trivial, by kernel_rfl⟩,
   ⟨⟨_, _, _, Tryz.underlying115⟩, Tryz.sizeOf115, Tryz.zeroValue115, trivial, by kernel_rfl⟩,
   ⟨⟨_, _, _, Tryz.underlying116⟩, Tryz.sizeOf116, Tryz.zeroValue116, trivial, by kernel_rfl⟩,
   ⟨⟨_, _, _, Tryz.underlying117⟩, Tryz.sizeOf117, Tryz.zeroValue117, trivial, by kernel_rfl⟩,
   ⟨⟨_, _, _, Tryz.underlying119⟩, Tryz.sizeOf119, Tryz.zeroValue119, trivial, by kernel_rfl⟩,
   ⟨⟨_, _, _, Tryz.underlying121⟩, Tryz.sizeOf121, Tryz.zeroValue121, trivial, by kernel_rfl⟩,
   ⟨⟨_, _, _, Tryz.underlying122⟩, Tryz.sizeOf122, Tryz.zeroValue122, trivial, by kernel_rfl⟩,
   ⟨Tryz.underlying123, Tryz.sizeOf123, Tryz.zeroValue123, trivial, by kernel_rfl⟩,
   ⟨⟨_, Tryz.underlying124, rfl, rfl, Tryz.sizeOf67, rfl, rfl, rfl, Tryz.sizeOf123, rfl, trivial⟩, Tryz.sizeOf124, Tryz.zeroValue124, (by show Tryz.prog.stoodInHeld 124 = false; kernel_rfl), by kernel_rfl⟩,
   ⟨⟨_, Tryz.underlying125, rfl, rfl, Tryz.sizeOf67, rfl, rfl, rfl, Tryz.sizeOf123, rfl, trivial⟩, Tryz.sizeOf125, Tryz.zeroValue125, (by show Tryz.prog.stoodInHeld 125 = false; kernel_rfl), by kernel_rfl⟩,
   ⟨⟨_, _, _, Tryz.underlying127⟩, Tryz.sizeOf127, Tryz.zeroValue127, trivial, by kernel_rfl⟩,
   ⟨Tryz.underlying128, Tryz.sizeOf128, Tryz.zeroValue128, trivial, by kernel_rfl⟩,
   ⟨⟨_, _, _, Tryz.underlying130⟩, Tryz.sizeOf130, Tryz.zeroValue130, trivial, by kernel_rfl⟩,
   ⟨⟨_, _, _, Tryz.underlying131⟩, Tryz.sizeOf131, Tryz.zeroValue131, trivial, by kernel_rfl⟩,
   ⟨⟨_, Tryz.underlying132, rfl, rfl, Tryz.sizeOf3, rfl, rfl, rfl, Tryz.sizeOf67, rfl, rfl, rfl, Tryz.sizeOf3, rfl, rfl, rfl, Tryz.sizeOf65, rfl, rfl, rfl, Tryz.sizeOf22, rfl, rfl, rfl, Tryz.sizeOf123, rfl, trivial⟩, Tryz.sizeOf132, Tryz.zeroValue132, (by show Tryz.prog.stoodInHeld 132 = false; kernel_rfl), by kernel_rfl⟩,
   ⟨⟨_, Tryz.underlying133, rfl, rfl, Tryz.sizeOf3, rfl, rfl, rfl, Tryz.sizeOf67, rfl, rfl, rfl, Tryz.sizeOf3, rfl, rfl, rfl, Tryz.sizeOf65, rfl, rfl, rfl, Tryz.sizeOf22, rfl, rfl, rfl, Tryz.sizeOf123, rfl, trivial⟩, Tryz.sizeOf133, Tryz.zeroValue133, (by show Tryz.prog.stoodInHeld 133 = false; kernel_rfl), by kernel_rfl⟩,
   ⟨⟨_, _, _, Tryz.underlying135⟩, Tryz.sizeOf135, Tryz.zeroValue135, trivial, by kernel_rfl⟩,
   ⟨⟨_, _, _, Tryz.underlying136⟩, Tryz.sizeOf136, Tryz.zeroValue136, trivial, by kernel_rfl⟩,
   ⟨Tryz.underlying137, Tryz.sizeOf137, Tryz.zeroValue137, trivial, by kernel_rfl⟩,
   ⟨⟨_, Tryz.underlying138, rfl, rfl, Tryz.sizeOf137, rfl, trivial⟩, Tryz.sizeOf138, Tryz.zeroValue138, (by show Tryz.prog.stoodInHeld 138 = false; kernel_rfl), by kernel_rfl⟩,
   ⟨⟨_, Tryz.underlying139, rfl, rfl, Tryz.sizeOf137, rfl, trivial⟩, Tryz.sizeOf139, Tryz.zeroValue139, (by show Tryz.prog.stoodInHeld 139 = false; kernel_rfl), by kernel_rfl⟩,
   ⟨⟨_, _, _, Tryz.underlying140⟩, Tryz.sizeOf140, Tryz.zeroValue140, trivial, by kernel_rfl⟩,
   ⟨⟨_, Tryz.underlying141, rfl, rfl, Tryz.sizeOf38, rfl, rfl, rfl, Tryz.sizeOf22, rfl, rfl, rfl, Tryz.sizeOf4, rfl, trivial⟩, Tryz.sizeOf141, Tryz.zeroValue141, (by show Tryz.prog.stoodInHeld 141 = false; kernel_rfl), by kernel_rfl⟩,
   ⟨⟨_, Tryz.underlying142, rfl, rfl, Tryz.sizeOf38, rfl, rfl, rfl, Tryz.sizeOf22, rfl, rfl, rfl, Tryz.sizeOf4, rfl, trivial⟩, Tryz.sizeOf142, Tryz.zeroValue142, (by show Tryz.prog.stoodInHeld 142 = false; kernel_rfl), by kernel_rfl⟩,
   ⟨⟨_, _, _, Tryz.underlying143⟩, Tryz.sizeOf143, Tryz.zeroValue143, trivial, by kernel_rfl⟩,
   ⟨Tryz.underlying144, Tryz.sizeOf144, Tryz.zeroValue144, trivial, by kernel_rfl⟩,
   ⟨Tryz.underlying145, Tryz.sizeOf145, Tryz.zeroValue145, trivial, by kernel_rfl⟩,
   ⟨Tryz.underlying146, Tryz.sizeOf146, Tryz.zeroValue146, trivial, by kernel_rfl⟩,
   ⟨⟨_, _, _, Tryz.underlying147⟩, Tryz.sizeOf147, Tryz.zeroValue147, trivial, by kernel_rfl⟩,
   ⟨⟨_, _, _, Tryz.underlying148⟩, Tryz.sizeOf148, Tryz.zeroValue148, trivial, by kernel_rfl⟩,
   ⟨⟨_, _, _, Tryz.underlying149⟩, Tryz.sizeOf149, Tryz.zeroValue149, trivial, by kernel_rfl⟩,
   ⟨⟨_, Tryz.underlying150, rfl, rfl, Tryz.sizeOf22, rfl, rfl, rfl, Tryz.sizeOf39, rfl, trivial⟩, Tryz.sizeOf150, Tryz.zeroValue150, (by show Tryz.prog.stoodInHeld 150 = false; kernel_rfl), by kernel_rfl⟩,
   ⟨⟨_, Tryz.underlying151, rfl, rfl, Tryz.sizeOf22, rfl, rfl, rfl, Tryz.sizeOf39, rfl, trivial⟩, Tryz.sizeOf151, Tryz.zeroValue151, (by show Tryz.prog.stoodInHeld 151 = false; kernel_rfl), by kernel_rfl⟩,
   ⟨Tryz.underlying152, Tryz.sizeOf152, Tryz.zeroValue152, trivial, by kernel_rfl⟩,
   ⟨⟨_, _, _, Tryz.underlying153⟩, Tryz.sizeOf153, Tryz.zeroValue153, trivial, by kernel_rfl⟩,
   ⟨⟨_, _, _, Tryz.underlying154⟩, Tryz.sizeOf154, Tryz.zeroValue154, trivial, by kernel_rfl⟩,
   ⟨⟨_, _, _, Tryz.underlying155⟩, Tryz.sizeOf155, Tryz.zeroValue155, trivial, by kernel_rfl⟩,
   ⟨⟨_, _, _, Tryz.underlying156⟩, Tryz.sizeOf156, Tryz.zeroValue156, trivial, by kernel_rfl⟩,
   ⟨⟨_, _, _, Tryz.underlying157⟩, Tryz.sizeOf157, Tryz.zeroValue157, trivial, by kernel_rfl⟩,
   ⟨⟨_, _, _, Tryz.underlying158⟩, Tryz.sizeOf158, Tryz.zeroValue158, trivial, by kernel_rfl⟩,
   ⟨⟨_, Tryz.underlying159, rfl, rfl, Tryz.sizeOf3, rfl, rfl, rfl, Tryz.sizeOf3, rfl, rfl, rfl, Tryz.sizeOf22, rfl, trivial⟩, Tryz.sizeOf159, Tryz.zeroValue159, (by show Tryz.prog.stoodInHeld 159 = false; kernel_rfl), by kernel_rfl⟩,
   ⟨⟨_, Tryz.underlying160, rfl, rfl, Tryz.sizeOf3, rfl, rfl, rfl, Tryz.sizeOf3, rfl, rfl, rfl, Tryz.sizeOf22, rfl, trivial⟩, Tryz.sizeOf160, Tryz.zeroValue160, (by show Tryz.prog.stoodInHeld 160 = false; kernel_rfl), by kernel_rfl⟩,
   ⟨⟨_, _, _, Tryz.underlying161⟩, Tryz.sizeOf161, Tryz.zeroValue161, trivial, by kernel_rfl⟩,
   ⟨⟨_, _, _, Tryz.underlying162⟩, Tryz.sizeOf162, Tryz.zeroValue162, trivial, by kernel_rfl⟩,
   ⟨⟨_, _, _, Tryz.underlying163⟩, Tryz.sizeOf163, Tryz.zeroValue163, trivial, by kernel_rfl⟩,
   ⟨⟨_, _, _, Tryz.underlying164⟩, Tryz.sizeOf164, Tryz.zeroValue164, trivial, by kernel_rfl⟩,
   ⟨⟨_, _, _, Tryz.underlying165⟩, Tryz.sizeOf165, Tryz.zeroValue165, trivial, by kernel_rfl⟩,
   ⟨Tryz.underlying166, Tryz.sizeOf166, Tryz.zeroValue166, trivial, by kernel_rfl⟩,
   ⟨Tryz.underlying167, Tryz.sizeOf167, Tryz.zeroValue167, trivial, by kernel_rfl⟩,
   ⟨⟨_, _, _, Tryz.underlying168⟩, Tryz.sizeOf168, Tryz.zeroValue168, trivial, by kernel_rfl⟩,
   ⟨⟨_, _, _, Tryz.underlying169⟩, Tryz.sizeOf169, Tryz.zeroValue169, trivial, by kernel_rfl⟩,
   ⟨Tryz.underlying170, Tryz.sizeOf170, Tryz.zeroValue170, trivial, by kernel_rfl⟩,
   ⟨⟨_, _, _, Tryz.underlying172⟩, Tryz.sizeOf172, Tryz.zeroValue172, trivial, by kernel_rfl⟩,
   ⟨⟨_, _, _, Tryz.underlying173⟩, Tryz.sizeOf173, Tryz.zeroValue173, trivial, by kernel_rfl⟩,
   ⟨Tryz.underlying174, Tryz.sizeOf174, Tryz.zeroValue174, trivial, by kernel_rfl⟩,
   ⟨⟨_, _, _, Tryz.underlying176⟩, Tryz.sizeOf176, Tryz.zeroValue176, trivial, by kernel_rfl⟩,
   ⟨Tryz.underlying177, Tryz.sizeOf177, Tryz.zeroValue177, trivial, by kernel_rfl⟩,
   ⟨⟨_, _, _, Tryz.underlying179⟩, Tryz.sizeOf179, Tryz.zeroValue179, trivial, by kernel_rfl⟩,
   ⟨Tryz.underlying180, Tryz.sizeOf180, Tryz.zeroValue180, trivial, by kernel_rfl⟩,
   ⟨⟨_, _, _, Tryz.underlying182⟩, Tryz.sizeOf182, Tryz.zeroValue182, trivial, by kernel_rfl⟩,
   ⟨Tryz.underlying183, Tryz.sizeOf183, Tryz.zeroValue183, trivial, by kernel_rfl⟩,
   ⟨⟨_, _, _, Tryz.underlying184⟩, Tryz.sizeOf184, Tryz.zeroValue184, trivial, by kernel_rfl⟩,
   ⟨⟨_, Tryz.underlying185, rfl, rfl, Tryz.sizeOf65, rfl, rfl, rfl, Tryz.sizeOf83, rfl, trivial⟩, Tryz.sizeOf185, Tryz.zeroValue185, (by show Tryz.prog.stoodInHeld 185 = false; kernel_rfl), by kernel_rfl⟩,
   ⟨⟨_, Tryz.underlying186, rfl, rfl, Tryz.sizeOf65, rfl, rfl, rfl, Tryz.sizeOf83, rfl, trivial⟩, Tryz.sizeOf186, Tryz.zeroValue186, (by show Tryz.prog.stoodInHeld 186 = false; kernel_rfl), by kernel_rfl⟩,
   ⟨Tryz.underlying187, Tryz.sizeOf187, Tryz.zeroValue187, trivial, by kernel_rfl⟩,
   ⟨⟨_, Tryz.underlying188, rfl, rfl, Tryz.sizeOf177, rfl, rfl, rfl, Tryz.sizeOf174, rfl, rfl, rfl, Tryz.sizeOf183, rfl, rfl, rfl, Tryz.sizeOf180, rfl, rfl, rfl, Tryz.sizeOf187, rfl, trivial⟩, Tryz.sizeOf188, Tryz.zeroValue188, (by show Tryz.prog.stoodInHeld 188 = false; kernel_rfl), by kernel_rfl⟩,
   ⟨⟨_, Tryz.underlying189, rfl, rfl, Tryz.sizeOf177, rfl, rfl, rfl, Tryz.sizeOf174, rfl, rfl, rfl, Tryz.sizeOf183, rfl, rfl, rfl, Tryz.sizeOf180, rfl, rfl, rfl, Tryz.sizeOf187, rfl, trivial⟩, Tryz.sizeOf189, Tryz.zeroValue189, (by show Tryz.prog.stoodInHeld 189 = false; kernel_rfl), by kernel_rfl⟩,
   ⟨⟨_, _, _, Tryz.underlying191⟩, Tryz.sizeOf191, Tryz.zeroValue191, trivial, by kernel_rfl⟩,
   ⟨⟨_, _, _, Tryz.underlying193⟩, Tryz.sizeOf193, Tryz.zeroValue193, trivial, by kernel_rfl⟩,
   ⟨⟨_, _, _, Tryz.underlying194⟩, Tryz.sizeOf194, Tryz.zeroValue194, trivial, by kernel_rfl⟩,
   ⟨⟨_, _, _, Tryz.underlying195⟩, Tryz.sizeOf195, Tryz.zeroValue195, trivial, by kernel_rfl⟩,
   ⟨⟨_, _, _, Tryz.underlying196⟩, Tryz.sizeOf196, Tryz.zeroValue196, trivial, by kernel_rfl⟩,
   ⟨⟨_, _, _, Tryz.underlying197⟩, Tryz.sizeOf197, Tryz.zeroValue197, trivial, by kernel_rfl⟩,
   ⟨⟨_, Tryz.underlying198, rfl, rfl, Tryz.sizeOf167, rfl, trivial⟩, Tryz.sizeOf198, Tryz.zeroValue198, (by show Tryz.prog.stoodInHeld 198 = false; kernel_rfl), by kernel_rfl⟩,
   ⟨⟨_, Tryz.underlying199, rfl, rfl, Tryz.sizeOf167, rfl, trivial⟩, Tryz.sizeOf199, Tryz.zeroValue199, (by show Tryz.prog.stoodInHeld 199 = false; kernel_rfl), by kernel_rfl⟩,
   ⟨⟨_, _, _, Tryz.underlying200⟩, Tryz.sizeOf200, Tryz.zeroValue200, trivial, by kernel_rfl⟩,
   ⟨⟨_, _, _, Tryz.underlying201⟩, Tryz.sizeOf201, Tryz.zeroValue201, trivial, by kernel_rfl⟩,
   ⟨⟨_, _, _, Tryz.underlying202⟩, Tryz.sizeOf202, Tryz.zeroValue202, trivial, by kernel_rfl⟩,
   ⟨⟨_, _, _, Tryz.underlying203⟩, Tryz.sizeOf203, Tryz.zeroValue203, trivial, by kernel_rfl⟩,
   ⟨⟨_, _, _, Tryz.underlying204⟩, Tryz.sizeOf204, Tryz.zeroValue204, trivial, by kernel_rfl⟩,
   ⟨Tryz.underlying205, Tryz.sizeOf205, Tryz.zeroValue205, trivial, by kernel_rfl⟩,
   ⟨⟨_, _, _, Tryz.underlying206⟩, Tryz.sizeOf206, Tryz.zeroValue206, trivial, by kernel_rfl⟩,
   ⟨⟨_, _, _, Tryz.underlying207⟩, Tryz.sizeOf207, Tryz.zeroValue207, trivial, by kernel_rfl⟩,
   ⟨⟨_, _, _, Tryz.underlying208⟩, Tryz.sizeOf208, Tryz.zeroValue208, trivial, by kernel_rfl⟩,
   ⟨⟨_, Tryz.underlying209, rfl, rfl, Tryz.sizeOf3, rfl, rfl, rfl, Tryz.sizeOf3, rfl, rfl, rfl, Tryz.sizeOf22, rfl, trivial⟩, Tryz.sizeOf209, Tryz.zeroValue209, (by show Tryz.prog.stoodInHeld 209 = false; kernel_rfl), by kernel_rfl⟩,
   ⟨⟨_, _, _, Tryz.underlying210⟩, Tryz.sizeOf210, Tryz.zeroValue210, trivial, by kernel_rfl⟩,
   ⟨⟨_, _, _, Tryz.underlying211⟩, Tryz.sizeOf211, Tryz.zeroValue211, trivial, by kernel_rfl⟩,
   ⟨⟨_, _, _, Tryz.underlying212⟩, Tryz.sizeOf212, Tryz.zeroValue212, trivial, by kernel_rfl⟩,
   ⟨⟨_, _, _, Tryz.underlying213⟩, Tryz.sizeOf213, Tryz.zeroValue213, trivial, by kernel_rfl⟩,
   ⟨⟨_, Tryz.underlying214, rfl, rfl, Tryz.sizeOf3, rfl, rfl, rfl, Tryz.sizeOf3, rfl, rfl, rfl, Tryz.sizeOf3, rfl, trivial⟩, Tryz.sizeOf214, Tryz.zeroValue214, (by show Tryz.prog.stoodInHeld 214 = false; kernel_rfl), by kernel_rfl⟩,
   ⟨⟨_, Tryz.underlying215, rfl, rfl, Tryz.sizeOf3, rfl, rfl, rfl, Tryz.sizeOf3, rfl, rfl, rfl, Tryz.sizeOf3, rfl, trivial⟩, Tryz.sizeOf215, Tryz.zeroValue215, (by show Tryz.prog.stoodInHeld 215 = false; kernel_rfl), by kernel_rfl⟩,
   ⟨Tryz.underlying216, Tryz.sizeOf216, Tryz.zeroValue216, trivial, by kernel_rfl⟩,
   ⟨⟨_, _, _, Tryz.underlying217⟩, Tryz.sizeOf217, Tryz.zeroValue217, trivial, by kernel_rfl⟩,
   ⟨⟨_, Tryz.underlying218, rfl, rfl, Tryz.sizeOf22, rfl, rfl, rfl, Tryz.sizeOf39, rfl, trivial⟩, Tryz.sizeOf218, Tryz.zeroValue218, (by show Tryz.prog.stoodInHeld 218 = false; kernel_rfl), by kernel_rfl⟩,
   ⟨⟨_, Tryz.underlying219, rfl, rfl, Tryz.sizeOf218, rfl, trivial⟩, Tryz.sizeOf219, Tryz.zeroValue219, (by show Tryz.prog.stoodInHeld 219 = false; kernel_rfl), by kernel_rfl⟩,
   ⟨⟨_, Tryz.underlying220, rfl, rfl, Tryz.sizeOf218, rfl, trivial⟩, Tryz.sizeOf220, Tryz.zeroValue220, (by show Tryz.prog.stoodInHeld 220 = false; kernel_rfl), by kernel_rfl⟩,
   ⟨⟨_, _, _, Tryz.underlying221⟩, Tryz.sizeOf221, Tryz.zeroValue221, trivial, by kernel_rfl⟩,
   ⟨⟨_, _, _, Tryz.underlying222⟩, Tryz.sizeOf222, Tryz.zeroValue222, trivial, by kernel_rfl⟩,
   ⟨⟨_, _, _, Tryz.underlying223⟩, Tryz.sizeOf223, Tryz.zeroValue223, trivial, by kernel_rfl⟩,
   ⟨Tryz.underlying224, Tryz.sizeOf224, Tryz.zeroValue224, trivial, by kernel_rfl⟩,
   ⟨Tryz.underlying225, Tryz.sizeOf225, Tryz.zeroValue225, trivial, by kernel_rfl⟩,
   ⟨⟨_, Tryz.underlying226, rfl, rfl, Tryz.sizeOf125, rfl, rfl, rfl, Tryz.sizeOf224, rfl, rfl, rfl, Tryz.sizeOf225, rfl, trivial⟩, Tryz.sizeOf226, Tryz.zeroValue226, (by show Tryz.prog.stoodInHeld 226 = false; kernel_rfl), by kernel_rfl⟩,
   ⟨⟨_, Tryz.underlying227, rfl, rfl, Tryz.sizeOf125, rfl, rfl, rfl, Tryz.sizeOf224, rfl, rfl, rfl, Tryz.sizeOf225, rfl, trivial⟩, Tryz.sizeOf227, Tryz.zeroValue227, (by show Tryz.prog.stoodInHeld 227 = false; kernel_rfl), by kernel_rfl⟩,
   ⟨⟨_, Tryz.underlying228, rfl, rfl, Tryz.sizeOf65, rfl, trivial⟩, Tryz.sizeOf228, Tryz.zeroValue228, (by show Tryz.prog.stoodInHeld 228 = false; kernel_rfl), by kernel_rfl⟩,
   ⟨⟨_, Tryz.underlying229, rfl, rfl, Tryz.sizeOf65, rfl, trivial⟩, Tryz.sizeOf229, Tryz.zeroValue229, (by show Tryz.prog.stoodInHeld 229 = false; kernel_rfl), by kernel_rfl⟩,
   ⟨Tryz.underlying230, Tryz.sizeOf230, Tryz.zeroValue230, trivial, by kernel_rfl⟩,
   ⟨⟨_, Tryz.underlying231, rfl, rfl, Tryz.sizeOf3, rfl, rfl, rfl, Tryz.sizeOf230, rfl, trivial⟩, Tryz.sizeOf231, Tryz.zeroValue231, (by show Tryz.prog.stoodInHeld 231 = false; kernel_rfl), by kernel_rfl⟩,
   ⟨⟨_, Tryz.underlying232, rfl, rfl, Tryz.sizeOf3, rfl, rfl, rfl, Tryz.sizeOf230, rfl, trivial⟩, Tryz.sizeOf232, Tryz.zeroValue232, (by show Tryz.prog.stoodInHeld 232 = false; kernel_rfl), by kernel_rfl⟩,
   ⟨Tryz.underlying233, Tryz.sizeOf233, Tryz.zeroValue233, trivial, by kernel_rfl⟩,
   ⟨⟨_, Tryz.underlying234, rfl, rfl, Tryz.sizeOf233, rfl, trivial⟩, Tryz.sizeOf234, Tryz.zeroValue234, (by show Tryz.prog.stoodInHeld 234 = false; kernel_rfl), by kernel_rfl⟩,
   ⟨⟨_, Tryz.underlying235, rfl, rfl, Tryz.sizeOf233, rfl, trivial⟩, Tryz.sizeOf235, Tryz.zeroValue235, (by show Tryz.prog.stoodInHeld 235 = false; kernel_rfl), by kernel_rfl⟩,
   ⟨⟨_, _, _, Tryz.underlying236⟩, Tryz.sizeOf236, Tryz.zeroValue236, trivial, by kernel_rfl⟩,
   ⟨⟨_, _, _, Tryz.underlying237⟩, Tryz.sizeOf237, Tryz.zeroValue237, trivial, by kernel_rfl⟩,
   ⟨⟨_, _, _, Tryz.underlying238⟩, Tryz.sizeOf238, Tryz.zeroValue238, trivial, by kernel_rfl⟩,
   ⟨⟨_, _, _, Tryz.underlying239⟩, Tryz.sizeOf239, Tryz.zeroValue239, trivial, by kernel_rfl⟩,
   ⟨⟨_, _, _, Tryz.underlying240⟩, Tryz.sizeOf240, Tryz.zeroValue240, trivial, by kernel_rfl⟩,
   ⟨Tryz.underlying241, Tryz.sizeOf241, Tryz.zeroValue241, trivial, by kernel_rfl⟩,
   ⟨Tryz.underlying242, Tryz.sizeOf242, Tryz.zeroValue242, trivial, by kernel_rfl⟩,
   ⟨⟨_, _, _, Tryz.underlying243⟩, Tryz.sizeOf243, Tryz.zeroValue243, trivial, by kernel_rfl⟩,
   ⟨⟨_, _, _, Tryz.underlying244⟩, Tryz.sizeOf244, Tryz.zeroValue244, trivial, by kernel_rfl⟩,
   ⟨⟨_, _, _, Tryz.underlying245⟩, Tryz.sizeOf245, Tryz.zeroValue245, trivial, by kernel_rfl⟩,
   ⟨⟨_, _, _, Tryz.underlying246⟩, Tryz.sizeOf246, Tryz.zeroValue246, trivial, by kernel_rfl⟩,
   ⟨Tryz.underlying247, Tryz.sizeOf247, Tryz.zeroValue247, trivial, by kernel_rfl⟩,
   ⟨⟨_, Tryz.underlying248, rfl, rfl, Tryz.sizeOf32, rfl, trivial⟩, Tryz.sizeOf248, Tryz.zeroValue248, (by show Tryz.prog.stoodInHeld 248 = false; kernel_rfl), by kernel_rfl⟩,
   ⟨⟨_, Tryz.underlying249, rfl, rfl, Tryz.sizeOf32, rfl, trivial⟩, Tryz.sizeOf249, Tryz.zeroValue249, (by show Tryz.prog.stoodInHeld 249 = false; kernel_rfl), by kernel_rfl⟩,
   ⟨⟨_, Tryz.underlying250, rfl, rfl, Tryz.sizeOf249, rfl, rfl, rfl, Tryz.sizeOf4, rfl, rfl, rfl, Tryz.sizeOf22, rfl, rfl, rfl, Tryz.sizeOf3, rfl, trivial⟩, Tryz.sizeOf250, Tryz.zeroValue250, (by show Tryz.prog.stoodInHeld 250 = false; kernel_rfl), by kernel_rfl⟩,
   ⟨⟨_, Tryz.underlying251, rfl, rfl, Tryz.sizeOf249, rfl, rfl, rfl, Tryz.sizeOf4, rfl, rfl, rfl, Tryz.sizeOf22, rfl, rfl, rfl, Tryz.sizeOf3, rfl, trivial⟩, Tryz.sizeOf251, Tryz.zeroValue251, (by show Tryz.prog.stoodInHeld 251 = false; kernel_rfl), by kernel_rfl⟩,
   ⟨Tryz.underlying252, Tryz.sizeOf252, Tryz.zeroValue252, trivial, by kernel_rfl⟩,
   ⟨⟨_, _, _, Tryz.underlying253⟩, Tryz.sizeOf253, Tryz.zeroValue253, trivial, by kernel_rfl⟩,
   ⟨⟨_, _, _, Tryz.underlying254⟩, Tryz.sizeOf254, Tryz.zeroValue254, trivial, by kernel_rfl⟩,
   ⟨⟨_, _, _, Tryz.underlying255⟩, Tryz.sizeOf255, Tryz.zeroValue255, trivial, by kernel_rfl⟩,
   ⟨⟨_, _, _, Tryz.underlying256⟩, Tryz.sizeOf256, Tryz.zeroValue256, trivial, by kernel_rfl⟩,
   ⟨⟨_, _, _, Tryz.underlying257⟩, Tryz.sizeOf257, Tryz.zeroValue257, trivial, by kernel_rfl⟩,
   ⟨⟨_, _, _, Tryz.underlying258⟩, Tryz.sizeOf258, Tryz.zeroValue258, trivial, by kernel_rfl⟩,
   ⟨⟨_, _, _, Tryz.underlying259⟩, Tryz.sizeOf259, Tryz.zeroValue259, trivial, by kernel_rfl⟩,
   ⟨⟨_, _, _, Tryz.underlying260⟩, Tryz.sizeOf260, Tryz.zeroValue260, trivial, by kernel_rfl⟩,
   ⟨⟨_, _, _, Tryz.underlying262⟩, Tryz.sizeOf262, Tryz.zeroValue262, trivial, by kernel_rfl⟩,
   ⟨⟨_, _, _, Tryz.underlying263⟩, Tryz.sizeOf263, Tryz.zeroValue263, trivial, by kernel_rfl⟩,
   ⟨Tryz.underlying264, Tryz.sizeOf264, Tryz.zeroValue264, trivial, by kernel_rfl⟩,
   ⟨⟨_, _, _, Tryz.underlying266⟩, Tryz.sizeOf266, Tryz.zeroValue266, trivial, by kernel_rfl⟩,
   ⟨⟨_, _, _, Tryz.underlying267⟩, Tryz.sizeOf267, Tryz.zeroValue267, trivial, by kernel_rfl⟩,
   ⟨⟨_, _, _, Tryz.underlying268⟩, Tryz.sizeOf268, Tryz.zeroValue268, trivial, by kernel_rfl⟩,
   ⟨⟨_, _, _, Tryz.underlying269⟩, Tryz.sizeOf269, Tryz.zeroValue269, trivial, by kernel_rfl⟩,
   ⟨⟨_, _, _, Tryz.underlying270⟩, Tryz.sizeOf270, Tryz.zeroValue270, trivial, by kernel_rfl⟩,
   ⟨⟨_, _, _, Tryz.underlying271⟩, Tryz.sizeOf271, Tryz.zeroValue271, trivial, by kernel_rfl⟩,
   ⟨⟨_, _, _, Tryz.underlying272⟩, Tryz.sizeOf272, Tryz.zeroValue272, trivial, by kernel_rfl⟩,
   ⟨⟨_, _, _, Tryz.underlying273⟩, Tryz.sizeOf273, Tryz.zeroValue273, trivial, by kernel_rfl⟩,
   ⟨⟨_, _, _, Tryz.underlying274⟩, Tryz.sizeOf274, Tryz.zeroValue274, trivial, by kernel_rfl⟩,
   ⟨⟨_, _, _, Tryz.underlying275⟩, Tryz.sizeOf275, Tryz.zeroValue275, trivial, by kernel_rfl⟩,
   ⟨⟨_, _, _, Tryz.underlying276⟩, Tryz.sizeOf276, Tryz.zeroValue276, trivial, by kernel_rfl⟩,
   ⟨Tryz.underlying277, Tryz.sizeOf277, Tryz.zeroValue277, trivial, by kernel_rfl⟩,
   ⟨⟨_, _, _, Tryz.underlying278⟩, Tryz.sizeOf278, Tryz.zeroValue278, trivial, by kernel_rfl⟩,
   ⟨⟨_, _, _, Tryz.underlying279⟩, Tryz.sizeOf279, Tryz.zeroValue279, trivial, by kernel_rfl⟩,
   ⟨⟨_, _, _, Tryz.underlying280⟩, Tryz.sizeOf280, Tryz.zeroValue280, trivial, by kernel_rfl⟩,
   ⟨Tryz.underlying281, Tryz.sizeOf281, Tryz.zeroValue281, trivial, by kernel_rfl⟩,
   ⟨⟨_, _, _, Tryz.underlying282⟩, Tryz.sizeOf282, Tryz.zeroValue282, trivial, by kernel_rfl⟩,
   ⟨Tryz.underlying283, Tryz.sizeOf283, Tryz.zeroValue283, trivial, by kernel_rfl⟩,
   ⟨Tryz.underlying284, Tryz.sizeOf284, Tryz.zeroValue284, trivial, by kernel_rfl⟩,
   ⟨⟨_, _, _, Tryz.underlying286⟩, Tryz.sizeOf286, Tryz.zeroValue286, trivial, by kernel_rfl⟩,
   ⟨⟨_, _, _, Tryz.underlying287⟩, Tryz.sizeOf287, Tryz.zeroValue287, trivial, by kernel_rfl⟩,
   ⟨⟨_, _, _, Tryz.underlying288⟩, Tryz.sizeOf288, Tryz.zeroValue288, trivial, by kernel_rfl⟩,
   ⟨⟨_, _, _, Tryz.underlying289⟩, Tryz.sizeOf289, Tryz.zeroValue289, trivial, by kernel_rfl⟩,
   ⟨⟨_, _, _, Tryz.underlying290⟩, Tryz.sizeOf290, Tryz.zeroValue290, trivial, by kernel_rfl⟩,
   ⟨⟨_, _, _, Tryz.underlying291⟩, Tryz.sizeOf291, Tryz.zeroValue291, trivial, by kernel_rfl⟩,
   ⟨Tryz.underlying297, Tryz.sizeOf297, Tryz.zeroValue297, trivial, by kernel_rfl⟩,
   ⟨Tryz.underlying298, Tryz.sizeOf298, Tryz.zeroValue298, trivial, by kernel_rfl⟩,
   ⟨⟨_, _, _, Tryz.underlying299⟩, Tryz.sizeOf299, Tryz.zeroValue299, trivial, by kernel_rfl⟩,
   ⟨Tryz.underlying300, Tryz.sizeOf300, Tryz.zeroValue300, trivial, by kernel_rfl⟩,
   ⟨Tryz.underlying301, Tryz.sizeOf301, Tryz.zeroValue301, trivial, by kernel_rfl⟩,
   ⟨Tryz.underlying302, Tryz.sizeOf302, Tryz.zeroValue302, trivial, by kernel_rfl⟩,
   ⟨⟨_, _, _, Tryz.underlying305⟩, Tryz.sizeOf305, Tryz.zeroValue305, trivial, by kernel_rfl⟩,
   ⟨Tryz.underlying306, Tryz.sizeOf306, Tryz.zeroValue306, trivial, by kernel_rfl⟩,
   ⟨⟨_, Tryz.underlying308, rfl, rfl, Tryz.sizeOf186, rfl, rfl, rfl, Tryz.sizeOf28, rfl, rfl, rfl, Tryz.sizeOf3, rfl, trivial⟩, Tryz.sizeOf308, Tryz.zeroValue308, (by show Tryz.prog.stoodInHeld 308 = false; kernel_rfl), by kernel_rfl⟩,
   ⟨⟨_, Tryz.underlying309, rfl, rfl, Tryz.sizeOf186, rfl, rfl, rfl, Tryz.sizeOf28, rfl, rfl, rfl, Tryz.sizeOf3, rfl, trivial⟩, Tryz.sizeOf309, Tryz.zeroValue309, (by show Tryz.prog.stoodInHeld 309 = false; kernel_rfl), by kernel_rfl⟩,
   ⟨⟨_, _, _, Tryz.underlying310⟩, Tryz.sizeOf310, Tryz.zeroValue310, trivial, by kernel_rfl⟩,
   ⟨Tryz.underlying311, Tryz.sizeOf311, Tryz.zeroValue311, trivial, by kernel_rfl⟩,
   trivial⟩
theorem fnsGood : FGoods Tryz.prog [3, 4, 5, 6, 7, 8, 9, 10, 11, 12, 13, 14, 15, 16, 17, 18, 19, 20, 21, 22, 23, 24, 25, 26, 27, 28, 29, 30, 31, 32, 33, 34, 35, 36, 37, 38, 39, 40, 41, 42, 43, 44, 45, 46, 47, 48, 49, 50, 51, 52, 53, 54, 55, 56, 57, 58, 59, 60, 61, 62, 63, 64, 65, 66, 67, 68, 69, 70, 71, 72, 73, 74, 75, 76, 77, 78, 79, 80, 81, 82, 83, 84, 85, 86, 87, 88, 89, 90, 91, 92, 93, 94, 95, 96, 97, 98, 99, 100, 101, 102, 103, 104, 105, 106, 107, 108, 109, 110, 111, 112, 113, 114, 115, 116, 117, 118, 119, 120, 121, 122, 123, 124, 125, 126, 127, 128, 129, 130, 131, 132, 133, 134, 135, 136, 137, 138, 139, 140, 141, 142, 143, 144, 145, 146, 147, 148, 149, 150, 151, 152, 153, 154, 155, 156, 157, 158, 159, 160, 161, 162, 163, 164, 165, 166, 167, 169, 170, 171, 172, 173, 174, 175, 176, 177, 178, 179, 180] :=
  ⟨enters_of Tryz.func3 (by kernel_rfl) rfl,
   enters_of Tryz.func4 (by kernel_rfl) rfl,
   enters_of Tryz.func5 (by kernel_rfl) rfl,
   enters_of Tryz.func6 (by kernel_rfl) rfl,
   enters_of Tryz.func7 (by kernel_rfl) rfl,
   enters_of Tryz.func8 (by kernel_rfl) rfl,
   enters_of Tryz.func9 (by kernel_rfl) rfl,
   enters_of Tryz.func10 (by kernel_rfl) rfl,
   enters_of Tryz.func11 (by kernel_rfl) rfl,
   enters_of Tryz.func12 (by kernel_rfl) rfl,
   enters_of Tryz.func13 (by kernel_rfl) rfl,
   enters_of Tryz.func14 (by kernel_rfl) rfl,
   enters_of Tryz.func15 (by kernel_rfl) rfl,
   enters_of Tryz.func16 (by kernel_rfl) rfl,
   enters_of Tryz.func17 (by kernel_rfl) rfl,
   enters_of Tryz.func18 (by kernel_rfl) rfl,
   enters_of Tryz.func19 (by kernel_rfl) rfl,
   enters_of Tryz.func20 (by kernel_rfl) rfl,
   enters_of Tryz.func21 (by kernel_rfl) rfl,
   enters_of Tryz.func22 (by kernel_rfl) rfl,
   enters_of Tryz.func23 (by kernel_rfl) rfl,
   enters_of Tryz.func24 (by kernel_rfl) rfl,
   enters_of Tryz.func25 (by kernel_rfl) rfl,
   enters_of Tryz.func26 (by kernel_rfl) rfl,
   enters_of Tryz.func27 (by kernel_rfl) rfl,
   enters_of Tryz.func28 (by kernel_rfl) rfl,
   enters_of Tryz.func29 (by kernel_rfl) rfl,
   enters_of Tryz.func30 (by kernel_rfl) rfl,
   enters_of Tryz.func31 (by kernel_rfl) rfl,
   enters_of Tryz.func32 (by kernel_rfl) rfl,
   enters_of Tryz.func33 (by kernel_rfl) rfl,
   enters_of Tryz.func34 (by kernel_rfl) rfl,
   enters_of Tryz.func35 (by kernel_rfl) rfl,
   enters_of Tryz.func36 (by kernel_rfl) rfl,
   enters_of Tryz.func37 (by kernel_rfl) rfl,
   enters_of Tryz.func38 (by kernel_rfl) rfl,
   enters_of Tryz.func39 (by kernel_rfl) rfl,
   enters_of Tryz.func40 (by kernel_rfl) rfl,
   enters_of Tryz.func41 (by kernel_rfl) rfl,
   enters_of Tryz.func42 (by kernel_rfl) rfl,
   enters_of Tryz.func43 (by kernel_rfl) rfl,
   enters_of Tryz.func44 (by kernel_rfl) rfl,
   enters_of Tryz.func45 (by kernel_rfl) rfl,
   enters_of Tryz.func46 (by kernel_rfl) rfl,
   enters_of Tryz.func47 (by kernel_rfl) rfl,
   enters_of Tryz.func48 (by kernel_rfl) rfl,
   enters_of Tryz.func49 (by kernel_rfl) rfl,
   enters_of Tryz.func50 (by kernel_rfl) rfl,
   enters_of Tryz.func51 (by kernel_rfl) rfl,
   enters_of Tryz.func52 (by kernel_rfl) rfl,
   enters_of Tryz.func53 (by kernel_rfl) rfl,
   enters_of Tryz.func54 (by kernel_rfl) rfl,
   enters_of Tryz.func55 (by kernel_rfl) rfl,
   enters_of Tryz.func56 (by kernel_rfl) rfl,
   enters_of Tryz.func57 (by kernel_rfl) rfl,
   enters_of Tryz.func58 (by kernel_rfl) rfl,
   enters_of Tryz.func59 (by kernel_rfl) rfl,
   enters_of Tryz.func60 (by kernel_rfl) rfl,
   enters_of Tryz.func61 (by kernel_rfl) rfl,
   enters_of Tryz.func62 (by kernel_rfl) rfl,
   enters_of Tryz.func63 (by kernel_rfl) rfl,
   enters_of Tryz.func64 (by kernel_rfl) rfl,
   enters_of Tryz.func65 (by kernel_rfl) rfl,
   enters_of Tryz.func66 (by kernel_rfl) rfl,
   enters_of Tryz.func67 (by kernel_rfl) rfl,
   enters_of Tryz.func68 (by kernel_rfl) rfl,
   enters_of Tryz.func69 (by kernel_rfl) rfl,
   enters_of Tryz.func70 (by kernel_rfl) rfl,
   enters_of Tryz.func71 (by kernel_rfl) rfl,
   enters_of Tryz.func72 (by kernel_rfl) rfl,
   enters_of Tryz.func73 (by kernel_rfl) rfl,
   enters_of Tryz.func74 (by kernel_rfl) rfl,
   enters_of Tryz.func75 (by kernel_rfl) rfl,
   enters_of Tryz.func76 (by kernel_rfl) rfl,
   enters_of Tryz.func77 (by kernel_rfl) rfl,
   enters_of Tryz.func78 (by kernel_rfl) rfl,
   enters_of Tryz.func79 (by kernel_rfl) rfl,
   enters_of Tryz.func80 (by kernel_rfl) rfl,
   enters_of Tryz.func81 (by kernel_rfl) rfl,
   enters_of Tryz.func82 (by kernel_rfl) rfl,
   enters_of Tryz.func83 (by kernel_rfl) rfl,
   enters_of Tryz.func84 (by kernel_rfl) rfl,
   enters_of Tryz.func85 (by kernel_rfl) rfl,
   enters_of Tryz.func86 (by kernel_rfl) rfl,
   enters_of Tryz.func87 (by kernel_rfl) rfl,
   enters_of Tryz.func88 (by kernel_rfl) rfl,
   enters_of Tryz.func89 (by kernel_rfl) rfl,
   enters_of Tryz.func90 (by kernel_rfl) rfl,
   enters_of Tryz.func91 (by kernel_rfl) rfl,
   enters_of Tryz.func92 (by kernel_rfl) rfl,
   enters_of Tryz.func93 (by kernel_rfl) rfl,
   enters_of Tryz.func94 (by kernel_rfl) rfl,
   enters_of Tryz.func95 (by kernel_rfl) rfl,
   enters_of Tryz.func96 (by kernel_rfl) rfl,
   enters_of Tryz.func97 (by kernel_rfl) rfl,
   enters_of Tryz.func98 (by kernel_rfl) rfl,
   enters_of Tryz.func99 (by kernel_rfl) rfl,
   enters_of Tryz.func100 (by kernel_rfl) rfl,
   enters_of Tryz.func101 (by kernel_rfl) rfl,
   enters_of Tryz.func102 (by kernel_rfl) rfl,
   enters_of Tryz.func103 (by kernel_rfl) rfl,
   enters_of Tryz.func104 (by kernel_rfl) rfl,
   enters_of Tryz.func105 (by kernel_rfl) rfl,
   enters_of Tryz.func106 (by kernel_rfl) rfl,
   enters_of Tryz.func107 (by kernel_rfl) rfl,
   enters_of Tryz.func108 (by kernel_rfl) rfl,
   enters_of Tryz.func109 (by kernel_rfl) rfl,
   enters_of Tryz.func110 (by kernel_rfl) rfl,
   enters_of Tryz.func111 (by kernel_rfl) rfl,
   enters_of Tryz.func112 (by kernel_rfl) rfl,
   enters_of Tryz.func113 (by kernel_rfl) rfl,
   enters_of Tryz.func114 (by kernel_rfl) rfl,
   enters_of Tryz.func115 (by kernel_rfl) rfl,
   enters_of Tryz.func116 (by kernel_rfl) rfl,
   enters_of Tryz.func117 (by kernel_rfl) rfl,
   enters_of Tryz.func118 (by kernel_rfl) rfl,
   enters_of Tryz.func119 (by kernel_rfl) rfl,
   enters_of Tryz.func120 (by kernel_rfl) rfl,
   enters_of Tryz.func121 (by kernel_rfl) rfl,
   enters_of Tryz.func122 (by kernel_rfl) rfl,
   enters_of Tryz.func123 (by kernel_rfl) rfl,
   enters_of Tryz.func124 (by kernel_rfl) rfl,
   enters_of Tryz.func125 (by kernel_rfl) rfl,
   enters_of Tryz.func126 (by kernel_rfl) rfl,
   enters_of Tryz.func127 (by kernel_rfl) rfl,
   enters_of Tryz.func128 (by kernel_rfl) rfl,
   enters_of Tryz.func129 (by kernel_rfl) rfl,
   enters_of Tryz.func130 (by kernel_rfl) rfl,
   enters_of Tryz.func131 (by kernel_rfl) rfl,
   enters_of Tryz.func132 (by kernel_rfl) rfl,
   enters_of Tryz.func133 (by kernel_rfl) rfl,
   enters_of Tryz.func134 (by kernel_rfl) rfl,
   enters_of Tryz.func135 (by kernel_rfl) rfl,
   enters_of Tryz.func136 (by kernel_rfl) rfl,
   enters_of Tryz.func137 (by kernel_rfl) rfl,
   enters_of Tryz.func138 (by kernel_rfl) rfl,
   enters_of Tryz.func139 (by kernel_rfl) rfl,
   enters_of Tryz.func140 (by kernel_rfl) rfl,
   enters_of Tryz.func141 (by kernel_rfl) rfl,
   enters_of Tryz.func142 (by kernel_rfl) rfl,
   enters_of Tryz.func143 (by kernel_rfl) rfl,
   enters_of Tryz.func144 (by kernel_rfl) rfl,
   enters_of Tryz.func145 (by kernel_rfl) rfl,
   enters_of Tryz.func146 (by kernel_rfl) rfl,
   enters_of Tryz.func147 (by kernel_rfl) rfl,
   enters_of Tryz.func148 (by kernel_rfl) rfl,
   enters_of Tryz.func149 (by kernel_rfl) rfl,
   enters_of Tryz.func150 (by kernel_rfl) rfl,
   enters_of Tryz.func151 (by kernel_rfl) rfl,
   enters_of Tryz.func152 (by kernel_rfl) rfl,
   enters_of Tryz.func153 (by kernel_rfl) rfl,
   enters_of Tryz.func154 (by kernel_rfl) rfl,
   enters_of Tryz.func155 (by kernel_rfl) rfl,
   enters_of Tryz.func156 (by kernel_rfl) rfl,
   enters_of Tryz.func157 (by kernel_rfl) rfl,
   enters_of Tryz.func158 (by kernel_rfl) rfl,
   enters_of Tryz.func159 (by kernel_rfl) rfl,
   enters_of Tryz.func160 (by kernel_rfl) rfl,
   enters_of Tryz.func161 (by kernel_rfl) rfl,
   enters_of Tryz.func162 (by kernel_rfl) rfl,
   enters_of Tryz.func163 (by kernel_rfl) rfl,
   enters_of Tryz.func164 (by kernel_rfl) rfl,
   enters_of Tryz.func165 (by kernel_rfl) rfl,
   enters_of Tryz.func166 (by kernel_rfl) rfl,
   enters_of Tryz.func167 (by kernel_rfl) rfl,
   enters_of Tryz.func169 (by kernel_rfl) rfl,
   enters_of Tryz.func170 (by kernel_rfl) rfl,
   enters_of Tryz.func171 (by kernel_rfl) rfl,
   enters_of Tryz.func172 (by kernel_rfl) rfl,
   enters_of Tryz.func173 (by kernel_rfl) rfl,
   enters_of Tryz.func174 (by kernel_rfl) rfl,
   enters_of Tryz.func175 (by kernel_rfl) rfl,
   enters_of Tryz.func176 (by kernel_rfl) rfl,
   enters_of Tryz.func177 (by kernel_rfl) rfl,
   enters_of Tryz.func178 (by kernel_rfl) rfl,
   enters_of Tryz.func179 (by kernel_rfl) rfl,
   enters_of Tryz.func180 (by kernel_rfl) rfl, trivial⟩
theorem mixGood : Tryz.prog.follows .mixedOrders = true := by kernel_rfl
def tb : Tb Tryz.prog := { rows := rowsTab, good := rowsGood, fns := [3, 4, 5, 6, 7, 8, 9, 10, 11, 12, 13, 14, 15, 16, 17, 18, 19, 20, 21, 22, 23, 24, 25, 26, 27, 28, 29, 30, 31, 32, 33, 34, 35, 36, 37, 38, 39, 40, 41, 42, 43, 44, 45, 46, 47, 48, 49, 50, 51, 52, 53, 54, 55, 56, 57, 58, 59, 60, 61, 62, 63, 64, 65, 66, 67, 68, 69, 70, 71, 72, 73, 74, 75, 76, 77, 78, 79, 80, 81, 82, 83, 84, 85, 86, 87, 88, 89, 90, 91, 92, 93, 94, 95, 96, 97, 98, 99, 100, 101, 102, 103, 104, 105, 106, 107, 108, 109, 110, 111, 112, 113, 114, 115, 116, 117, 118, 119, 120, 121, 122, 123, 124, 125, 126, 127, 128, 129, 130, 131, 132, 133, 134, 135, 136, 137, 138, 139, 140, 141, 142, 143, 144, 145, 146, 147, 148, 149, 150, 151, 152, 153, 154, 155, 156, 157, 158, 159, 160, 161, 162, 163, 164, 165, 166, 167, 169, 170, 171, 172, 173, 174, 175, 176, 177, 178, 179, 180], fgood := fnsGood, mix := mixGood, deep := Nat.le_of_ble_eq_true (by kernel_rfl) }
end Go.Proofs.YtligngjcnlbgmaaGreat
set_option linter.unusedSimpArgs false
set_option linter.unusedVariables false
namespace Go.Proofs.YtligngjcnlbgmaaGreat
open Go.RowKit Go.Shelf
set_option maxRecDepth 100000
def u8V (x : Int) : List Value := [.int .u8 x]
theorem u8V_len (x : Int) : (u8V x).length = 1 := rfl
theorem fl_u8 (bs : List Int) : fl u8V bs = u8s bs := by
  unfold fl u8s
  induction bs with
  | nil => rfl
  | cons a l ih => simp only [List.map_cons, List.flatten_cons, ih]; rfl
def Byt (bs : List Int) : Prop := ∀ x ∈ bs, 0 ≤ x ∧ x ≤ 255
theorem rot_ok (x k s p q : Int) (h : andI .u64 (IntKind.u64.wrap k) 31 = s) (h0 : 0 < s) (h1 : s < 32) (hq : pw s.toNat = q) (hp : pw (32 - s).toNat = p) : CallP Tryz.prog 179 [.int .u32 x, .int .i64 k] (.int .u32 (rotr x p q)) := by
  refine enterP (tb := tb) Tryz.func179 rfl Tryz.ntmps179 rfl fun w => ?_
  have hs32 : s.toNat ≤ IntKind.u32.bits := by show s.toNat ≤ 32; omega
  have hs33 : (32 - s).toNat ≤ IntKind.u32.bits := by show (32 - s).toNat ≤ 32; omega
  repeat' (first | (apply R.is1; first | (apply R.isBin; (apply R.pure; exact rfl; first | (apply Ok1.andE; exact rfl; exact rfl; exact h) | (apply Ok1.subU; exact rfl; exact rfl; omega; omega) | (apply Ok1.shl; exact rfl; exact rfl; omega; exact hs32; exact hq) | (apply Ok1.shr; exact rfl; exact rfl; omega; exact hs33; exact hp) | (apply Ok1.orK; exact rfl; exact rfl))) | (apply R.pure; exact rfl; first | (apply Ok1.move; exact rfl) | (apply Ok1.assign; exact rfl) | (apply Ok1.conv; (iterate 5 exact rfl)))) | apply R.nil | (apply T.is; first | apply T.seq | apply T.region | apply T.ret))
  (apply RetOk.t; exact rfl)
  rfl
theorem turnedA_ok (x : Int) : CallP Tryz.prog 178 [.int .u32 x, .int .i64 6, .int .i64 11, .int .i64 25] (.int .u32 (turned x 64 67108864 2048 2097152 33554432 128)) := by
  refine enterP (tb := tb) Tryz.func178 rfl Tryz.ntmps178 rfl fun w => ?_
  repeat' (first | (apply R.is1; first | (apply R.isBin; (apply R.pure; exact rfl; (apply Ok1.xorK; exact rfl; exact rfl))) | (apply R.isCall; first | apply R.callP rfl rfl rfl (rot_ok x (IntKind.i64.wrap (0 - 6)) 26 64 67108864 (by decide +kernel) (by decide) (by decide) rfl rfl) | apply R.callP rfl rfl rfl (rot_ok x (IntKind.i64.wrap (0 - 11)) 21 2048 2097152 (by decide +kernel) (by decide) (by decide) rfl rfl) | apply R.callP rfl rfl rfl (rot_ok x (IntKind.i64.wrap (0 - 25)) 7 33554432 128 (by decide +kernel) (by decide) (by decide) rfl rfl)) | (apply R.pure; exact rfl; first | (apply Ok1.move; exact rfl) | (apply Ok1.assign; exact rfl) | (apply Ok1.neg; exact rfl))) | apply R.nil | (apply T.is; first | apply T.seq | apply T.region | apply T.ret))
  (apply RetOk.t; exact rfl)
  rfl
theorem turnedB_ok (x : Int) : CallP Tryz.prog 178 [.int .u32 x, .int .i64 2, .int .i64 13, .int .i64 22] (.int .u32 (turned x 4 1073741824 8192 524288 4194304 1024)) := by
  refine enterP (tb := tb) Tryz.func178 rfl Tryz.ntmps178 rfl fun w => ?_
  repeat' (first | (apply R.is1; first | (apply R.isBin; (apply R.pure; exact rfl; (apply Ok1.xorK; exact rfl; exact rfl))) | (apply R.isCall; first | apply R.callP rfl rfl rfl (rot_ok x (IntKind.i64.wrap (0 - 2)) 30 4 1073741824 (by decide +kernel) (by decide) (by decide) rfl rfl) | apply R.callP rfl rfl rfl (rot_ok x (IntKind.i64.wrap (0 - 13)) 19 8192 524288 (by decide +kernel) (by decide) (by decide) rfl rfl) | apply R.callP rfl rfl rfl (rot_ok x (IntKind.i64.wrap (0 - 22)) 10 4194304 1024 (by decide +kernel) (by decide) (by decide) rfl rfl)) | (apply R.pure; exact rfl; first | (apply Ok1.move; exact rfl) | (apply Ok1.assign; exact rfl) | (apply Ok1.neg; exact rfl))) | apply R.nil | (apply T.is; first | apply T.seq | apply T.region | apply T.ret))
  (apply RetOk.t; exact rfl)
  rfl
theorem table_ok : CallP Tryz.prog 177 [] (.agg ⟨u32s kI⟩) := by
  refine enterP (tb := tb) Tryz.func177 rfl Tryz.ntmps177 rfl fun w => ?_
  repeat' (first | (apply R.is1; first | (apply R.pure; exact rfl; (apply Ok1.buildA; (iterate 6 exact rfl))) | (apply R.alloc; (iterate 3 exact rfl); intro)) | (apply R.is0; (apply R.store; (iterate 6 exact rfl); exact Upd.head; exact rfl)) | apply R.nil | (apply T.is; first | apply T.seq | apply T.region | apply T.ret))
  (apply RetOk.c; exact rfl; ((apply Ld.ownk; exact rfl; exact rfl; exact At.head; exact rfl)))
  rfl
theorem begun_ok : CallP Tryz.prog 163 [] (.agg ⟨h0I.v⟩) := by
  refine enterP (tb := tb) Tryz.func163 rfl Tryz.ntmps163 rfl fun w => ?_
  repeat' (first | (apply R.is1; first | (apply R.pure; exact rfl; first | (apply Ok1.build; (iterate 5 exact rfl)) | (apply Ok1.buildA; (iterate 6 exact rfl))) | (apply R.alloc; (iterate 3 exact rfl); intro)) | (apply R.is0; (apply R.store; (iterate 6 exact rfl); exact Upd.head; exact rfl)) | apply R.nil | (apply T.is; first | apply T.seq | apply T.region | apply T.ret))
  (apply RetOk.c; exact rfl; ((apply Ld.ownk; exact rfl; exact rfl; exact At.head; exact rfl)))
  rfl
theorem byt_get {bs : List Int} (hb : Byt bs) {i : Nat} (h : i < bs.length) : ∃ x, bs[i]? = some x ∧ bs.getD i 0 = x ∧ 0 ≤ x ∧ x ≤ 255 := ⟨bs[i], List.getElem?_eq_getElem h, by simp [h], hb _ (List.getElem_mem h)⟩
theorem word_ok (p : Option Addr) (n cap : Nat) (bs : List Int) (hn : n = bs.length) (hl : 4 ≤ bs.length) (hb : Byt bs) (w : World) (hp : RdSl w p u8V bs) : CallW Tryz.prog 180 [.slice p n cap] w fun v _ => v = .int .u32 (wordI (bs.getD 0 0) (bs.getD 1 0) (bs.getD 2 0) (bs.getD 3 0)) := by
  subst hn
  obtain ⟨x0, h0, g0, l0, u0⟩ := byt_get hb (i := 0) (by omega)
  obtain ⟨x1, h1, g1, l1, u1⟩ := byt_get hb (i := 1) (by omega)
  obtain ⟨x2, h2, g2, l2, u2⟩ := byt_get hb (i := 2) (by omega)
  obtain ⟨x3, h3, g3, l3, u3⟩ := byt_get hb (i := 3) (by omega)
  rw [g0, g1, g2, g3]
  obtain ⟨b, o, hpe, H0⟩ := hp.at h0
  replace H0 := H0 1 u8V_len
  obtain ⟨b', o', hpe1, H1⟩ := hp.at h1
  replace H1 := H1 1 u8V_len
  rw [hpe] at hpe1; cases hpe1
  obtain ⟨b', o', hpe1, H2⟩ := hp.at h2
  replace H2 := H2 1 u8V_len
  rw [hpe] at hpe1; cases hpe1
  obtain ⟨b', o', hpe1, H3⟩ := hp.at h3
  replace H3 := H3 1 u8V_len
  rw [hpe] at hpe1; cases hpe1
  refine enterW (tb := tb) Tryz.func180 rfl Tryz.ntmps180 rfl ?_
  repeat' (first | (apply R.is1; (apply R.pure; exact rfl; (apply Ok1.assign; exact rfl))) | apply R.nil | (apply T.is; first | (apply T.drawC (id := 1) [] (by decide); ((apply A.take 0; exact rfl; exact rfl; kernel_rfl; kernel_rfl; kernel_rfl; (apply Ok1.move; exact rfl)) <;> (apply A.take 1; exact rfl; exact rfl; kernel_rfl; kernel_rfl; kernel_rfl; (apply Ok1.indexAddrP; (iterate 4 exact rfl); exact hpe; exact rfl; omega; omega)) <;> (apply A.take 2; exact rfl; exact rfl; kernel_rfl; kernel_rfl; kernel_rfl; (apply Ok1.load; exact rfl; apply Ld.row0 H0; exact rfl; exact List.not_mem_nil; (iterate 3 exact rfl))) <;> (apply A.take 3; exact rfl; exact rfl; kernel_rfl; kernel_rfl; kernel_rfl; (apply Ok1.convU32; (iterate 5 exact rfl); omega; omega)) <;> (apply A.take 4; exact rfl; exact rfl; kernel_rfl; kernel_rfl; kernel_rfl; (apply Ok1.shl; exact rfl; exact rfl; omega; exact Nat.le_of_ble_eq_true rfl; exact rfl)) <;> (apply A.take 5; exact rfl; exact rfl; kernel_rfl; kernel_rfl; kernel_rfl; (apply Ok1.move; exact rfl)) <;> (apply A.take 6; exact rfl; exact rfl; kernel_rfl; kernel_rfl; kernel_rfl; (apply Ok1.indexAddrP; (iterate 4 exact rfl); exact hpe; exact rfl; omega; omega)) <;> (apply A.take 7; exact rfl; exact rfl; kernel_rfl; kernel_rfl; kernel_rfl; (apply Ok1.load; exact rfl; apply Ld.row0 H1; exact rfl; exact List.not_mem_nil; (iterate 3 exact rfl))) <;> (apply A.take 8; exact rfl; exact rfl; kernel_rfl; kernel_rfl; kernel_rfl; (apply Ok1.convU32; (iterate 5 exact rfl); omega; omega)) <;> (apply A.take 9; exact rfl; exact rfl; kernel_rfl; kernel_rfl; kernel_rfl; (apply Ok1.shl; exact rfl; exact rfl; omega; exact Nat.le_of_ble_eq_true rfl; exact rfl)) <;> (apply A.take 10; exact rfl; exact rfl; kernel_rfl; kernel_rfl; kernel_rfl; (apply Ok1.orK; exact rfl; exact rfl)) <;> (apply A.take 11; exact rfl; exact rfl; kernel_rfl; kernel_rfl; kernel_rfl; (apply Ok1.move; exact rfl)) <;> (apply A.take 12; exact rfl; exact rfl; kernel_rfl; kernel_rfl; kernel_rfl; (apply Ok1.indexAddrP; (iterate 4 exact rfl); exact hpe; exact rfl; omega; omega)) <;> (apply A.take 13; exact rfl; exact rfl; kernel_rfl; kernel_rfl; kernel_rfl; (apply Ok1.load; exact rfl; apply Ld.row0 H2; exact rfl; exact List.not_mem_nil; (iterate 3 exact rfl))) <;> (apply A.take 14; exact rfl; exact rfl; kernel_rfl; kernel_rfl; kernel_rfl; (apply Ok1.convU32; (iterate 5 exact rfl); omega; omega)) <;> (apply A.take 15; exact rfl; exact rfl; kernel_rfl; kernel_rfl; kernel_rfl; (apply Ok1.shl; exact rfl; exact rfl; omega; exact Nat.le_of_ble_eq_true rfl; exact rfl)) <;> (apply A.take 16; exact rfl; exact rfl; kernel_rfl; kernel_rfl; kernel_rfl; (apply Ok1.orK; exact rfl; exact rfl)) <;> (apply A.take 17; exact rfl; exact rfl; kernel_rfl; kernel_rfl; kernel_rfl; (apply Ok1.move; exact rfl)) <;> (apply A.take 18; exact rfl; exact rfl; kernel_rfl; kernel_rfl; kernel_rfl; (apply Ok1.indexAddrP; (iterate 4 exact rfl); exact hpe; exact rfl; omega; omega)) <;> (apply A.take 19; exact rfl; exact rfl; kernel_rfl; kernel_rfl; kernel_rfl; (apply Ok1.load; exact rfl; apply Ld.row0 H3; exact rfl; exact List.not_mem_nil; (iterate 3 exact rfl))) <;> (apply A.take 20; exact rfl; exact rfl; kernel_rfl; kernel_rfl; kernel_rfl; (apply Ok1.convU32; (iterate 5 exact rfl); omega; omega)) <;> (apply A.take 21; exact rfl; exact rfl; kernel_rfl; kernel_rfl; kernel_rfl; (apply Ok1.orK; exact rfl; exact rfl)) <;> (apply A.take 22; exact rfl; exact rfl; kernel_rfl; kernel_rfl; kernel_rfl; (apply Ok1.assign; exact rfl)) <;> (apply A.done; kernel_rfl))) | apply T.seq | apply T.region | apply T.ret))
  (apply RetOk.t; exact rfl)
  exact congrArg _ (word_or ⟨l0, u0⟩ ⟨l1, u1⟩ ⟨l2, u2⟩ ⟨l3, u3⟩)
end Go.Proofs.YtligngjcnlbgmaaGreat
set_option linter.unusedSimpArgs false
set_option linter.unusedVariables false
namespace Go.Proofs.YtligngjcnlbgmaaGreat
open Go.RowKit Go.Shelf
set_option maxRecDepth 100000
theorem u32s_app (a b : List Int) : u32s (a ++ b) = u32s a ++ u32s b := by simp [u32s]
theorem u32s_one (a : List Int) : (u32s a).all Value.oneCell' = true := by rw [List.all_eq_true]; intro x hx; obtain ⟨y, _, rfl⟩ := List.mem_map.1 hx; rfl
theorem u32s_len (a : List Int) : (u32s a).length = a.length := by simp [u32s]
theorem arr_get {l : List Int} {zs : List Value} {k : Nat} (h : k < l.length) : (u32s l ++ zs)[0 + k * 1]? = some (.int .u32 (l.getD k 0)) := by
  rw [Nat.zero_add, Nat.mul_one, List.getElem?_append_left (by rw [u32s_len]; exact h)]
  simp [u32s, h]
theorem arr_put (l : List Int) (x : Int) (z : Value) {k : Nat} : setE (u32s l ++ List.replicate (k + 1) z) (0 + l.length * 1) [.int .u32 x] = some (u32s (l ++ [x]) ++ List.replicate k z) := by
  have := setE_mid (u32s l) (vs := [.int .u32 x]) (junk := List.replicate (k + 1) z) (by simp)
  rw [u32s_len] at this
  rw [Nat.zero_add, Nat.mul_one, this, u32s_app]
  rfl
theorem spread_ok (p : Option Addr) (n cap : Nat) (b : List Int) (hn : n = b.length) (hl : b.length = 64) (hcap : n ≤ cap) (hb : Byt b) (w : World) (hp : RdSl w p u8V b) : CallW Tryz.prog 176 [.slice p n cap] w fun v _ => v = .agg ⟨u32s (schedI b 64)⟩ := by
  refine enterW (tb := tb) Tryz.func176 rfl Tryz.ntmps176 rfl ?_
  repeat' (first | (apply R.is1; first | (apply R.pure; exact rfl; (apply Ok1.move; exact rfl)) | (apply R.alloc; (iterate 3 exact rfl); intro)) | apply R.nil | (apply T.is; first | apply T.seq | apply T.region | apply T.block))
  rename_i b2 b3
  apply T.loopK (α := Nat) (I := fun i => i ≤ 64) (σi := fun i => [(0, .slice p n cap), (2, .pointer (some ⟨b2, 0, none⟩)), (3, .pointer (some ⟨b3, 0, none⟩)), (9, .int .i64 i)]) (Li := fun i => [(b3, .cells ⟨u32s (schedI b i) ++ List.replicate (64 - i) (.int .u32 0)⟩ 31 (0, 0)), (b2, .cells ⟨List.replicate 64 (.int .u32 0)⟩ 31 (0, 0))]) (μ := fun i => 64 - i) (i0 := 0)
  · exact Nat.zero_le _
  · exact ⟨rfl, rfl, rfl, rfl, trivial⟩
  · (focus ((repeat' (first | exact Keep.nil _ | exact Ext.one _ _ | apply Keep.cons)); done))
  · intro i hi
    have hsl := sched_len b i
    have hsn : schedI b (i + 1) = schedI b i ++ [nextI b (schedI b i)] := rfl
    have hnx : nextI b (schedI b i) = nextI b (schedI b i) := rfl
    conv at hnx => rhs; unfold nextI
    generalize hleq : schedI b i = l at *
    rcases Nat.lt_or_ge i 64 with hlt | hge
    · obtain ⟨k, hk⟩ : ∃ k, 64 - i = k + 1 := ⟨63 - i, by omega⟩
      have hput := fun x => arr_put l x (.int .u32 0) (k := k)
      rw [hsl] at hput
      rw [hk]
      rcases Nat.lt_or_ge i 16 with h16 | h16
      · rw [if_pos (by omega), hsl] at hnx
        have hwd : ∀ w1, Chg [] w w1 → CallW Tryz.prog 180 [.slice (sufP p cap (4 * i) 1) (n - 4 * i) (cap - 4 * i)] w1 fun v _ => v = .int .u32 (nextI b l) := by
          intro w1 hc
          have := word_ok (sufP p cap (4 * i) 1) (n - 4 * i) (cap - 4 * i) (b.drop (4 * i)) (by rw [List.length_drop, hn]) (by rw [List.length_drop]; omega) (fun x hx => hb x (List.mem_of_mem_drop hx)) w1 ((hp.suf u8V_len (by omega) (by omega)).chg hc (Off.nil _))
          rw [hnx]
          simpa only [List.getD_eq_getElem?_getD, List.getElem?_drop, Nat.add_zero] using this
        repeat' (first | (apply R.is1; first | (apply R.isBin; (apply R.pure; exact rfl; first | (apply Ok1.add64; exact rfl; exact rfl; omega; omega) | (apply Ok1.lss_t; exact rfl; exact rfl; omega) | (apply Ok1.mul64; exact rfl; exact rfl; omega; omega))) | (apply R.isCall; (apply R.callV; (iterate 3 exact rfl); intro w1 hw1; exact hwd w1 hw1.chg)) | (apply R.pure; exact rfl; first | (apply Ok1.sufR (i := 4 * i) (sz := 1); (iterate 6 exact rfl); omega; omega) | (apply Ok1.move; exact rfl) | (apply Ok1.assign; exact rfl) | (apply Ok1.indexAddrA; (iterate 5 exact rfl); omega; omega))) | (apply R.is0; (apply R.store; (iterate 6 exact rfl); exact Upd.head; exact hput _)) | apply R.nil | (apply T.is; first | apply T.seq | apply T.region | apply T.block | apply T.skip | apply T.exit | (apply T.cond_t; exact rfl)))
        refine ⟨i + 1, by omega, by omega, ⟨rfl, rfl, rfl, rfl, trivial⟩, ?_⟩
        rw [hsn, show 64 - (i + 1) = k by omega]
        (focus ((repeat' (first | exact Keep.nil _ | exact Ext.one _ _ | apply Keep.cons)); done))
      · rw [if_neg (by omega), hsl] at hnx
        have e15 : ((i : Int) - 15).toNat = i - 15 := by omega
        have e2 : ((i : Int) - 2).toNat = i - 2 := by omega
        have e16 : ((i : Int) - 16).toNat = i - 16 := by omega
        have e7 : ((i : Int) - 7).toNat = i - 7 := by omega
        have g15 : (u32s l ++ List.replicate (k + 1) (.int .u32 0))[0 + ((i : Int) - 15).toNat * 1]? = some (.int .u32 (l.getD (i - 15) 0)) := by rw [e15]; exact arr_get (by omega)
        have g2 : (u32s l ++ List.replicate (k + 1) (.int .u32 0))[0 + ((i : Int) - 2).toNat * 1]? = some (.int .u32 (l.getD (i - 2) 0)) := by rw [e2]; exact arr_get (by omega)
        have g16 : (u32s l ++ List.replicate (k + 1) (.int .u32 0))[0 + ((i : Int) - 16).toNat * 1]? = some (.int .u32 (l.getD (i - 16) 0)) := by rw [e16]; exact arr_get (by omega)
        have g7 : (u32s l ++ List.replicate (k + 1) (.int .u32 0))[0 + ((i : Int) - 7).toNat * 1]? = some (.int .u32 (l.getD (i - 7) 0)) := by rw [e7]; exact arr_get (by omega)
        generalize l.getD (i - 15) 0 = x15 at *
        generalize l.getD (i - 2) 0 = x2 at *
        generalize l.getD (i - 16) 0 = x16 at *
        generalize l.getD (i - 7) 0 = x7 at *
        repeat' (first | (apply R.is1; first | (apply R.isBin; (apply R.pure; exact rfl; first | (apply Ok1.xorK; exact rfl; exact rfl) | (apply Ok1.add64; exact rfl; exact rfl; omega; omega) | (apply Ok1.lss_t; exact rfl; exact rfl; omega) | (apply Ok1.lss_f; exact rfl; exact rfl; omega) | (apply Ok1.shr; exact rfl; exact rfl; omega; exact Nat.le_of_ble_eq_true rfl; (first | exact pwE3 | exact rfl)))) | (apply R.isCall; first | apply R.callP rfl rfl rfl (rot_ok x15 (-7) 25 128 33554432 (by decide +kernel) (by decide) (by decide) rfl rfl) | apply R.callP rfl rfl rfl (rot_ok x15 (-18) 14 262144 16384 (by decide +kernel) (by decide) (by decide) rfl rfl) | apply R.callP rfl rfl rfl (rot_ok x2 (-17) 15 131072 32768 (by decide +kernel) (by decide) (by decide) rfl rfl) | apply R.callP rfl rfl rfl (rot_ok x2 (-19) 13 524288 8192 (by decide +kernel) (by decide) (by decide) rfl rfl)) | (apply R.pure; exact rfl; first | (apply Ok1.move; exact rfl) | (apply Ok1.assign; exact rfl))) | apply R.nil | (apply T.is; first | (apply T.drawC (id := 7) [0] (by decide); ((apply A.take 0; exact rfl; exact rfl; kernel_rfl; kernel_rfl; kernel_rfl; (apply Ok1.move; exact rfl)) <;> (apply A.take 1; exact rfl; exact rfl; kernel_rfl; kernel_rfl; kernel_rfl; (apply Ok1.sub64; exact rfl; exact rfl; omega; omega)) <;> (apply A.take 2; exact rfl; exact rfl; kernel_rfl; kernel_rfl; kernel_rfl; (apply Ok1.indexAddrA; (iterate 5 exact rfl); omega; omega)) <;> (apply A.take 3; exact rfl; exact rfl; kernel_rfl; kernel_rfl; kernel_rfl; (apply Ok1.load; exact rfl; apply Ld.own1; exact rfl; exact rfl; exact At.head; with_reducible (exact g15))) <;> (apply A.take 4; exact rfl; exact rfl; kernel_rfl; kernel_rfl; kernel_rfl; (apply Ok1.move; exact rfl)) <;> (apply A.take 5; exact rfl; exact rfl; kernel_rfl; kernel_rfl; kernel_rfl; (apply Ok1.sub64; exact rfl; exact rfl; omega; omega)) <;> (apply A.take 6; exact rfl; exact rfl; kernel_rfl; kernel_rfl; kernel_rfl; (apply Ok1.indexAddrA; (iterate 5 exact rfl); omega; omega)) <;> (apply A.take 7; exact rfl; exact rfl; kernel_rfl; kernel_rfl; kernel_rfl; (apply Ok1.load; exact rfl; apply Ld.own1; exact rfl; exact rfl; exact At.head; with_reducible (exact g2))) <;> (apply A.take 8; exact rfl; exact rfl; kernel_rfl; kernel_rfl; kernel_rfl; (apply Ok1.assign; exact rfl)) <;> (apply A.take 9; exact rfl; exact rfl; kernel_rfl; kernel_rfl; kernel_rfl; (apply Ok1.assign; exact rfl)) <;> (apply A.done; kernel_rfl))) | (apply T.drawC (id := 10) [] (by decide); ((apply A.take 0; exact rfl; exact rfl; kernel_rfl; kernel_rfl; kernel_rfl; (apply Ok1.move; exact rfl)) <;> (apply A.take 1; exact rfl; exact rfl; kernel_rfl; kernel_rfl; kernel_rfl; (apply Ok1.move; exact rfl)) <;> (apply A.take 2; exact rfl; exact rfl; kernel_rfl; kernel_rfl; kernel_rfl; (apply Ok1.sub64; exact rfl; exact rfl; omega; omega)) <;> (apply A.take 3; exact rfl; exact rfl; kernel_rfl; kernel_rfl; kernel_rfl; (apply Ok1.indexAddrA; (iterate 5 exact rfl); omega; omega)) <;> (apply A.take 5; exact rfl; exact rfl; kernel_rfl; kernel_rfl; kernel_rfl; (apply Ok1.move; exact rfl)) <;> (apply A.take 7; exact rfl; exact rfl; kernel_rfl; kernel_rfl; kernel_rfl; (apply Ok1.move; exact rfl)) <;> (apply A.take 8; exact rfl; exact rfl; kernel_rfl; kernel_rfl; kernel_rfl; (apply Ok1.sub64; exact rfl; exact rfl; omega; omega)) <;> (apply A.take 9; exact rfl; exact rfl; kernel_rfl; kernel_rfl; kernel_rfl; (apply Ok1.indexAddrA; (iterate 5 exact rfl); omega; omega)) <;> (apply A.take 12; exact rfl; exact rfl; kernel_rfl; kernel_rfl; kernel_rfl; (apply Ok1.move; exact rfl)) <;> (apply A.two 4 10; kernel_rfl; exact rfl; exact rfl; rotate_left 1; (focus (((((apply R.pure; exact rfl; (apply Ok1.load; exact rfl; apply Ld.own1; exact rfl; exact rfl; exact At.head; with_reducible (exact g7))))); apply R.nil; refine ⟨?_, ?_⟩; (focus ((repeat' (exact trivial))))) <;> (apply A.one 4; kernel_rfl; exact rfl; (((apply R.pure; exact rfl; (apply Ok1.load; exact rfl; apply Ld.own1; exact rfl; exact rfl; exact At.head; with_reducible (exact g16))))); apply R.nil; refine ⟨?_, ?_⟩; (focus ((repeat' (exact trivial))))) <;> (apply A.take 6; exact rfl; exact rfl; kernel_rfl; kernel_rfl; kernel_rfl; (apply Ok1.add32; exact rfl; exact rfl)) <;> (apply A.take 11; exact rfl; exact rfl; kernel_rfl; kernel_rfl; kernel_rfl; (apply Ok1.add32; exact rfl; exact rfl)) <;> (apply A.take 13; exact rfl; exact rfl; kernel_rfl; kernel_rfl; kernel_rfl; (apply Ok1.add32; exact rfl; exact rfl)) <;> (apply A.take 14; exact rfl; exact rfl; kernel_rfl; kernel_rfl; kernel_rfl; (apply Ok1.indexAddrA; (iterate 5 exact rfl); omega; omega)) <;> (apply A.one 15; kernel_rfl; exact rfl; (((apply R.store; (iterate 6 exact rfl); exact Upd.head; exact hput _))); apply R.nil; refine ⟨?_, ?_⟩; (focus ((repeat' (exact trivial))))) <;> (apply A.done; kernel_rfl))); rotate_right 1; (focus (((((apply R.pure; exact rfl; (apply Ok1.load; exact rfl; apply Ld.own1; exact rfl; exact rfl; exact At.head; with_reducible (exact g16))))); apply R.nil; refine ⟨?_, ?_⟩; (focus ((repeat' (exact trivial))))) <;> (apply A.take 6; exact rfl; exact rfl; kernel_rfl; kernel_rfl; kernel_rfl; (apply Ok1.add32; exact rfl; exact rfl)) <;> (apply A.one 10; kernel_rfl; exact rfl; (((apply R.pure; exact rfl; (apply Ok1.load; exact rfl; apply Ld.own1; exact rfl; exact rfl; exact At.head; with_reducible (exact g7))))); apply R.nil; refine ⟨?_, ?_⟩; (focus ((repeat' (exact trivial))))) <;> (apply A.take 11; exact rfl; exact rfl; kernel_rfl; kernel_rfl; kernel_rfl; (apply Ok1.add32; exact rfl; exact rfl)) <;> (apply A.take 13; exact rfl; exact rfl; kernel_rfl; kernel_rfl; kernel_rfl; (apply Ok1.add32; exact rfl; exact rfl)) <;> (apply A.take 14; exact rfl; exact rfl; kernel_rfl; kernel_rfl; kernel_rfl; (apply Ok1.indexAddrA; (iterate 5 exact rfl); omega; omega)) <;> (apply A.one 15; kernel_rfl; exact rfl; (((apply R.store; (iterate 6 exact rfl); exact Upd.head; exact hput _))); apply R.nil; refine ⟨?_, ?_⟩; (focus ((repeat' (exact trivial))))) <;> (apply A.done; kernel_rfl)))))) | apply T.seq | apply T.region | apply T.block | apply T.skip | (apply T.cond_t; exact rfl) | (apply T.cond_f; exact rfl)))
        all_goals refine ⟨i + 1, by omega, by omega, ⟨rfl, rfl, rfl, rfl, trivial⟩, ?_⟩
        all_goals rw [hsn, hnx, show 64 - (i + 1) = k by omega]
        all_goals (focus ((repeat' (first | exact Keep.nil _ | exact Ext.one _ _ | apply Keep.cons)); done))
    · have him : i = 64 := by omega
      subst him
      rw [Nat.sub_self, List.replicate_zero, List.append_nil]
      rw [hleq]
      have hls := u32s_len l
      rw [hsl] at hls
      have hsub := subE_all hls
      have hset : ∀ cs : List Value, cs.length = 64 → setE cs 0 (u32s l) = some (u32s l) := fun cs h => setE_all (by rw [hls, h])
      have hone := u32s_one l
      generalize u32s l = us at *
      repeat' (first | (apply R.is1; first | (apply R.isBin; (apply R.pure; exact rfl; (apply Ok1.lss_f; exact rfl; exact rfl; omega))) | (apply R.pure; exact rfl; (apply Ok1.load; exact rfl; apply Ld.ownk; exact rfl; exact rfl; exact At.head; exact hsub))) | (apply R.is0; (apply R.store; (iterate 4 exact rfl); exact hls; exact hone; (focus ((repeat' (first | exact Upd.head | apply Upd.tail)); done)); exact hset _ rfl)) | apply R.nil | (apply T.is; first | apply T.seq | apply T.region | apply T.exit | apply T.ret | (apply T.cond_f; exact rfl)))
      apply RetOk.c
      exact rfl
      apply Ld.ownk
      exact rfl
      exact rfl
      (focus ((repeat' (first | exact At.head | apply At.tail)); done))
      exact hsub
      rfl
end Go.Proofs.YtligngjcnlbgmaaGreat
set_option linter.unusedSimpArgs false
set_option linter.unusedVariables false
namespace Go.Proofs.YtligngjcnlbgmaaGreat
open Go.RowKit Go.Shelf
set_option maxRecDepth 100000
/-- What a block's rounds hold. -/
theorem mix_ok (r : Nat) (s : H8) (rest : List Value) (e : TypeId) (p : Option Addr) (n cap : Nat) (b : List Int) (hn : n = b.length) (hl : b.length = 64) (hcap : n ≤ cap) (hb : Byt b) (w : World) (hp : RdSl w p u8V b) (hoff : Off p [r]) :
    CallM Tryz.prog 174 [.pointer (some ⟨r, 0, none⟩), .slice p n cap] [(r, .cells ⟨s.v ++ rest⟩ e (0, 0))] w fun v L => v = .tuple #[] ∧ L = [(r, .cells ⟨(mixI kI b s).v ++ rest⟩ e (0, 0))] := by
  refine enterK (tb := tb) Tryz.func174 rfl Tryz.ntmps174 rfl ?_
  have hls := u32s_len (schedI b 64)
  have hsl := sched_len b 64
  rw [hsl] at hls
  have hset : ∀ cs : List Value, cs.length = 64 → setE cs 0 (u32s (schedI b 64)) = some (u32s (schedI b 64)) := fun cs h => setE_all (by rw [hls, h])
  have hgw : ∀ i, i < 64 → (u32s (schedI b 64))[0 + i * 1]? = some (.int .u32 ((schedI b 64).getD i 0)) := fun i hi => by have := arr_get (l := schedI b 64) (zs := []) (k := i) (by omega); rwa [List.append_nil] at this
  have hgk : ∀ i, i < 64 → (u32s kI)[0 + i * 1]? = some (.int .u32 (kI.getD i 0)) := fun i hi => by have := arr_get (l := kI) (zs := []) (k := i) (by rw [kI_len]; exact hi); rwa [List.append_nil] at this
  have hmix : mixI kI b s = addH s (roundsI kI (schedI b 64) s 64) := rfl
  have hr0 : roundsI kI (schedI b 64) s 0 = s := rfl
  have hrs : ∀ i, roundsI kI (schedI b 64) s (i + 1) = stepI (roundsI kI (schedI b 64) s i) (kI.getD i 0) ((schedI b 64).getD i 0) := fun _ => rfl
  have hset2 : ∀ cs : List Value, cs.length = 64 → setE cs 0 (u32s kI) = some (u32s kI) := fun cs h => setE_all (by rw [u32s_len, kI_len, h])
  have hspr : ∀ w1, Chg [r] w w1 → CallW Tryz.prog 176 [.slice p n cap] w1 fun v _ => v = .agg ⟨u32s (schedI b 64)⟩ := fun w1 hc => spread_ok p n cap b hn hl hcap hb w1 (hp.chg hc hoff)
  have htab := table_ok
  have hsv : subE (s.v ++ rest) 0 8 = some s.v := subE_app _ _ rfl
  have hset8 : ∀ cs : List Value, cs.length = 8 → setE cs 0 s.v = some s.v := fun cs h => setE_all (by rw [h]; rfl)
  have hone := u32s_one (schedI b 64)
  have hone2 := u32s_one kI
  have hkl : (u32s kI).length = 64 := by rw [u32s_len, kI_len]
  generalize hK : u32s kI = ks at *
  generalize roundsI kI (schedI b 64) s = rs at *
  generalize hW : u32s (schedI b 64) = us at *
  repeat' (first | (apply R.is1; first | (apply R.isCall; first | (apply R.callV; (iterate 3 exact rfl); intro w1 hw1; exact hspr w1 hw1.chg) | apply R.callP rfl rfl rfl htab) | (apply R.pure; exact rfl; first | (apply Ok1.load; exact rfl; apply Ld.ownk; exact rfl; exact rfl; (focus ((repeat' (first | exact At.head | apply At.tail)); done)); exact hsv) | (apply Ok1.move; exact rfl) | (apply Ok1.fieldAddr; (iterate 5 exact rfl)) | (apply Ok1.assign; exact rfl) | (apply Ok1.nilCheck; exact rfl)) | (apply R.alloc; (iterate 3 exact rfl); intro)) | (apply R.is0; first | (apply R.store; (iterate 4 exact rfl); exact hls; exact hone; (focus ((repeat' (first | exact Upd.head | apply Upd.tail)); done)); exact hset _ rfl) | (apply R.store; (iterate 4 exact rfl); exact hkl; exact hone2; exact Upd.head; exact hset2 _ rfl) | (apply R.store; (iterate 6 exact rfl); exact Upd.head; exact hset8 _ rfl)) | apply R.nil | (apply T.is; first | apply T.seq | apply T.region | apply T.block))
  rename_i b4 b5 b6
  apply T.loopK (α := Nat) (I := fun i => i ≤ 64) (σi := fun i => [(0, .pointer (some ⟨r, 0, none⟩)), (4, .pointer (some ⟨b4, 0, none⟩)), (5, .pointer (some ⟨b5, 0, none⟩)), (6, .pointer (some ⟨b6, 0, none⟩)), (7, .func (.func 178) #[] #[]), (19, .int .i64 i)])
    (Li := fun i => [(b6, .cells ⟨(rs i).v⟩ 32 (0, 0)), (b5, .cells ⟨ks⟩ 31 (0, 0)), (b4, .cells ⟨us⟩ 31 (0, 0)), (r, .cells ⟨s.v ++ rest⟩ e (0, 0))]) (μ := fun i => 64 - i) (i0 := 0)
  · exact Nat.zero_le _
  · exact ⟨rfl, rfl, rfl, rfl, rfl, rfl, trivial⟩
  · rw [hr0]; (focus ((repeat' (first | exact Keep.nil _ | exact Ext.one _ _ | apply Keep.cons)); done))
  · intro i hi
    rcases Nat.lt_or_ge i 64 with hlt | hge
    · have g1 := hgk i hlt
      have g2 := hgw i hlt
      have hst := hrs i
      generalize kI.getD i 0 = ki at *
      generalize (schedI b 64).getD i 0 = wi at *
      generalize rs i = st at *
      repeat' (first | (apply R.is1; first | (apply R.isBin; (apply R.pure; exact rfl; first | (apply Ok1.add32; exact rfl; exact rfl) | (apply Ok1.add64; exact rfl; exact rfl; omega; omega) | (apply Ok1.lss_t; exact rfl; exact rfl; omega))) | (apply R.pure; exact rfl; first | (apply Ok1.move; exact rfl) | (apply Ok1.load; exact rfl; (apply Ld.own1; exact rfl; exact rfl; exact At.head; exact rfl)) | (apply Ok1.assign; exact rfl) | (apply Ok1.indexAddrA; (iterate 5 exact rfl); omega; omega) | (apply Ok1.buildA; (iterate 6 exact rfl)))) | (apply R.is0; (apply R.store; (iterate 6 exact rfl); exact Upd.head; exact setE_all rfl)) | apply R.nil | (apply T.is; first | (apply T.drawC (id := 6) [0,1,2] (by decide); (((apply A.take 0; exact rfl; exact rfl; kernel_rfl; kernel_rfl; kernel_rfl; (apply Ok1.indexAddrA; (iterate 5 exact rfl); omega; omega)); refine A.cast (listed' := #[true, false, false, false, false, false, false, false, false, false, false, false, false, false, false, false, false, false, false, false, false, false, false, false, false, false, false, false, false]) (by kernel_rfl) ?_) <;> ((apply A.take 1; exact rfl; exact rfl; kernel_rfl; kernel_rfl; kernel_rfl; (apply Ok1.load; exact rfl; (apply Ld.own1; exact rfl; exact rfl; exact At.head; exact rfl))); refine A.cast (listed' := #[true, true, false, false, false, false, false, false, false, false, false, false, false, false, false, false, false, false, false, false, false, false, false, false, false, false, false, false, false]) (by kernel_rfl) ?_) <;> ((apply A.take 2; exact rfl; exact rfl; kernel_rfl; kernel_rfl; kernel_rfl; (apply Ok1.move; exact rfl)); refine A.cast (listed' := #[true, true, true, false, false, false, false, false, false, false, false, false, false, false, false, false, false, false, false, false, false, false, false, false, false, false, false, false, false]) (by kernel_rfl) ?_) <;> ((apply A.take 3; exact rfl; exact rfl; kernel_rfl; kernel_rfl; kernel_rfl; (apply Ok1.indexAddrA; (iterate 5 exact rfl); omega; omega)); refine A.cast (listed' := #[true, true, true, true, false, false, false, false, false, false, false, false, false, false, false, false, false, false, false, false, false, false, false, false, false, false, false, false, false]) (by kernel_rfl) ?_) <;> ((apply A.take 4; exact rfl; exact rfl; kernel_rfl; kernel_rfl; kernel_rfl; (apply Ok1.load; exact rfl; (apply Ld.own1; exact rfl; exact rfl; exact At.head; exact rfl))); refine A.cast (listed' := #[true, true, true, true, true, false, false, false, false, false, false, false, false, false, false, false, false, false, false, false, false, false, false, false, false, false, false, false, false]) (by kernel_rfl) ?_) <;> ((apply A.take 7; exact rfl; exact rfl; kernel_rfl; kernel_rfl; kernel_rfl; (apply Ok1.indexAddrA; (iterate 5 exact rfl); omega; omega)); refine A.cast (listed' := #[true, true, true, true, true, false, false, true, false, false, false, false, false, false, false, false, false, false, false, false, false, false, false, false, false, false, false, false, false]) (by kernel_rfl) ?_) <;> ((apply A.take 8; exact rfl; exact rfl; kernel_rfl; kernel_rfl; kernel_rfl; (apply Ok1.load; exact rfl; (apply Ld.own1; exact rfl; exact rfl; exact At.head; exact rfl))); refine A.cast (listed' := #[true, true, true, true, true, false, false, true, true, false, false, false, false, false, false, false, false, false, false, false, false, false, false, false, false, false, false, false, false]) (by kernel_rfl) ?_) <;> ((apply A.take 9; exact rfl; exact rfl; kernel_rfl; kernel_rfl; kernel_rfl; (apply Ok1.indexAddrA; (iterate 5 exact rfl); omega; omega)); refine A.cast (listed' := #[true, true, true, true, true, false, false, true, true, true, false, false, false, false, false, false, false, false, false, false, false, false, false, false, false, false, false, false, false]) (by kernel_rfl) ?_) <;> ((apply A.take 10; exact rfl; exact rfl; kernel_rfl; kernel_rfl; kernel_rfl; (apply Ok1.load; exact rfl; (apply Ld.own1; exact rfl; exact rfl; exact At.head; exact rfl))); refine A.cast (listed' := #[true, true, true, true, true, false, false, true, true, true, true, false, false, false, false, false, false, false, false, false, false, false, false, false, false, false, false, false, false]) (by kernel_rfl) ?_) <;> ((apply A.take 11; exact rfl; exact rfl; kernel_rfl; kernel_rfl; kernel_rfl; (apply Ok1.andK; exact rfl; exact rfl)); refine A.cast (listed' := #[true, true, true, true, true, false, false, true, true, true, true, true, false, false, false, false, false, false, false, false, false, false, false, false, false, false, false, false, false]) (by kernel_rfl) ?_) <;> ((apply A.take 12; exact rfl; exact rfl; kernel_rfl; kernel_rfl; kernel_rfl; (apply Ok1.indexAddrA; (iterate 5 exact rfl); omega; omega)); refine A.cast (listed' := #[true, true, true, true, true, false, false, true, true, true, true, true, true, false, false, false, false, false, false, false, false, false, false, false, false, false, false, false, false]) (by kernel_rfl) ?_) <;> ((apply A.take 13; exact rfl; exact rfl; kernel_rfl; kernel_rfl; kernel_rfl; (apply Ok1.load; exact rfl; (apply Ld.own1; exact rfl; exact rfl; exact At.head; exact rfl))); refine A.cast (listed' := #[true, true, true, true, true, false, false, true, true, true, true, true, true, true, false, false, false, false, false, false, false, false, false, false, false, false, false, false, false]) (by kernel_rfl) ?_) <;> ((apply A.take 14; exact rfl; exact rfl; kernel_rfl; kernel_rfl; kernel_rfl; (apply Ok1.cplK; exact rfl; exact rfl)); refine A.cast (listed' := #[true, true, true, true, true, false, false, true, true, true, true, true, true, true, true, false, false, false, false, false, false, false, false, false, false, false, false, false, false]) (by kernel_rfl) ?_) <;> ((apply A.take 15; exact rfl; exact rfl; kernel_rfl; kernel_rfl; kernel_rfl; (apply Ok1.indexAddrA; (iterate 5 exact rfl); omega; omega)); refine A.cast (listed' := #[true, true, true, true, true, false, false, true, true, true, true, true, true, true, true, true, false, false, false, false, false, false, false, false, false, false, false, false, false]) (by kernel_rfl) ?_) <;> ((apply A.take 16; exact rfl; exact rfl; kernel_rfl; kernel_rfl; kernel_rfl; (apply Ok1.load; exact rfl; (apply Ld.own1; exact rfl; exact rfl; exact At.head; exact rfl))); refine A.cast (listed' := #[true, true, true, true, true, false, false, true, true, true, true, true, true, true, true, true, true, false, false, false, false, false, false, false, false, false, false, false, false]) (by kernel_rfl) ?_) <;> ((apply A.take 17; exact rfl; exact rfl; kernel_rfl; kernel_rfl; kernel_rfl; (apply Ok1.andK; exact rfl; exact rfl)); refine A.cast (listed' := #[true, true, true, true, true, false, false, true, true, true, true, true, true, true, true, true, true, true, false, false, false, false, false, false, false, false, false, false, false]) (by kernel_rfl) ?_) <;> ((apply A.take 18; exact rfl; exact rfl; kernel_rfl; kernel_rfl; kernel_rfl; (apply Ok1.xorK; exact rfl; exact rfl)); refine A.cast (listed' := #[true, true, true, true, true, false, false, true, true, true, true, true, true, true, true, true, true, true, true, false, false, false, false, false, false, false, false, false, false]) (by kernel_rfl) ?_) <;> ((apply A.take 20; exact rfl; exact rfl; kernel_rfl; kernel_rfl; kernel_rfl; (apply Ok1.move; exact rfl)); refine A.cast (listed' := #[true, true, true, true, true, false, false, true, true, true, true, true, true, true, true, true, true, true, true, false, true, false, false, false, false, false, false, false, false]) (by kernel_rfl) ?_) <;> ((apply A.take 21; exact rfl; exact rfl; kernel_rfl; kernel_rfl; kernel_rfl; (apply Ok1.indexAddrA; (iterate 5 exact rfl); omega; omega)); refine A.cast (listed' := #[true, true, true, true, true, false, false, true, true, true, true, true, true, true, true, true, true, true, true, false, true, true, false, false, false, false, false, false, false]) (by kernel_rfl) ?_) <;> ((apply A.take 22; exact rfl; exact rfl; kernel_rfl; kernel_rfl; kernel_rfl; (apply Ok1.load; exact rfl; apply Ld.own1; exact rfl; exact rfl; (focus ((repeat' (first | exact At.head | apply At.tail)); done)); exact g1)); refine A.cast (listed' := #[true, true, true, true, true, false, false, true, true, true, true, true, true, true, true, true, true, true, true, false, true, true, true, false, false, false, false, false, false]) (by kernel_rfl) ?_) <;> ((apply A.take 24; exact rfl; exact rfl; kernel_rfl; kernel_rfl; kernel_rfl; (apply Ok1.move; exact rfl)); refine A.cast (listed' := #[true, true, true, true, true, false, false, true, true, true, true, true, true, true, true, true, true, true, true, false, true, true, true, false, true, false, false, false, false]) (by kernel_rfl) ?_) <;> ((apply A.take 25; exact rfl; exact rfl; kernel_rfl; kernel_rfl; kernel_rfl; (apply Ok1.indexAddrA; (iterate 5 exact rfl); omega; omega)); refine A.cast (listed' := #[true, true, true, true, true, false, false, true, true, true, true, true, true, true, true, true, true, true, true, false, true, true, true, false, true, true, false, false, false]) (by kernel_rfl) ?_) <;> ((apply A.take 26; exact rfl; exact rfl; kernel_rfl; kernel_rfl; kernel_rfl; (apply Ok1.load; exact rfl; apply Ld.own1; exact rfl; exact rfl; (focus ((repeat' (first | exact At.head | apply At.tail)); done)); exact g2)); refine A.cast (listed' := #[true, true, true, true, true, false, false, true, true, true, true, true, true, true, true, true, true, true, true, false, true, true, true, false, true, true, true, false, false]) (by kernel_rfl) ?_) <;> (apply A.one 5; kernel_rfl; exact rfl; (((apply R.callFP (fa := []) (cb := []); (iterate 4 exact rfl); exact turnedA_ok _))); apply R.nil; refine ⟨?_, ?_⟩; (focus ((repeat' (first | exact trivial | (refine ⟨?_, ?_⟩; (focus ((repeat' (first | exact At.head | apply At.tail)); done)))))))) <;> ((apply A.take 6; exact rfl; exact rfl; kernel_rfl; kernel_rfl; kernel_rfl; (apply Ok1.add32; exact rfl; exact rfl)); refine A.cast (listed' := #[true, true, true, true, true, true, true, true, true, true, true, true, true, true, true, true, true, true, true, false, true, true, true, false, true, true, true, false, false]) (by kernel_rfl) ?_) <;> ((apply A.take 19; exact rfl; exact rfl; kernel_rfl; kernel_rfl; kernel_rfl; (apply Ok1.add32; exact rfl; exact rfl)); refine A.cast (listed' := #[true, true, true, true, true, true, true, true, true, true, true, true, true, true, true, true, true, true, true, true, true, true, true, false, true, true, true, false, false]) (by kernel_rfl) ?_) <;> ((apply A.take 23; exact rfl; exact rfl; kernel_rfl; kernel_rfl; kernel_rfl; (apply Ok1.add32; exact rfl; exact rfl)); refine A.cast (listed' := #[true, true, true, true, true, true, true, true, true, true, true, true, true, true, true, true, true, true, true, true, true, true, true, true, true, true, true, false, false]) (by kernel_rfl) ?_) <;> ((apply A.take 27; exact rfl; exact rfl; kernel_rfl; kernel_rfl; kernel_rfl; (apply Ok1.add32; exact rfl; exact rfl)); refine A.cast (listed' := #[true, true, true, true, true, true, true, true, true, true, true, true, true, true, true, true, true, true, true, true, true, true, true, true, true, true, true, true, false]) (by kernel_rfl) ?_) <;> ((apply A.take 28; exact rfl; exact rfl; kernel_rfl; kernel_rfl; kernel_rfl; (apply Ok1.assign; exact rfl)); refine A.cast (listed' := #[true, true, true, true, true, true, true, true, true, true, true, true, true, true, true, true, true, true, true, true, true, true, true, true, true, true, true, true, true]) (by kernel_rfl) ?_) <;> (apply A.done; kernel_rfl))) | (apply T.drawC (id := 7) [0,1,2] (by decide); ((apply A.take 0; exact rfl; exact rfl; kernel_rfl; kernel_rfl; kernel_rfl; (apply Ok1.move; exact rfl)) <;> (apply A.take 1; exact rfl; exact rfl; kernel_rfl; kernel_rfl; kernel_rfl; (apply Ok1.indexAddrA; (iterate 5 exact rfl); omega; omega)) <;> (apply A.take 2; exact rfl; exact rfl; kernel_rfl; kernel_rfl; kernel_rfl; (apply Ok1.load; exact rfl; (apply Ld.own1; exact rfl; exact rfl; exact At.head; exact rfl))) <;> (apply A.take 4; exact rfl; exact rfl; kernel_rfl; kernel_rfl; kernel_rfl; (apply Ok1.indexAddrA; (iterate 5 exact rfl); omega; omega)) <;> (apply A.take 5; exact rfl; exact rfl; kernel_rfl; kernel_rfl; kernel_rfl; (apply Ok1.load; exact rfl; (apply Ld.own1; exact rfl; exact rfl; exact At.head; exact rfl))) <;> (apply A.take 6; exact rfl; exact rfl; kernel_rfl; kernel_rfl; kernel_rfl; (apply Ok1.indexAddrA; (iterate 5 exact rfl); omega; omega)) <;> (apply A.take 7; exact rfl; exact rfl; kernel_rfl; kernel_rfl; kernel_rfl; (apply Ok1.load; exact rfl; (apply Ld.own1; exact rfl; exact rfl; exact At.head; exact rfl))) <;> (apply A.take 8; exact rfl; exact rfl; kernel_rfl; kernel_rfl; kernel_rfl; (apply Ok1.andK; exact rfl; exact rfl)) <;> (apply A.take 9; exact rfl; exact rfl; kernel_rfl; kernel_rfl; kernel_rfl; (apply Ok1.indexAddrA; (iterate 5 exact rfl); omega; omega)) <;> (apply A.take 10; exact rfl; exact rfl; kernel_rfl; kernel_rfl; kernel_rfl; (apply Ok1.load; exact rfl; (apply Ld.own1; exact rfl; exact rfl; exact At.head; exact rfl))) <;> (apply A.take 11; exact rfl; exact rfl; kernel_rfl; kernel_rfl; kernel_rfl; (apply Ok1.indexAddrA; (iterate 5 exact rfl); omega; omega)) <;> (apply A.take 12; exact rfl; exact rfl; kernel_rfl; kernel_rfl; kernel_rfl; (apply Ok1.load; exact rfl; (apply Ld.own1; exact rfl; exact rfl; exact At.head; exact rfl))) <;> (apply A.take 13; exact rfl; exact rfl; kernel_rfl; kernel_rfl; kernel_rfl; (apply Ok1.andK; exact rfl; exact rfl)) <;> (apply A.take 14; exact rfl; exact rfl; kernel_rfl; kernel_rfl; kernel_rfl; (apply Ok1.xorK; exact rfl; exact rfl)) <;> (apply A.take 15; exact rfl; exact rfl; kernel_rfl; kernel_rfl; kernel_rfl; (apply Ok1.indexAddrA; (iterate 5 exact rfl); omega; omega)) <;> (apply A.take 16; exact rfl; exact rfl; kernel_rfl; kernel_rfl; kernel_rfl; (apply Ok1.load; exact rfl; (apply Ld.own1; exact rfl; exact rfl; exact At.head; exact rfl))) <;> (apply A.take 17; exact rfl; exact rfl; kernel_rfl; kernel_rfl; kernel_rfl; (apply Ok1.indexAddrA; (iterate 5 exact rfl); omega; omega)) <;> (apply A.take 18; exact rfl; exact rfl; kernel_rfl; kernel_rfl; kernel_rfl; (apply Ok1.load; exact rfl; (apply Ld.own1; exact rfl; exact rfl; exact At.head; exact rfl))) <;> (apply A.take 19; exact rfl; exact rfl; kernel_rfl; kernel_rfl; kernel_rfl; (apply Ok1.andK; exact rfl; exact rfl)) <;> (apply A.take 20; exact rfl; exact rfl; kernel_rfl; kernel_rfl; kernel_rfl; (apply Ok1.xorK; exact rfl; exact rfl)) <;> (apply A.one 3; kernel_rfl; exact rfl; (((apply R.callFP (fa := []) (cb := []); (iterate 4 exact rfl); exact turnedB_ok _))); apply R.nil; refine ⟨?_, ?_⟩; (focus ((repeat' (first | exact trivial | (refine ⟨?_, ?_⟩; (focus ((repeat' (first | exact At.head | apply At.tail)); done)))))))) <;> (apply A.take 21; exact rfl; exact rfl; kernel_rfl; kernel_rfl; kernel_rfl; (apply Ok1.add32; exact rfl; exact rfl)) <;> (apply A.take 22; exact rfl; exact rfl; kernel_rfl; kernel_rfl; kernel_rfl; (apply Ok1.assign; exact rfl)) <;> (apply A.done; kernel_rfl))) | apply T.seq | apply T.region | apply T.block | apply T.skip | (apply T.cond_t; exact rfl)))
      refine ⟨i + 1, by omega, by omega, ⟨rfl, rfl, rfl, rfl, rfl, rfl, trivial⟩, ?_⟩
      rw [hst]
      (focus ((repeat' (first | exact Keep.nil _ | exact Ext.one _ _ | apply Keep.cons)); done))
    · have him : i = 64 := by omega
      subst him
      rw [hmix]
      generalize rs 64 = t at *
      clear hset hset2 hgk hgw hspr
      simp only [H8.v, H8.l, u32s, List.map_cons, List.map_nil, List.cons_append, List.nil_append]
      repeat' (first | (apply R.is1; first | (apply R.isBin; (apply R.pure; exact rfl; first | (apply Ok1.add64; exact rfl; exact rfl; omega; omega) | (apply Ok1.lss_t; exact rfl; exact rfl; omega) | (apply Ok1.lss_f; exact rfl; exact rfl; omega))) | (apply R.pure; exact rfl; first | (apply Ok1.move; exact rfl) | (apply Ok1.assign; exact rfl))) | apply R.nil | (apply T.is; first | apply T.rounds 9 | (apply T.drawC (id := 13) [0] (by decide); ((apply A.take 0; exact rfl; exact rfl; kernel_rfl; kernel_rfl; kernel_rfl; (apply Ok1.move; exact rfl)) <;> (apply A.take 1; exact rfl; exact rfl; kernel_rfl; kernel_rfl; kernel_rfl; (apply Ok1.move; exact rfl)) <;> (apply A.take 2; exact rfl; exact rfl; kernel_rfl; kernel_rfl; kernel_rfl; (apply Ok1.nilCheck; exact rfl)) <;> (apply A.take 3; exact rfl; exact rfl; kernel_rfl; kernel_rfl; kernel_rfl; (apply Ok1.fieldAddr; (iterate 5 exact rfl))) <;> (apply A.take 4; exact rfl; exact rfl; kernel_rfl; kernel_rfl; kernel_rfl; (apply Ok1.indexAddrA; (iterate 5 exact rfl); omega; omega)) <;> (apply A.take 6; exact rfl; exact rfl; kernel_rfl; kernel_rfl; kernel_rfl; (apply Ok1.move; exact rfl)) <;> (apply A.take 7; exact rfl; exact rfl; kernel_rfl; kernel_rfl; kernel_rfl; (apply Ok1.indexAddrA; (iterate 5 exact rfl); omega; omega)) <;> (apply A.take 8; exact rfl; exact rfl; kernel_rfl; kernel_rfl; kernel_rfl; (apply Ok1.load; exact rfl; (apply Ld.own1; exact rfl; exact rfl; exact At.head; exact rfl))) <;> (apply A.take 10; exact rfl; exact rfl; kernel_rfl; kernel_rfl; kernel_rfl; (apply Ok1.nilCheck; exact rfl)) <;> (apply A.take 11; exact rfl; exact rfl; kernel_rfl; kernel_rfl; kernel_rfl; (apply Ok1.fieldAddr; (iterate 5 exact rfl))) <;> (apply A.one 5; kernel_rfl; exact rfl; (((apply R.pure; exact rfl; (apply Ok1.load; exact rfl; (apply Ld.own1; exact rfl; exact rfl; (focus ((repeat' (first | exact At.head | apply At.tail)); done)); exact rfl))))); apply R.nil; refine ⟨?_, ?_⟩; (focus ((repeat' (first | exact trivial | (refine ⟨?_, ?_⟩; exact At.head)))))) <;> (apply A.take 9; exact rfl; exact rfl; kernel_rfl; kernel_rfl; kernel_rfl; (apply Ok1.add32; exact rfl; exact rfl)) <;> (apply A.take 12; exact rfl; exact rfl; kernel_rfl; kernel_rfl; kernel_rfl; (apply Ok1.indexAddrA; (iterate 5 exact rfl); omega; omega)) <;> (apply A.one 13; kernel_rfl; exact rfl; ((first | (apply R.store; (iterate 6 exact rfl); (focus ((repeat' (first | exact Upd.head | apply Upd.tail)); done)); exact rfl) | (apply R.store; (iterate 6 exact rfl); (focus ((repeat' (first | exact Upd.head | apply Upd.tail)); done)); exact setE_one (by simp only [List.length_cons]; omega)))); apply R.nil; refine ⟨?_, ?_⟩; (focus ((repeat' (first | exact trivial | (refine ⟨?_, ?_⟩; exact At.head)))))) <;> (apply A.done; kernel_rfl))) | apply T.seq | apply T.region | apply T.block | apply T.skip | apply T.exit | (apply T.cond_t; exact rfl) | (apply T.cond_f; exact rfl)))
      all_goals (apply RetOk.n)
      all_goals refine ⟨_, ?_, rfl, rfl⟩
      all_goals (focus ((repeat' (first | exact Keep.nil _ | exact Ext.one _ _ | apply Keep.cons | apply Ext.cons)); done))
end Go.Proofs.YtligngjcnlbgmaaGreat
set_option linter.unusedSimpArgs false
set_option linter.unusedVariables false
namespace Go.Proofs.YtligngjcnlbgmaaGreat
open Go.RowKit Go.Shelf
set_option maxRecDepth 100000
theorem u8s_app (a b : List Int) : u8s (a ++ b) = u8s a ++ u8s b := by simp [u8s]
theorem u8s_len (a : List Int) : (u8s a).length = a.length := by simp [u8s]
theorem u8s_one (a : List Int) : (u8s a).all Value.oneCell' = true := by rw [List.all_eq_true]; intro x hx; obtain ⟨y, _, rfl⟩ := List.mem_map.1 hx; rfl
theorem Byt.app {a b : List Int} (h1 : Byt a) (h2 : Byt b) : Byt (a ++ b) := fun x hx => by rcases List.mem_append.1 hx with h | h; exact h1 x h; exact h2 x h
theorem Byt.drop {a : List Int} (h : Byt a) (i : Nat) : Byt (a.drop i) := fun x hx => h x (List.mem_of_mem_drop hx)
theorem Byt.take {a : List Int} (h : Byt a) (i : Nat) : Byt (a.take i) := fun x hx => h x (List.mem_of_mem_take hx)
/-- p' reads as p does, from k on. -/
structure Sfx (p p' : Option Addr) (n k : Nat) : Prop where
  rd : ∀ (W : World) (xs : List Int), xs.length = n → RdSl W p u8V xs → RdSl W p' u8V (xs.drop k)
  off : ∀ S, Off p S → Off p' S
theorem Sfx.refl (p : Option Addr) (n : Nat) : Sfx p p n 0 := ⟨fun W xs _ h => h, fun _ h => h⟩
theorem Sfx.suf {p p' : Option Addr} {n k c i : Nat} (h : Sfx p p' n k) (h1 : k + i ≤ n) (h2 : n - k ≤ c) : Sfx p (sufP p' c i 1) n (k + i) :=
  ⟨fun W xs hl hp => by
    have := (h.rd W xs hl hp).suf u8V_len (cap := c) (i := i) (by rw [List.length_drop]; omega) (by rw [List.length_drop]; omega)
    rwa [List.drop_drop] at this, fun S ho => (h.off S ho).suf _ _ _⟩
theorem allI_step (b : List Int) (s : H8) {i : Nat} (h : 64 * i + 64 ≤ b.length) : allI kI (i + 1) b s = mixI kI ((b.drop (64 * i)).take 64) (allI kI i b s) := by
  induction i generalizing b s with
  | zero => rfl
  | succ i ih =>
    rw [allI, ih (b.drop 64) (mixI kI (b.take 64) s) (by rw [List.length_drop]; omega), List.drop_drop, show 64 + 64 * i = 64 * (i + 1) by omega]
    rfl
theorem all_ok (r : Nat) (s : H8) (rest : List Value) (e : TypeId) (p : Option Addr) (n cap : Nat) (b : List Int) (hn : n = b.length) (hcap : n ≤ cap) (hbig : n ≤ 1073741824) (hb : Byt b) (w : World) (hp : RdSl w p u8V b) (hoff : Off p [r]) :
    CallM Tryz.prog 164 [.pointer (some ⟨r, 0, none⟩), .slice p n cap] [(r, .cells ⟨s.v ++ rest⟩ e (0, 0))] w fun v L => ∃ p' cap', v = .slice p' (n - 64 * (n / 64)) cap' ∧ n - 64 * (n / 64) ≤ cap' ∧ Sfx p p' n (64 * (n / 64)) ∧ L = [(r, .cells ⟨(allI kI (n / 64) b s).v ++ rest⟩ e (0, 0))] := by
  refine enterK (tb := tb) Tryz.func164 rfl Tryz.ntmps164 rfl ?_
  repeat' (first | (apply R.is1; (apply R.pure; exact rfl; (apply Ok1.assign; exact rfl))) | apply R.nil | (apply T.is; first | apply T.seq | apply T.region | apply T.block))
  apply T.loopK (α := Nat × Option Addr × Nat) (I := fun x => 64 * x.1 ≤ n ∧ n - 64 * x.1 ≤ x.2.2 ∧ Sfx p x.2.1 n (64 * x.1)) (σi := fun x => [(0, .pointer (some ⟨r, 0, none⟩)), (1, .slice x.2.1 (n - 64 * x.1) x.2.2)]) (Li := fun x => [(r, .cells ⟨(allI kI x.1 b s).v ++ rest⟩ e (0, 0))]) (μ := fun x => n - 64 * x.1) (i0 := (0, p, cap))
  · exact ⟨by omega, by simpa using hcap, Sfx.refl p n⟩
  · exact ⟨rfl, rfl, trivial⟩
  · (focus ((repeat' (first | exact Keep.nil _ | exact Ext.one _ _ | apply Keep.cons)); done))
  · rintro ⟨i, p1, c1⟩ ⟨hi, hc, hs⟩
    simp only at hi hc hs ⊢
    by_cases hlt : 64 * i + 64 ≤ n
    · have hst := allI_step b s (i := i) (by omega)
      have hmix : ∀ w1, Chg [r] w w1 → CallM Tryz.prog 174 [.pointer (some ⟨r, 0, none⟩), .slice p1 64 c1] [(r, .cells ⟨(allI kI i b s).v ++ rest⟩ e (0, 0))] w1 fun v L => v = .tuple #[] ∧ L = [(r, .cells ⟨(allI kI (i + 1) b s).v ++ rest⟩ e (0, 0))] := by
        intro w1 hch
        rw [hst]
        have hrd := (hs.rd w1 b hn.symm (hp.chg hch hoff)).pre u8V_len 64
        exact mix_ok r _ rest e p1 64 c1 ((b.drop (64 * i)).take 64) (by rw [List.length_take, List.length_drop]; omega) (by rw [List.length_take, List.length_drop]; omega) (by omega) ((hb.drop _).take _) w1 hrd (hs.off _ hoff)
      have hnew : Sfx p (sufP p1 c1 64 1) n (64 * i + 64) := hs.suf (by omega) (by omega)
      repeat' (first | (apply R.is1; first | (apply R.isBin; (apply R.pure; exact rfl; (apply Ok1.geq_t; exact rfl; exact rfl; omega))) | (apply R.isCall; first | (apply R.callE; (iterate 3 exact rfl); exact Ext.all _; intro w1 hw1; exact hmix w1 hw1.chg; rintro v Lo ⟨rfl, rfl⟩) | (apply R.pure; exact rfl; (apply Ok1.lenS; (iterate 3 exact rfl)))) | (apply R.pure; exact rfl; first | (apply Ok1.preR (i := 64); (iterate 5 exact rfl); omega) | (apply Ok1.sufR (i := 64) (sz := 1); (iterate 6 exact rfl); omega; omega) | (apply Ok1.move; exact rfl) | (apply Ok1.assign; exact rfl))) | apply R.nil | (apply T.is; first | apply T.seq | apply T.region | apply T.block | apply T.skip | (apply T.cond_t; exact rfl)))
      refine ⟨(i + 1, sufP p1 c1 64 1, c1 - 64), ⟨by simp only; omega, by simp only; omega, hnew⟩, by simp only; omega, ⟨rfl, ?_, trivial⟩, by (focus ((repeat' (first | exact Keep.nil _ | exact Ext.one _ _ | apply Keep.cons)); done))⟩
      rw [show n - 64 * (i + 1) = n - 64 * i - 64 by omega]
      rfl
    · have hdiv : n / 64 = i := by omega
      repeat' (first | (apply R.is1; first | (apply R.isBin; (apply R.pure; exact rfl; (apply Ok1.geq_f; exact rfl; exact rfl; omega))) | (apply R.isCall; (apply R.pure; exact rfl; (apply Ok1.lenS; (iterate 3 exact rfl)))) | (apply R.pure; exact rfl; first | (apply Ok1.move; exact rfl) | (apply Ok1.assign; exact rfl))) | apply R.nil | (apply T.is; first | apply T.seq | apply T.region | apply T.exit | apply T.ret | (apply T.cond_f; exact rfl)))
      (apply RetOk.t; exact rfl)
      refine ⟨_, ?_, p1, c1, by rw [hdiv], by rw [hdiv]; exact hc, by rw [hdiv]; exact hs, rfl⟩
      rw [hdiv]
      (focus ((repeat' (first | exact Keep.nil _ | exact Ext.one _ _ | apply Keep.cons)); done))
end Go.Proofs.YtligngjcnlbgmaaGreat
