/- Slices of rows that are only read; a slice of one's own with rows of one kind. -/
import Derived.Test.YtdfdfohfnjefiaaEng12
set_option linter.unusedSimpArgs false
set_option linter.unusedVariables false
set_option linter.unusedSectionVars false
namespace Go.Proofs.Ytdfdfohfnjefiaa
open Go.RowKit Go.Shelf

def fl {α : Type} (v : α → List Value) (rs : List α) : List Value := (rs.map v).flatten
section
variable {α : Type} {v : α → List Value} {sz : Nat} {rs : List α}
theorem fl_len (hv : ∀ a, (v a).length = sz) (rs : List α) : (fl v rs).length = rs.length * sz := by
  induction rs with
  | nil => simp [fl]
  | cons a rs ih => simp only [fl, List.map_cons, List.flatten_cons, List.length_append, List.length_cons] at ih ⊢; rw [hv, ih, Nat.add_mul]; omega
theorem fl_get (hv : ∀ a, (v a).length = sz) : ∀ {rs : List α} {i : Nat} {a : α} {k : Nat}, rs[i]? = some a → k < sz → (fl v rs)[i * sz + k]? = (v a)[k]?
  | [], i, a, k, h, _ => by simp at h
  | b :: rs, 0, a, k, h, hk => by
    simp only [List.getElem?_cons_zero, Option.some.injEq] at h
    subst h
    simp only [fl, List.map_cons, List.flatten_cons, Nat.zero_mul, Nat.zero_add]
    exact List.getElem?_append_left (by rw [hv]; exact hk)
  | b :: rs, i + 1, a, k, h, hk => by
    simp only [List.getElem?_cons_succ] at h
    have := fl_get hv h hk
    simp only [fl, List.map_cons, List.flatten_cons] at this ⊢
    rw [List.getElem?_append_right (by rw [hv, Nat.add_mul]; omega), hv, ← this]
    congr 1
    rw [Nat.add_mul]; omega
theorem fl_snoc (a : α) : fl v (rs ++ [a]) = fl v rs ++ v a := by simp [fl]
theorem fl_take {i : Nat} {a : α} (h : rs[i]? = some a) : fl v (rs.take (i + 1)) = fl v (rs.take i) ++ v a := by
  rw [List.take_add_one, h, Option.toList_some, fl_snoc]
theorem fl_take0 : fl v (rs.take 0) = [] := by simp [fl]
theorem fl_append (l m : List α) : fl v (l ++ m) = fl v l ++ fl v m := by simp [fl]
end

/-- In world w the slice with this base holds the rows rs (one of none has any base). -/
def RdSl {α : Type} (w : World) (p : Option Addr) (v : α → List Value) (rs : List α) : Prop :=
  rs = [] ∨ ∃ b o, p = some ⟨b, o, none⟩ ∧ ∀ k, k < (fl v rs).length → w.cell? ⟨b, o + k, none⟩ = (fl v rs)[k]?
/-- Its block is none of these. -/
def Off (p : Option Addr) (S : List Nat) : Prop := ∀ a, p = some a → a.block ∉ S
theorem RdSl.at {α : Type} {w : World} {p : Option Addr} {v : α → List Value} {rs : List α} (h : RdSl w p v rs) {i : Nat} {a : α} (hi : rs[i]? = some a) :
    ∃ b o, p = some ⟨b, o, none⟩ ∧ ∀ sz, (∀ a, (v a).length = sz) → ∀ k, k < sz → w.cell? ⟨b, o + (i * sz + k), none⟩ = (v a)[k]? := by
  rcases h with rfl | ⟨b, o, hp, h⟩
  · simp at hi
  · refine ⟨b, o, hp, fun sz hv k hk => ?_⟩
    rw [h _ (by
      rw [fl_len hv]
      have := (List.getElem?_eq_some_iff.1 hi).1
      have := Nat.mul_le_mul_right sz this
      rw [Nat.succ_mul] at this
      omega), fl_get hv hi hk]

section
variable {X : Cx} {σ : Env} {L : Lst} {ty t e : TypeId} {pos : String} {af : Array Edge} {d : Option Nat} {g : Option (Nat × Bool)} {x y : Operand} {r re : TRow} {i : Int} {k : IntKind}
/-- An element's address, of a slice whose base is known by name. -/
theorem Ok1.indexAddrP {p : Option Addr} {b o n cap : Nat} (ht : X.tb.row t = some r) (hk : r.k = .slice e) (he : X.tb.row e = some re) (hx : ev σ x = some (.slice p n cap)) (hp : p = some ⟨b, o, none⟩) (hy : ev σ y = some (.int k i)) (h0 : 0 ≤ i) (h1 : i < n) :
    Ok1 X ⟨d, .indexAddr t x y, ty, pos, af, g⟩ σ L (.pointer (some ⟨b, o + i.toNat * re.size, none⟩)) := by
  subst hp; exact Ok1.indexAddr ht hk he hx hy h0 h1
/-- A row's one part, and a row (or a part of many cells). H: what the cells of the row hold. -/
theorem Ld.row1 {b o j sz f n : Nat} {vs : List Value} {v : Value} (H : ∀ k, k < n → X.w0.cell? ⟨b, o + (j * sz + k), none⟩ = vs[k]?) (hl : vs.length = n) (hS : b ∉ X.S) (ht : X.tb.row t = some r) (hk : r.k.agg = some false) (hf : vs[f]? = some v) : Ld X L t ⟨b, o + j * sz + f, none⟩ v :=
  .old1 ht hk (by rw [Nat.add_assoc, H f (hl ▸ (List.getElem?_eq_some_iff.1 hf).1)]; exact hf) hS
theorem Ld.row0 {b o j sz n : Nat} {vs : List Value} {v : Value} (H : ∀ k, k < n → X.w0.cell? ⟨b, o + (j * sz + k), none⟩ = vs[k]?) (hl : vs.length = n) (hS : b ∉ X.S) (ht : X.tb.row t = some r) (hk : r.k.agg = some false) (hf : vs[0]? = some v) : Ld X L t ⟨b, o + j * sz, none⟩ v :=
  .row1 (f := 0) H hl hS ht hk hf
theorem Ld.rowk {b o j sz f n : Nat} {vs us : List Value} (H : ∀ k, k < n → X.w0.cell? ⟨b, o + (j * sz + k), none⟩ = vs[k]?) (hl : vs.length = n) (hS : b ∉ X.S) (ht : X.tb.row t = some r) (hk : r.k.agg = some true) (hf : subE vs f r.size = some us) : Ld X L t ⟨b, o + j * sz + f, none⟩ (.agg ⟨us⟩) := by
  obtain ⟨h1, h2⟩ := subE_spec hf
  refine .oldk ht hk h1 (fun i hi => ?_) hS
  have h3 := h2 i hi
  have hlt : f + i < n := by
    rcases Nat.lt_or_ge (f + i) vs.length with h | h
    · omega
    · rw [List.getElem?_eq_none h, List.getElem?_eq_getElem (by omega)] at h3; cases h3
  rw [show o + j * sz + f + i = o + (j * sz + (f + i)) by omega, H _ hlt, h3]
theorem Ld.rowk0 {b o j sz n : Nat} {vs us : List Value} (H : ∀ k, k < n → X.w0.cell? ⟨b, o + (j * sz + k), none⟩ = vs[k]?) (hl : vs.length = n) (hS : b ∉ X.S) (ht : X.tb.row t = some r) (hk : r.k.agg = some true) (hf : subE vs 0 r.size = some us) : Ld X L t ⟨b, o + j * sz, none⟩ (.agg ⟨us⟩) :=
  .rowk (f := 0) H hl hS ht hk hf
end
/-- append of the first elements of an own block to an own slice. -/
theorem R.append1 {X : Cx} {σ : Env} {L L1 : Lst} {dd b2 m cap2 n : Nat} {ty t t2 e e2 : TypeId} {pos : String} {af : Array Edge} {x y : Operand} {r r2 re : TRow} {all : Array Oper} {rest : List Oper} {K : Env → Lst → Prop} {s : Value} {old news zc cs : List Value} {te : TypeId} {fz : Nat × Nat}
    (hn : Nat.blt dd X.n = true) (ht : X.tb.row t = some r) (hk : r.k = .slice e) (he : X.tb.row e = some re) (hz : cellsE re.zero = some zc) (hzl : zc.length = re.size) (ht2 : X.tb.row t2 = some r2) (hk2 : r2.k = .slice e2) (hb1 : Nat.ble 1 re.bytes = true) (hb2 : Nat.ble re.bytes 65536 = true)
    (hx : ev σ x = some s) (hy : ev σ y = some (.slice (some ⟨b2, 0, none⟩) m cap2)) (ho : OwnAt e re.size L s n old L1) (hat : At L b2 (.cells ⟨cs⟩ te fz)) (hsub : subE cs 0 (m * re.size) = some news)
    (h1 : news.all Value.oneCell' = true) (hm : 1 ≤ m) (hbig : n + m ≤ 1073741824)
    (h : ∀ b' j' junk', junk'.length = j' * re.size → R X all rest K ((dd, .slice (some ⟨b', 0, none⟩) (n + m) (n + m + j')) :: σ) ((b', .cells ⟨old ++ news ++ junk'⟩ e (0, 0)) :: L1)) :
    R X all (⟨some dd, .call { callee := .builtin .append, args := #[x, y], argTypes := #[t, t2] }, ty, pos, af, none⟩ :: rest) K σ L := by
  have hl := (subE_spec hsub).1
  refine R.append hn ht hk he hz hzl ht2 hk2 hb1 hx hy rfl ho (fun w hw => Holds.own hat (hl ▸ hsub) hw) hl h1 hm ?_ h
  have h3 := Nat.le_of_ble_eq_true hb2
  have := Nat.mul_le_mul (show 2 * (n + m) + 768 ≤ 2147484416 by omega) h3
  omega
/-- An own slice's rows, seen by one who is called. -/
theorem RdSl.own {α : Type} {v : α → List Value} {e sz : Nat} {ov : Ov} {rs : List α} {w0 w : World} {S : List Nat} {L : Lst} (hw : Hp w0 S L w) (hb : ∀ x ∈ blkL e ov (fl v rs), x ∈ L) (hok : OvOk sz ov rs.length (fl v rs)) (hv : ∀ a, (v a).length = sz) :
    RdSl w (match ov with | none => none | some (b, _, _) => some ⟨b, 0, none⟩) v rs := by
  cases ov with
  | none =>
    left
    have := hok.2
    simpa using this
  | some q =>
    obtain ⟨b, j, junk⟩ := q
    right
    refine ⟨b, 0, rfl, fun k hk => ?_⟩
    have := hw.get b (.cells ⟨fl v rs ++ junk⟩ e (0, 0)) (hb _ (by simp [blkL]))
    simp only [World.cell?, this]
    simp [hk, List.getElem?_append_left]
section
variable {X : Cx} {σ : Env} {L C : Lst} {all : Array Oper} {rest : List Oper} {K : Env → Lst → Prop} {op : Op} {type : TypeId} {pos : String} {after : Array Edge} {j dj : Nat} {want : Bool}
theorem Mod.unyielded {n : Nat} {a : Act} (ha : Mod n a σ) (hj : (all[j]?).bind (·.dst) = some dj) (hb : look σ dj = some undef) : Go.yielded all a.tmps j = none := by
  have := ha.ok dj undef hb
  simp only [Array.getD] at this
  by_cases hlt : dj < a.tmps.size
  · rw [dif_pos hlt] at this
    have h2 : a.tmps[dj]? = some undef := by rw [Array.getElem?_eq_getElem hlt]; exact congrArg some this
    simp [Go.yielded, hj, h2, undef]
  · have h2 : a.tmps[dj]? = none := Array.getElem?_eq_none (by omega)
    simp [Go.yielded, hj, h2]
/-- An operation whose guard was itself passed by. -/
theorem R.guard_un {dst : Nat} (hj : (all[j]?).bind (·.dst) = some dj) (hb : look σ dj = some undef) (hn : Nat.blt dst X.n = true) (h1 : R X all rest K ((dst, undef) :: σ) L) :
    R X all ({ dst := some dst, op := op, type := type, pos := pos, after := after, guard := some (j, want) } :: rest) K σ L :=
  ⟨fun a w ha hw => by
    have hy := ha.unyielded hj hb
    unfold wpList
    have hw' : Region.wanted { dst := some dst, op := op, type := type, pos := pos, after := after, guard := some (j, want) } (yielded all a.tmps) = false := by simp only [Region.wanted, hy]; rfl
    rw [hw']
    exact h1.run _ _ (ha.put (blt_lt hn) undef) hw⟩
theorem R.guard_un0 (hj : (all[j]?).bind (·.dst) = some dj) (hb : look σ dj = some undef) (h1 : R X all rest K σ L) :
    R X all ({ dst := none, op := op, type := type, pos := pos, after := after, guard := some (j, want) } :: rest) K σ L :=
  ⟨fun a w ha hw => by
    have hy := ha.unyielded hj hb
    unfold wpList
    have hw' : Region.wanted { dst := none, op := op, type := type, pos := pos, after := after, guard := some (j, want) } (yielded all a.tmps) = false := by simp only [Region.wanted, hy]; rfl
    rw [hw']
    exact h1.run _ _ ha hw⟩
theorem A.skipU (i : Nat) {d fuel : Nat} {listed : Array Bool} (hi : all[i]? = some ⟨some d, op, type, pos, after, some (j, want)⟩) (hn : Nat.blt d X.n = true) (hs : Region.noSelect all = true) (hf : Region.free .any all listed i = true) (hr : (Region.ready .any all listed).contains i = true)
    (hj : (all[j]?).bind (·.dst) = some dj) (hb : look σ dj = some undef)
    (h : A X all C fuel (listed.setIfInBounds i true) K ((d, undef) :: σ) L) : A X all C (fuel + 1) listed K σ L :=
  ⟨fun a w ha hw hC => wpAnyH_take (v := undef) hi hs hf hr (fun c a w => Cx.liftK_panic c _ _ w) (.inr ⟨by simp only [Region.wanted, ha.unyielded hj hb]; rfl, rfl⟩) hC (h.run _ _ (ha.put (blt_lt hn) undef) hw hC)⟩
end
end Go.Proofs.Ytdfdfohfnjefiaa
