/- Texts of the proof: Eng21, Eng24, Eng26, Eng31, Eng20, Eng30, Eng15, Eng22, Tab, C1, C2, C3a, C4, Eng25, S0, Dg1, Dg4, Dg5, Dg6, Dg7, Eng28. -/
import Derived.Test.YtplhnkmmhndkjaaGreatL25cb1
import Derived.RangeFuncRecord
import Derived.TacticsIn
import Derived.OrdersIn
import Derived.ProofKit
import Derived.Deep.Slices
import Derived.OpenShut
import Derived.Test.YtplhnkmmhndkjaaGreatProg
import Derived.Lib.ConvBytes
set_option linter.unusedSimpArgs false
set_option linter.unusedVariables false
set_option linter.unusedSectionVars false
namespace Go.Proofs.YtplhnkmmhndkjaaGreat
open Go.RowKit Go.Shelf
theorem Holds.ov {w0 w : World} {S : List Nat} {L : Lst} {e2 sz m : Nat} {ov2 : Ov} {xs : List Value} (hok : OvOk sz ov2 m xs) (hb : ∀ x ∈ blkL e2 ov2 xs, x ∈ L) (hw : Hp w0 S L w) : Holds w (slV ov2 m) xs := by
  cases ov2 with
  | none =>
    have h2 : m = 0 := hok.2
    have h1 := hok.1
    subst h2
    have : xs = [] := by cases xs; rfl; simp at h1
    subst this
    exact rfl
  | some x =>
    obtain ⟨b, j, junk⟩ := x
    have := hw.get b _ (hb _ List.mem_cons_self)
    intro i hi
    simp only [World.cell?, this, Nat.zero_add]
    simp [List.getElem?_append_left, hi]
section
variable {X : Cx} {σ : Env} {L Lr : Lst} {dd : Nat} {ty : TypeId} {pos : String} {af : Array Edge} {x y : Operand} {t t2 e : TypeId} {r r2 re : TRow}
variable {all : Array Oper} {rest : List Oper} {K : Env → Lst → Prop}
theorem append_none {P : Program} (tb : Tb P) {w : World} {ov : Ov} {n cap2 e2 : Nat} {p2 : Option Addr} (ht : tb.row t = some r) (hk : r.k = .slice e) (he : tb.row e = some re) (ht2 : tb.row t2 = some r2) (hk2 : r2.k = .slice e2) (hn : ov = none → n = 0) :
    (Builtin.append_ #[t, t2] ty #[slV ov n, .slice p2 0 cap2]).run P w = .ok (slV ov n) w := by
  have hu : P.underlying t = some (.slice e) := by have := (tb.get ht).is; rw [hk] at this; exact this
  have hu2 : P.underlying t2 = some (.slice e2) := by have := (tb.get ht2).is; rw [hk2] at this; exact this
  have hf : (Builtin.firstCells re.size 0 (.slice p2 0 cap2)).run P w = .ok #[] w := by
    cases p2 <;> simp [Builtin.firstCells, loadCells, loadCellsFrom]
  unfold Builtin.append_
  cases ov with
  | none =>
    simp [slV, run_underlying hu, run_underlying hu2, (tb.get he).size, Builtin.lenOf, hf]
  | some q =>
    obtain ⟨b, j, junk⟩ := q
    simp [slV, run_underlying hu, run_underlying hu2, (tb.get he).size, Builtin.lenOf, hf, storeCells]
/-- append(s, y...): s a slice of one's own, y one that is read. -/
theorem R.appendSl {ov ov2 : Ov} {n m e2 e3 : Nat} {old news zc : List Value} (hn : Nat.blt dd X.n = true) (ht : X.tb.row t = some r) (hk : r.k = .slice e) (he : X.tb.row e = some re) (hz : cellsE re.zero = some zc) (hzl : zc.length = re.size) (ht2 : X.tb.row t2 = some r2) (hk2 : r2.k = .slice e2) (hb1 : Nat.ble 1 re.bytes = true) (hb2 : Nat.ble re.bytes 65536 = true)
    (hx : ev σ x = some (slV ov n)) (hy : ev σ y = some (slV ov2 m)) (hok : OvOk re.size ov n old) (hok2 : OvOk re.size ov2 m news) (hp : Ext L (blkL e ov old) Lr) (hin : ∀ x ∈ blkL e3 ov2 news, x ∈ L)
    (h1 : news.all Value.oneCell' = true) (hbig : n + m ≤ 1073741824)
    (h : ∀ ov', OvOk re.size ov' (n + m) (old ++ news) → R X all rest K ((dd, slV ov' (n + m)) :: σ) (blkL e ov' (old ++ news) ++ Lr)) :
    R X all (⟨some dd, .call { callee := .builtin .append, args := #[x, y], argTypes := #[t, t2] }, ty, pos, af, none⟩ :: rest) K σ L :=
  R.value rfl rfl hn fun a w ha hw => by
    have hw2 := hw.perm hp.perm
    rcases Nat.eq_zero_or_pos m with h0 | h0
    · subst h0
      have hnews : news = [] := by have := hok2.1; cases news; rfl; simp at this
      subst hnews
      have hs2 : slV ov2 0 = .slice (ovp ov2) 0 (ovc ov2 0) := slV_eq hok2
      have hrun := append_none X.tb (w := w) (ty := ty) (n := n) (p2 := ovp ov2) (cap2 := ovc ov2 0) (ov := ov) ht hk he ht2 hk2 (fun e => by subst e; exact hok.2)
      refine ⟨slV ov n, w, blkL e ov (old ++ []) ++ Lr, ?_, by rw [List.append_nil]; exact hw2, h ov (by rw [List.append_nil]; exact hok)⟩
      simp [execOp, resolve, ha.ev hx, ha.ev hy, hs2, invoke, builtin, hrun]
    · have hlen : news.length = m * re.size := hok2.1
      have h3 := Nat.le_of_ble_eq_true hb2
      have hbig' : (2 * (n + m) + 768) * re.bytes ≤ 281474976710656 := by
        have := Nat.mul_le_mul (show 2 * (n + m) + 768 ≤ 2147484416 by omega) h3
        omega
      have hl : Builtin.lenOf (slV ov2 m) = Pure.pure m := by
        cases ov2 with
        | none => have : m = 0 := hok2.2; omega
        | some q => rfl
      obtain ⟨b', j', junk', w', g1, g2, g3⟩ := append_run X.tb (ty := ty) ht hk he hz hzl ht2 hk2 hw2 (OwnAt.mid hok) hl (Holds.ov hok2 hin hw) hlen h1 h0 hbig' (Nat.le_of_ble_eq_true hb1)
      refine ⟨slV (some (b', j', junk')) (n + m), w', _, ?_, g3, h (some (b', j', junk')) ⟨by rw [List.length_append, hok.1, hlen, Nat.add_mul], g1⟩⟩
      simp [execOp, resolve, ha.ev hx, ha.ev hy, invoke, builtin, g2]
      rfl
theorem append_none' {P : Program} (tb : Tb P) {w : World} {ov : Ov} {n e2 : Nat} {s2 : Value} (ht : tb.row t = some r) (hk : r.k = .slice e) (he : tb.row e = some re) (ht2 : tb.row t2 = some r2) (hk2 : r2.k = .slice e2) (hn : ov = none → n = 0) (hs2 : Builtin.lenOf s2 = Pure.pure 0) (hh : Holds w s2 []) :
    (Builtin.append_ #[t, t2] ty #[slV ov n, s2]).run P w = .ok (slV ov n) w := by
  have hu : P.underlying t = some (.slice e) := by have := (tb.get ht).is; rw [hk] at this; exact this
  have hu2 : P.underlying t2 = some (.slice e2) := by have := (tb.get ht2).is; rw [hk2] at this; exact this
  have hf : (Builtin.firstCells re.size 0 s2).run P w = .ok #[] w := first_run hh (by simp)
  unfold Builtin.append_
  cases ov with
  | none =>
    simp [slV, run_underlying hu, run_underlying hu2, (tb.get he).size, hs2, hf]
  | some q =>
    obtain ⟨b, j, junk⟩ := q
    simp [slV, run_underlying hu, run_underlying hu2, (tb.get he).size, hs2, hf, storeCells]
/-- append(s, y...): s a slice of one's own, y any slice of which is known what it holds. -/
theorem R.appendH {ov : Ov} {n m e2 : Nat} {old news zc : List Value} {s2 : Value} (hn : Nat.blt dd X.n = true) (ht : X.tb.row t = some r) (hk : r.k = .slice e) (he : X.tb.row e = some re) (hz : cellsE re.zero = some zc) (hzl : zc.length = re.size) (ht2 : X.tb.row t2 = some r2) (hk2 : r2.k = .slice e2) (hb1 : Nat.ble 1 re.bytes = true) (hb2 : Nat.ble re.bytes 65536 = true)
    (hx : ev σ x = some (slV ov n)) (hy : ev σ y = some s2) (hs2 : Builtin.lenOf s2 = Pure.pure m) (hok : OvOk re.size ov n old) (hp : Ext L (blkL e ov old) Lr) (hh : ∀ w, Hp X.w0 X.S L w → Holds w s2 news) (hlen : news.length = m * re.size)
    (h1 : news.all Value.oneCell' = true) (hbig : n + m ≤ 1073741824)
    (h : ∀ ov', OvOk re.size ov' (n + m) (old ++ news) → R X all rest K ((dd, slV ov' (n + m)) :: σ) (blkL e ov' (old ++ news) ++ Lr)) :
    R X all (⟨some dd, .call { callee := .builtin .append, args := #[x, y], argTypes := #[t, t2] }, ty, pos, af, none⟩ :: rest) K σ L :=
  R.value rfl rfl hn fun a w ha hw => by
    have hw2 := hw.perm hp.perm
    rcases Nat.eq_zero_or_pos m with h0 | h0
    · subst h0
      have hnews : news = [] := by cases news; rfl; simp at hlen
      subst hnews
      have hrun := append_none' X.tb (w := w) (ty := ty) (n := n) (ov := ov) ht hk he ht2 hk2 (fun e => by subst e; exact hok.2) hs2 (hh w hw)
      refine ⟨slV ov n, w, blkL e ov (old ++ []) ++ Lr, ?_, by rw [List.append_nil]; exact hw2, h ov (by rw [List.append_nil]; exact hok)⟩
      simp [execOp, resolve, ha.ev hx, ha.ev hy, invoke, builtin, hrun]
    · have h3 := Nat.le_of_ble_eq_true hb2
      have hbig' : (2 * (n + m) + 768) * re.bytes ≤ 281474976710656 := by
        have := Nat.mul_le_mul (show 2 * (n + m) + 768 ≤ 2147484416 by omega) h3
        omega
      obtain ⟨b', j', junk', w', g1, g2, g3⟩ := append_run X.tb (ty := ty) ht hk he hz hzl ht2 hk2 hw2 (OwnAt.mid hok) hs2 (hh w hw) hlen h1 h0 hbig' (Nat.le_of_ble_eq_true hb1)
      refine ⟨slV (some (b', j', junk')) (n + m), w', _, ?_, g3, h (some (b', j', junk')) ⟨by rw [List.length_append, hok.1, hlen, Nat.add_mul], g1⟩⟩
      simp [execOp, resolve, ha.ev hx, ha.ev hy, invoke, builtin, g2]
      rfl
theorem R.buildSlice0 (hn : Nat.blt dd X.n = true) (ht : X.tb.row t = some r) (hk : r.k = .slice e) (he : X.tb.row e = some re)
    (h : ∀ b, R X all rest K ((dd, slV (some (b, 0, [])) 0) :: σ) ((b, .cells ⟨[]⟩ e (0, 0)) :: L)) : R X all (⟨some dd, .buildSlice t 0 #[], ty, pos, af, none⟩ :: rest) K σ L :=
  R.value rfl rfl hn fun a w ha hw => by
    refine ⟨.slice (some ⟨w.heap.size, 0, none⟩) 0 0, w.alloc (.cells ⟨[]⟩ e (0, 0)), _, ?_, hw.alloc _, h _⟩
    have h2 := (X.tb.get ht).is
    rw [hk] at h2
    simp only [TK.is] at h2
    have h3 : Array.range 0 = #[] := by apply Array.toList_inj.1; simp
    simp [execOp, Instr.buildSlice, run_underlying h2, (X.tb.get he).size, Instr.fill, newRow, run_newObj, h3]
theorem R.make1 {n : Nat} {k k' : IntKind} {z' : Value} (hn : Nat.blt dd X.n = true) (ht : X.tb.row t = some r) (hk : r.k = .slice e) (he : X.tb.row e = some re) (hz : cellsE re.zero = some [z']) (hs : Nat.beq re.size 1 = true) (hb : Nat.ble re.bytes 65536 = true)
    (hx : ev σ x = some (.int k n)) (hy : ev σ y = some (.int k' n)) (hle : n ≤ 1073741824)
    (h : ∀ b, R X all rest K ((dd, .slice (some ⟨b, 0, none⟩) n n) :: σ) ((b, .cells ⟨List.replicate n z'⟩ e (0, 0)) :: L)) : R X all (⟨some dd, .makeSlice t x y, ty, pos, af, none⟩ :: rest) K σ L :=
  R.value rfl rfl hn fun a w ha hw => by
    have hu : X.P.underlying t = some (.slice e) := by have := (X.tb.get ht).is; rw [hk] at this; exact this
    obtain ⟨i, hi, hib⟩ : ∃ i, X.P.info? e = some i ∧ i.bytes = re.bytes := by
      have := (X.tb.get he).bytes
      cases h : X.P.info? e with
      | none => rw [h] at this; cases this
      | some i => rw [h] at this; exact ⟨i, rfl, by simpa using this⟩
    have hti : ∀ w, (typeInfo e).run X.P w = .ok i w := fun w => by simp [typeInfo, hi]
    have hzc := cellsE_eq hz
    have hs1 := Nat.eq_of_beq_eq_true hs
    have hb1 := Nat.le_of_ble_eq_true hb
    have hwr : IntKind.i64.wrap (n : Int) = n := IntWalk.i64_in _ ⟨by omega, by omega⟩
    have hlt : ¬ ((re.bytes : Int) * (n : Int) > 2 ^ 48) := by
      have : re.bytes * n ≤ 65536 * 1073741824 := Nat.mul_le_mul hb1 hle
      have h9 : ((re.bytes * n : Nat) : Int) = (re.bytes : Int) * (n : Int) := by simp
      have h10 : (2 : Int) ^ 48 = 281474976710656 := by decide
      omega
    have hcells : (Array.range (n * 1)).map (fun i => (Array.mk [z'])[i % (Array.mk [z']).size]!) = (⟨List.replicate n z'⟩ : Array Value) := by
      apply Array.ext_getElem?
      intro j
      by_cases hj : j < n <;> simp [Array.getElem?_map, Array.getElem?_range, List.getElem?_replicate, hj, Nat.mod_one]
    refine ⟨.slice (some ⟨w.heap.size, 0, none⟩) n n, w.alloc (.cells ⟨List.replicate n z'⟩ e (0, 0)), _, ?_, hw.alloc _, h _⟩
    have hai : ∀ (k : IntKind) (w : World), (asInt (.int k n)).run X.P w = .ok (n : Int) w := fun k w => by simp [asInt, asIntOf]
    have hlt' : ¬ (2 ^ 48 < (re.bytes : Int) * (n : Int)) := hlt
    simp only [execOp, ha.ev hx, ha.ev hy, Instr.makeSlice, Sem.run_bind, run_underlying hu, Result.andThen_ok, hai, hti, hib, hwr, gt_iff_lt, hlt', show ¬ ((n : Int) < 0) by omega, Int.lt_irrefl, decide_false, Bool.or_self, Bool.false_eq_true, if_false, Sem.run_pure, run_askRoom, (X.tb.get he).size, hs1, Int.toNat_natCast, newRow, run_newObj]
    by_cases h0 : n = 0
    · subst h0
      have h3 : Array.range (0 * 1) = #[] := by apply Array.toList_inj.1; simp
      simp [h3]
    · have hne : ¬ n * 1 = 0 := by omega
      simp only [if_neg hne, Sem.run_bind, (X.tb.get he).zero, hzc, Result.andThen_ok, Sem.run_pure, run_newObj, hcells]
      rfl
end
section
variable {X : Cx} {all : Array Oper} {C : Lst} {fuel : Nat} {listed : Array Bool} {K : Env → Lst → Prop} {σ : Env}
end
end Go.Proofs.YtplhnkmmhndkjaaGreat
set_option linter.unusedSimpArgs false
set_option linter.unusedVariables false
namespace Go.Proofs.YtplhnkmmhndkjaaGreat
open Go.RowKit Go.Shelf
section
variable {α : Type} {v : α → List Value} {sz : Nat}
theorem fl_takeG (hv : ∀ a, (v a).length = sz) (l : List α) (i : Nat) : (fl v l).take (i * sz) = fl v (l.take i) := by
  induction l generalizing i with
  | nil => simp [fl]
  | cons a l ih =>
    cases i with
    | zero => simp [fl]
    | succ i =>
      have := ih i
      simp only [fl, List.map_cons, List.flatten_cons, List.take_succ_cons] at this ⊢
      rw [Nat.add_mul, List.take_append, ← this, hv, List.take_of_length_le (by rw [hv]; omega)]
      congr 2
      omega
theorem fl_dropG (hv : ∀ a, (v a).length = sz) (l : List α) (i : Nat) : (fl v l).drop (i * sz) = fl v (l.drop i) := by
  induction l generalizing i with
  | nil => simp [fl]
  | cons a l ih =>
    cases i with
    | zero => simp [fl]
    | succ i =>
      have := ih i
      simp only [fl, List.map_cons, List.flatten_cons, List.drop_succ_cons] at this ⊢
      rw [Nat.add_mul, List.drop_append, ← this, hv, List.drop_of_length_le (by rw [hv]; omega), List.nil_append]
      congr 1
      omega
theorem fl_cut (l : List α) {i : Nat} {x : α} (h : l[i]? = some x) : fl v l = fl v (l.take i) ++ (v x ++ fl v (l.drop (i + 1))) := by
  obtain ⟨hi, rfl⟩ := List.getElem?_eq_some_iff.1 h
  conv => lhs; rw [← List.take_append_drop i l, List.drop_eq_getElem_cons hi]
  simp only [fl, List.map_append, List.map_cons, List.flatten_append, List.flatten_cons]
theorem fl_set (l : List α) {i : Nat} (a : α) (h : i < l.length) : fl v (l.set i a) = fl v (l.take i) ++ (v a ++ fl v (l.drop (i + 1))) := by
  have h1 : (l.set i a)[i]? = some a := by simp [h]
  rw [fl_cut _ h1]
  congr 2
  · rw [List.take_set_of_le (Nat.le_refl _)]
  · congr 1
    rw [List.drop_set_of_lt (by omega)]
/-- A whole row written. -/
theorem setE_row (hv : ∀ a, (v a).length = sz) {l : List α} {i : Nat} (hi : i < l.length) (a : α) (junk : List Value) : setE (fl v l ++ junk) (0 + i * sz) (v a) = some (fl v (l.set i a) ++ junk) := by
  have h1 : l[i]? = some l[i] := List.getElem?_eq_getElem hi
  rw [fl_cut l h1, fl_set l a hi]
  have hl : (fl v (l.take i)).length = 0 + i * sz := by rw [fl_len hv, List.length_take, Nat.min_eq_left (by omega)]; omega
  have := setE_mid (fl v (l.take i)) (vs := v a) (junk := v l[i] ++ fl v (l.drop (i + 1)) ++ junk) (by rw [List.length_append, List.length_append, hv, hv]; omega)
  rw [hl] at this
  have e : fl v (l.take i) ++ (v l[i] ++ fl v (l.drop (i + 1))) ++ junk = fl v (l.take i) ++ (v l[i] ++ fl v (l.drop (i + 1)) ++ junk) := by simp only [List.append_assoc]
  rw [e, this]
  congr 1
  rw [show (v l[i] ++ fl v (l.drop (i + 1)) ++ junk).drop (v a).length = fl v (l.drop (i + 1)) ++ junk by rw [List.append_assoc, List.drop_append, hv, List.drop_of_length_le (by rw [hv]; omega), hv, Nat.sub_self]; rfl]
  simp only [List.append_assoc]
end
theorem setE_one {v : Value} : ∀ {cs : List Value} {o : Nat}, o < cs.length → setE cs o [v] = some (cs.set o v)
  | [], o, h => by simp at h
  | c :: cs, 0, h => by cases cs <;> simp [setE]
  | c :: cs, o + 1, h => by simp [setE, setE_one (by simpa using h)]
end Go.Proofs.YtplhnkmmhndkjaaGreat
set_option linter.unusedSimpArgs false
set_option linter.unusedVariables false
set_option linter.unusedSectionVars false
namespace Go.Proofs.YtplhnkmmhndkjaaGreat
open Go.RowKit Go.Shelf
theorem subE_app : ∀ (xs junk : List Value) {n : Nat}, xs.length = n → subE (xs ++ junk) 0 n = some xs
  | [], junk, n, h => by simp at h; subst h; cases junk <;> rfl
  | x :: xs, junk, n, h => by
    cases n with
    | zero => simp at h
    | succ n =>
      have := subE_app xs junk (n := n) (by simpa using h)
      simp only [List.cons_append, subE, this]
theorem subE_all {xs : List Value} {n : Nat} (h : xs.length = n) : subE xs 0 n = some xs := by
  have := subE_app xs [] h
  rwa [List.append_nil] at this
/-- Where a slice's last ones lie. -/
def sufP (p : Option Addr) (cap i sz : Nat) : Option Addr := if cap = i then p else p.map (·.add (i * sz))
section
variable {α : Type} {v : α → List Value} {sz : Nat} {xs : List α} {w : World} {p : Option Addr}
theorem RdSl.suf (hv : ∀ a, (v a).length = sz) (h : RdSl w p v xs) {cap i : Nat} (h1 : i ≤ xs.length) (h2 : xs.length ≤ cap) : RdSl w (sufP p cap i sz) v (xs.drop i) := by
  by_cases hc : cap = i
  · left; exact List.drop_eq_nil_of_le (by omega)
  · rcases h with h | ⟨b, o, rfl, h⟩
    · left; rw [h]; exact List.drop_nil
    · right
      refine ⟨b, o + i * sz, by simp [sufP, hc, Addr.add_none], fun k hk => ?_⟩
      rw [← fl_dropG hv] at hk ⊢
      rw [List.length_drop] at hk
      rw [List.getElem?_drop, ← h (i * sz + k) (by omega), Nat.add_assoc]
theorem RdSl.pre (hv : ∀ a, (v a).length = sz) (h : RdSl w p v xs) (i : Nat) : RdSl w p v (xs.take i) := by
  rcases h with h | ⟨b, o, rfl, h⟩
  · left; rw [h]; exact List.take_nil
  · right
    refine ⟨b, o, rfl, fun k hk => ?_⟩
    rw [← fl_takeG hv] at hk ⊢
    rw [List.length_take] at hk
    rw [List.getElem?_take, if_pos (by omega)]
    exact h k (by omega)
theorem Off.suf {S : List Nat} (h : Off p S) (cap i sz : Nat) : Off (sufP p cap i sz) S := by
  intro a ha
  unfold sufP at ha
  split at ha
  · exact h a ha
  · cases p with
    | none => cases ha
    | some a0 =>
      simp only [Option.map_some, Option.some.injEq] at ha
      subst ha
      have := h a0 rfl
      unfold Addr.add
      split <;> exact this
theorem RdSl.chg' {w' : World} {S : List Nat} (h : RdSl w p v xs) (hc : Chg S w w') (ho : xs ≠ [] → Off p S) : RdSl w' p v xs := by
  by_cases hx : xs = []
  · exact .inl hx
  · exact h.chg hc (ho hx)
/-- What is old lies in none of the blocks that are one's own. -/
theorem RdSl.old {w' : World} {S : List Nat} {L Li Lr : Lst} (hv : ∀ a, (v a).length = sz) (hs : 1 ≤ sz) (h : RdSl w p v xs) (ho : xs ≠ [] → Off p S) (hw : Hp w S L w') (he : Ext L Li Lr) : xs ≠ [] → Off p (blks Li) := by
  intro hx a ha hm
  rcases h with h | ⟨b, o, hp, h⟩
  · exact hx h
  · rw [hp] at ha
    cases ha
    obtain ⟨⟨b', ob⟩, hmem, hb'⟩ := List.mem_map.1 hm
    simp only at hb'
    subst hb'
    rcases hw.own b' ob (he.mem _ hmem) with h1 | h1
    · have h2 : 0 < (fl v xs).length := by
        rw [fl_len hv]
        have : 0 < xs.length := List.length_pos_iff.2 hx
        exact Nat.mul_pos this hs
      have h3 := h 0 h2
      rw [List.getElem?_eq_getElem h2] at h3
      simp only [World.cell?] at h3
      have h4 : w.heap[b']? = none := Array.getElem?_eq_none h1
      rw [h4] at h3
      simp at h3
    · exact ho hx _ hp h1
theorem RdSl.holds {n cap : Nat} (h : RdSl w p v xs) (hne : xs ≠ []) : Holds w (.slice p n cap) (fl v xs) := by
  rcases h with h | ⟨b, o, rfl, h⟩
  · exact absurd h hne
  · exact fun i hi => h i hi
end
section
variable {X : Cx} {σ : Env} {L Lr : Lst} {d : Option Nat} {dd : Nat} {ty : TypeId} {pos : String} {af : Array Edge} {g : Option (Nat × Bool)} {x y : Operand} {t t2 e : TypeId} {r r2 re : TRow}
variable {all : Array Oper} {rest : List Oper} {K : Env → Lst → Prop} {p : Option Addr} {n cap i : Nat}
theorem Ok1.capS (ht : X.tb.row t = some r) (hk : r.k = .slice e) (hx : ev σ x = some (.slice p n cap)) : Ok1 X ⟨d, .call { callee := .builtin .cap, args := #[x], argTypes := #[t] }, ty, pos, af, g⟩ σ L (.int .i64 cap) := .mk fun a w ha hw => by
  have h2 := (X.tb.get ht).is
  rw [hk] at h2
  simp only [TK.is] at h2
  simp [execOp, resolve, ha.ev hx, invoke, builtin, Builtin.cap_, run_underlying h2, goInt]
/-- append(s, y...): s a slice of one's own, y one that is read. -/
theorem R.appendRd {α : Type} {v : α → List Value} {xs : List α} {sz : Nat} {ov : Ov} {m cap2 e2 : Nat} {old zc : List Value} (hn : Nat.blt dd X.n = true) (ht : X.tb.row t = some r) (hk : r.k = .slice e) (he : X.tb.row e = some re) (hz : cellsE re.zero = some zc) (hzl : zc.length = re.size) (ht2 : X.tb.row t2 = some r2) (hk2 : r2.k = .slice e2) (hb1 : Nat.ble 1 re.bytes = true) (hb2 : Nat.ble re.bytes 65536 = true)
    (hx : ev σ x = some (slV ov n)) (hy : ev σ y = some (.slice p m cap2)) (hok : OvOk re.size ov n old) (hp : Ext L (blkL e ov old) Lr) (hm : m = xs.length) (hv : ∀ a, (v a).length = sz) (hs : re.size = sz) (hh : ∀ w, Hp X.w0 X.S L w → RdSl w p v xs)
    (h1 : (fl v xs).all Value.oneCell' = true) (hbig : n + m ≤ 1073741824)
    (h : ∀ ov', OvOk re.size ov' (n + m) (old ++ fl v xs) → (ov.isSome = true → ov'.isSome = true) → R X all rest K ((dd, slV ov' (n + m)) :: σ) (blkL e ov' (old ++ fl v xs) ++ Lr)) :
    R X all (⟨some dd, .call { callee := .builtin .append, args := #[x, y], argTypes := #[t, t2] }, ty, pos, af, none⟩ :: rest) K σ L := by
  subst hm
  cases xs with
  | nil =>
    refine R.value rfl rfl hn fun a w ha hw => ?_
    have hw2 := hw.perm hp.perm
    have hrun := append_none X.tb (w := w) (ty := ty) (n := n) (p2 := p) (cap2 := cap2) (ov := ov) ht hk he ht2 hk2 (fun e => by subst e; exact hok.2)
    refine ⟨slV ov n, w, blkL e ov (old ++ []) ++ Lr, ?_, by rw [List.append_nil]; exact hw2, h ov (by simpa [fl] using hok) id⟩
    simp [execOp, resolve, ha.ev hx, ha.ev hy, invoke, builtin, hrun]
  | cons x0 xs =>
    refine R.appendH hn ht hk he hz hzl ht2 hk2 hb1 hb2 hx hy rfl hok hp (fun w hw => (hh w hw).holds (by simp)) ?_ h1 hbig fun ov' h2 => h ov' h2 fun _ => by
      cases ov' with
      | none => have := h2.2; simp at this
      | some _ => rfl
    rw [fl_len hv, hs]
/-- Room for n, made ahead of any: append(nil, make(.., n)...). -/
theorem grow_run {P : Program} (tb : Tb P) (ht : tb.row t = some r) (hk : r.k = .slice e) (he : tb.row e = some re) {z : Value} (hz : cellsE re.zero = some [z]) (hsz : re.size = 1) (ht2 : tb.row t2 = some r2) (hk2 : r2.k = .int .i64)
    {w0 w : World} {S : List Nat} {n : Nat} (hw : Hp w0 S L w) (hm : 1 ≤ n) (hbig : (2 * n + 768) * re.bytes ≤ 281474976710656) (hb1 : 1 ≤ re.bytes) :
    ∃ b' j' w', (Builtin.append_ #[t, t2] ty #[.slice none 0 0, .int .i64 n]).run P w = .ok (.slice (some ⟨b', 0, none⟩) n (n + j')) w' ∧ Hp w0 S ((b', .cells ⟨List.replicate (n + j') z⟩ e (0, 0)) :: L) w' := by
  have hu : P.underlying t = some (.slice e) := by have := (tb.get ht).is; rw [hk] at this; exact this
  have hu2 : P.underlying t2 = some (.int .i64) := by have := (tb.get ht2).is; rw [hk2] at this; exact this
  obtain ⟨i, hi, hib⟩ : ∃ i, P.info? e = some i ∧ i.bytes = re.bytes := by
    have := (tb.get he).bytes
    cases h : P.info? e with
    | none => rw [h] at this; cases this
    | some i => rw [h] at this; exact ⟨i, rfl, by simpa using this⟩
  have hti : ∀ w, (typeInfo e).run P w = .ok i w := fun w => by simp [typeInfo, hi]
  have hzc := cellsE_eq hz
  have hnx := nextcap_le n 0 (by omega)
  have h48 : (2 : Nat) ^ 48 = 281474976710656 := by decide
  have hnb : ¬ Builtin.nextslicecap n 0 * re.bytes > 2 ^ 48 := by
    have := Nat.mul_le_mul_right re.bytes hnx
    omega
  have hn2 : n * 1 ≤ n * re.bytes := Nat.mul_le_mul_left _ hb1
  have hn3 : (2 * n + 768) * re.bytes = 2 * (n * re.bytes) + 768 * re.bytes := by rw [Nat.add_mul, Nat.mul_assoc]
  have hwn : IntKind.i64.wrap (n : Int) = n := wrap_in (by omega) (by omega)
  have hnn : ¬ (n : Int) < 0 := by omega
  have hlb : ¬ ((n : Int) * (re.bytes : Int) > 2 ^ 48) := by
    have h1 : n * re.bytes ≤ 2 ^ 48 := by omega
    have h2 : ((n * re.bytes : Nat) : Int) ≤ ((2 ^ 48 : Nat) : Int) := Int.ofNat_le.2 h1
    have h3 : ((2 ^ 48 : Nat) : Int) = 2 ^ 48 := by decide
    rw [Int.natCast_mul] at h2
    omega
  have hzr : ∀ k, (Builtin.zeroCells re.zero.cells k).toList = List.replicate k z := by
    intro k
    have hc : re.zero.cells = #[z] := by apply Array.toList_inj.1; rw [hzc]
    rw [hc]
    refine List.eq_replicate_iff.2 ⟨by simp [Builtin.zeroCells], fun x hx => ?_⟩
    simp only [Builtin.zeroCells, Array.toList_map, List.mem_map, List.size_toArray, List.length_singleton, Nat.mod_one] at hx
    obtain ⟨_, _, rfl⟩ := hx
    rfl
  obtain ⟨q, hq⟩ : ∃ q, (Question.appendCap n 0 e).cut (w.tape w.drawn (.appendCap n 0 e)) = n + q := ⟨_, rfl⟩
  refine ⟨w.heap.size, q, w.drew.alloc (.cells ⟨List.replicate (n + q) z⟩ e (0, 0)), ?_, (hw.step (Chg.drew [] w)).alloc _⟩
  have harr : ((#[] : Array Value) ++ Builtin.zeroCells re.zero.cells n ++ Builtin.zeroCells re.zero.cells (n + q - n) : Array Value) = ⟨List.replicate (n + q) z⟩ := by
    apply Array.toList_inj.1
    rw [Array.toList_append, Array.toList_append, hzr, hzr, Nat.add_sub_cancel_left, List.nil_append, List.replicate_append_replicate]
  have hai : ∀ w, (asInt (.int .i64 (n : Int))).run P w = .ok (n : Int) w := fun w => by simp [asInt, asIntOf]
  have hmx : ¬ (n : Int) > IntKind.i64.max := by have : IntKind.i64.max = 9223372036854775807 := by decide
                                                 omega
  unfold Builtin.append_
  simp only [hmx, false_and, List.getElem?_toArray, List.getElem?_cons_zero, List.getElem?_cons_succ, Sem.run_bind, run_underlying hu, run_underlying hu2, Result.andThen_ok, (tb.get he).size, Sem.run_pure, if_true, hai, hwn, hnn, if_false, Nat.zero_add, Nat.not_le.2 (show 0 < n by omega), hti, hib, Sem.run_ite, hlb, Int.toNat_natCast, Bool.not_true, Bool.false_eq_true,
    show ¬ re.bytes = 0 by omega, or_false, and_false, false_or, hnb, run_choose, Question.forced, hq, run_askRoom, World.drew_eq, Builtin.firstCells, hsz, Nat.mul_one, show ¬ n = 0 by omega, (tb.get he).zero, newRow, run_newObj, harr]
  rfl
theorem R.growMk {z : Value} (hn : Nat.blt dd X.n = true) (ht : X.tb.row t = some r) (hk : r.k = .slice e) (he : X.tb.row e = some re) (hz : cellsE re.zero = some [z]) (hsz : Nat.beq re.size 1 = true) (ht2 : X.tb.row t2 = some r2) (hk2 : r2.k = .int .i64) (hb1 : Nat.ble 1 re.bytes = true) (hb2 : Nat.ble re.bytes 65536 = true)
    (hx : ev σ x = some (.slice none 0 0)) (hy : ev σ y = some (.int .i64 n)) (hm : 1 ≤ n) (hbig : n ≤ 1073741824)
    (h : ∀ b' j', R X all rest K ((dd, .slice (some ⟨b', 0, none⟩) n (n + j')) :: σ) ((b', .cells ⟨List.replicate (n + j') z⟩ e (0, 0)) :: L)) :
    R X all (⟨some dd, .call { callee := .builtin .append, args := #[x, y], argTypes := #[t, t2] }, ty, pos, af, none⟩ :: rest) K σ L :=
  R.value rfl rfl hn fun a w ha hw => by
    have h3 := Nat.le_of_ble_eq_true hb2
    have hbig' : (2 * n + 768) * re.bytes ≤ 281474976710656 := by
      have := Nat.mul_le_mul (show 2 * n + 768 ≤ 2147484416 by omega) h3
      omega
    obtain ⟨b', j', w', g1, g2⟩ := grow_run X.tb (ty := ty) ht hk he hz (Nat.eq_of_beq_eq_true hsz) ht2 hk2 hw hm hbig' (Nat.le_of_ble_eq_true hb1)
    refine ⟨_, w', _, ?_, g2, h b' j'⟩
    simp [execOp, resolve, ha.ev hx, ha.ev hy, invoke, builtin, g1]
end
end Go.Proofs.YtplhnkmmhndkjaaGreat
set_option linter.unusedSimpArgs false
set_option linter.unusedVariables false
namespace Go.Proofs.YtplhnkmmhndkjaaGreat
open Go.RowKit Go.Shelf
section
variable {X : Cx} {σ : Env} {L : Lst} {d : Option Nat} {ty : TypeId} {pos : String} {af : Array Edge} {g : Option (Nat × Bool)} {x : Operand} {t e : TypeId} {r re : TRow} {p : Option Addr} {n cap i m : Nat}
end
section
variable {X : Cx} {σ : Env} {L : Lst} {d : Option Nat} {ty : TypeId} {pos : String} {af : Array Edge} {g : Option (Nat × Bool)} {x y : Operand} {k : IntKind} {i j m : Int} {ats : Array TypeId}
theorem Ok1.min2E (hx : ev σ x = some (.int k i)) (hy : ev σ y = some (.int k j)) (hm : min i j = m) : Ok1 X ⟨d, .call { callee := .builtin .min, args := #[x, y], argTypes := ats }, ty, pos, af, g⟩ σ L (.int k m) := hm ▸ Ok1.min2 hx hy
end
theorem zc_uni {zero : Array Value} {z0 : Value} {k : Nat} (hk : 0 < k) (hz : zero = ⟨List.replicate k z0⟩) (n : Nat) : (Builtin.zeroCells zero n).toList = List.replicate (n * k) z0 := by
  subst hz
  have hs : (⟨List.replicate k z0⟩ : Array Value).size = k := by simp
  unfold Builtin.zeroCells
  rw [hs, List.eq_replicate_iff]
  refine ⟨by simp, fun b hb => ?_⟩
  simp only [Array.toList_map, Array.toList_range, List.mem_map, List.mem_range] at hb
  obtain ⟨i, _, rfl⟩ := hb
  have hlt : i % k < (⟨List.replicate k z0⟩ : Array Value).size := by rw [hs]; exact Nat.mod_lt _ hk
  rw [getElem!_pos (⟨List.replicate k z0⟩ : Array Value) (i % k) hlt]
  simp
section
variable {X : Cx} {σ : Env} {L L' : Lst} {ty : TypeId} {pos : String} {af : Array Edge} {x : Operand} {t e te : TypeId} {r re : TRow} {b o n cap k : Nat} {z0 : Value} {cs cs' : List Value} {all : Array Oper} {rest : List Oper} {K : Env → Lst → Prop}
theorem R.clearU (ht : X.tb.row t = some r) (hk : r.k = .slice e) (he : X.tb.row e = some re) (hz : cellsE re.zero = some (List.replicate k z0)) (hk0 : 0 < k) (h10 : Value.oneCell' z0 = true) (hx : ev σ x = some (.slice (some ⟨b, o, none⟩) n cap)) (hn : 0 < n)
    (hu : Upd L b (.cells ⟨cs⟩ te (0, 0)) (.cells ⟨cs'⟩ te (0, 0)) L') (hc : setE cs o (List.replicate (n * k) z0) = some cs') (h : R X all rest K σ L') :
    R X all (⟨none, .call { callee := .builtin .clear, args := #[x], argTypes := #[t] }, ty, pos, af, none⟩ :: rest) K σ L :=
  R.value0 rfl rfl fun a w ha hw => by
    obtain ⟨w', h2, h3, h4⟩ := run_stores X.P ⟨b, o, none⟩ rfl te (List.replicate (n * k) z0) 0 w cs cs' (by simp [h10]) (hw.get _ _ hu.mem) hc
    have hcs := cellsE_eq hz
    have hzc := zc_uni hk0 hcs n
    have hu1 : X.P.underlying t = some (.slice e) := by have := (X.tb.get ht).is; rw [hk] at this; exact this
    refine ⟨.tuple #[], w', L', ?_, hw.upd hu h4 h3, h⟩
    obtain ⟨n, rfl⟩ : ∃ m, n = m + 1 := ⟨n - 1, by omega⟩
    simp [execOp, resolve, ha.ev hx, invoke, builtin, Builtin.clear_, run_underlying hu1, (X.tb.get he).zero, hzc, h2]
end
end Go.Proofs.YtplhnkmmhndkjaaGreat
set_option linter.unusedSimpArgs false
set_option linter.unusedVariables false
set_option linter.unusedSectionVars false
namespace Go.Proofs.YtplhnkmmhndkjaaGreat
open Go.RowKit Go.Shelf
/-- Where a walk goes: anywhere, or in a round of the loop l. -/
def fen : Option Nat → Fence
  | none => Fence.wide
  | some l => Fence.wide.inRound l
theorem fen_fn (ro : Option Nat) (f : Nat) : (fen ro).fn f := by cases ro <;> trivial
theorem fen_depth (ro : Option Nat) : (fen ro).depth = none := by cases ro <;> rfl
theorem fen_round (ro : Option Nat) : (fen ro).round = ro := by cases ro <;> rfl
theorem fen_calls {ro : Option Nat} {n : Nat} {P : Program} {f : FuncId} {args : Array Value} {w : World} {R : Ending → World → Prop} (h : Calls P f args w R) : CallsIn (fen ro) n P f args w R := by
  cases ro with
  | none => exact callsIn_wide.2 h
  | some l => exact ⟨trivial, ((callsIn_wide (n := n)).2 h).2⟩
theorem fen_rows {ro : Option Nat} {n : Nat} {P : Program} {row : String} {args : Array Value} {w : World} {R : Value → World → Prop} (h : Rows P row args w R) : RowsIn (fen ro) n P row args w R := by
  intro c cs _
  obtain ⟨v, w', r, s⟩ := h c cs
  refine ⟨v, w', r, ?_⟩
  cases ro with
  | none => exact stepsIn_wide.2 s
  | some l => rw [show Machine.fenced P (fen (some l)) = Machine.fenced P Fence.wide from rfl]; exact stepsIn_wide.2 s
def noDefer (o : Oper) : Bool := match o.op with | .defer _ => false | _ => true
theorem noDefer_spec {o : Oper} (h : noDefer o = true) : ∀ c, o.op ≠ .defer c := by
  intro c e; unfold noDefer at h; rw [e] at h; cases h
theorem Oper.up_fen {ro : Option Nat} {n : Nat} {P : Program} {o : Oper} {a : Act} {next : Act → World → Prop} {Q : Exit → Act → World → Prop} {r : Result Next} (h : o.upon P a next Q r) : o.uponIn (fen ro) n P a next Q r := by
  cases r with
  | ok m w' =>
    cases m with
    | enter f args => exact ⟨fun e => (by rw [fen_depth] at e; cases e), fen_calls h⟩
    | row f args => exact ⟨fun e => (by rw [fen_depth] at e; cases e), fen_rows h⟩
    | round => exact h.elim
    | value v => exact h
    | skip => exact h
    | defer d => exact h
    | _ => exact h.elim
  | halt x w' => cases x <;> first | exact h | exact h.elim
theorem Oper.wp_fen {ro : Option Nat} {n : Nat} {P : Program} {o : Oper} {a : Act} {w : World} {next : Act → World → Prop} {Q : Exit → Act → World → Prop} (hd : noDefer o = true) (h : o.wp P a w next Q) : o.wpIn (fen ro) n P a w next Q := by
  refine ⟨fun f _ => fen_fn ro f, ?_⟩
  rw [fen_round, Oper.semAt_eq _ _ _ (noDefer_spec hd)]
  exact Oper.up_fen h

/-- The judgement over a region's operations at such a fence. -/
structure RI (X : Cx) (ro : Option Nat) (all : Array Oper) (l : List Oper) (K : Env → Lst → Prop) (σ : Env) (L : Lst) : Prop where
  run : ∀ a w, Mod X.n a σ → Hp X.w0 X.S L w → wpListIn (fen ro) 0 X.P all (X.liftK K) l a w
section
variable {X : Cx} {ro : Option Nat} {all : Array Oper} {rest : List Oper} {K : Env → Lst → Prop} {σ : Env} {L : Lst} {o : Oper} {Q : Post}
theorem RI.nil (h : K σ L) : RI X ro all [] K σ L := ⟨fun a w ha hw => ⟨rfl, σ, L, ha, hw, h⟩⟩
theorem RI.step (hd : noDefer o = true) (h : R X all [o] (fun σ' L' => RI X ro all rest K σ' L') σ L) : RI X ro all (o :: rest) K σ L := by
  refine ⟨fun a w ha hw => ?_⟩
  have h1 := h.run a w ha hw
  have hnil : ∀ a' w', wpList X.P all (X.liftK fun σ' L' => RI X ro all rest K σ' L') [] a' w' → wpListIn (fen ro) 0 X.P all (X.liftK K) rest a' w' := by
    rintro a' w' ⟨_, σ', L', h2, h3, h4⟩
    exact h4.run a' w' h2 h3
  unfold wpList at h1
  unfold wpListIn
  by_cases hwd : Region.wanted o (yielded all a.tmps) = true
  · rw [if_pos hwd] at h1 ⊢
    rcases h1 with h1 | ⟨_, a, w, h1⟩
    · exact Oper.wp_fen hd (Oper.wp_change hnil (fun c a w h => by cases h.1) (fun ⟨a, w, h⟩ => by cases h.1) h1)
    · cases h1.1
  · rw [if_neg hwd] at h1 ⊢
    exact ⟨fun f _ => fen_fn ro f, hnil _ _ h1⟩
theorem T.regionIn {id : Nat} {ops : Array Oper} (h : RI X none ops ops.toList (Q .normal) σ L) : T X (.region id ops false) Q σ L :=
  ⟨fun a w ha hw => wpIn_wide.1 (Go.wpIn_mono (wpIn_region_list (h.run a w ha hw)) fun e a w ⟨he, σ, L, h1, h2, h3⟩ => ⟨σ, L, h1, h2, he ▸ h3⟩)⟩
end
/-- A call of yield: what a round does to the known blocks. -/
structure YieldM (P : Program) (l : Nat) (args : List Value) (L : Lst) (w : World) (R1 : Value → Lst → Prop) : Prop where
  run : Hp w (blks L) L w → ∃ fn tmps assign body, (Instr.yield l args.toArray).run P w = .ok (.round l fn tmps assign body) w ∧ RoundIn Fence.wide 0 P l fn tmps assign body w fun e w' => ∃ v L', e = .returned v ∧ R1 v L' ∧ Hp w (blks L) L' w'
theorem RI.yield {X : Cx} {all : Array Oper} {rest : List Oper} {K : Env → Lst → Prop} {σ : Env} {L Li Lr : Lst} {dd l : Nat} {ty : TypeId} {pos : String} {af : Array Edge} {c : Operand} {xs : List Operand} {vs : List Value} {ats : Array TypeId} {R1 : Value → Lst → Prop}
    (hcv : ev σ c = some (.func (.yield l) #[] #[])) (hx : evs σ xs = some vs) (hn : Nat.blt dd X.n = true) (hp : Ext L Li Lr) (hc : ∀ w, Hp X.w0 X.S L w → YieldM X.P l vs Li w R1) (h : ∀ v Lo, R1 v Lo → RI X none all rest K ((dd, v) :: σ) (Lo ++ Lr)) :
    RI X none all (⟨some dd, .call { callee := .value c, args := xs.toArray, argTypes := ats }, ty, pos, af, none⟩ :: rest) K σ L := by
  refine ⟨fun a w ha hw => wpListIn_plain rfl fun K' hK' => ⟨fun f _ => trivial, ?_⟩⟩
  have hw2 := hw.perm hp.perm
  have hin : Hp w (blks Li) Li w := ⟨.refl _ _, fun b o hm => hw2.get b o (List.mem_append_left _ hm), (List.nodup_append.1 (by have := hw2.nod; rwa [List.map_append] at this)).1, fun b o hm => .inr (List.mem_map.2 ⟨(b, o), hm, rfl⟩)⟩
  obtain ⟨fn, tmps, assign, body, hy, hR⟩ := (hc w hw).run hin
  have hm : xs.toArray.map a.eval = vs.toArray := by rw [List.map_toArray, evs_map ha hx]
  have hr : (Oper.semAt (fen none).round a.eval { dst := some dd, op := .call { callee := .value c, args := xs.toArray, argTypes := ats }, type := ty, pos := pos, after := af, guard := none }).run X.P w = .ok (.round l fn tmps assign body) w := by
    rw [fen_round, Oper.semAt_none]
    simp only [execOp, resolve, ha.ev hcv, hm, Deferred.ofValue, Sem.run_bind, Sem.run_pure, Result.andThen_ok, invoke, Array.append_empty, Array.empty_append, List.append_toArray, List.nil_append]
    simpa using hy
  rw [hr, Oper.uponIn_round]
  refine ⟨fun e => (by rw [fen_depth] at e; cases e), hR.mono ?_⟩
  rintro e w' ⟨v, L', rfl, h2, h3⟩
  exact hK' _ _ ((h v L' h2).run _ _ (ha.put (blt_lt hn) v) (hw2.callM h3))

/-- What a round's contract is made of: the assignments to the loop's variables, then the body. -/
theorem YieldM.of {P : Program} {tb : Tb P} {n l p ia ib rb : Nat} {rec : Loop} {aops bops : Array Oper} {σ : Env} {u : Value} {Li : Lst} {w : World} {R1 : Lst → Prop}
    (hm : Mod n { tmps := rec.tmps, defers := [] } σ) (hp : rec.params = #[p]) (hpn : p < n) (ha : rec.assign = .region ia aops false) (hb : rec.body = .block ib (.region rb bops false)) (hst : rec.state = .ready) (hpe : rec.pending = none)
    (h : RI ⟨P, tb, n, w, l :: blks Li⟩ (some l) aops aops.toList (fun σ2 L2 => ∃ L3, Keep L2 ((l, .loop rec) :: L3) ∧ RI ⟨P, tb, n, w, l :: blks Li⟩ (some l) bops bops.toList (fun σ4 L4 => ∃ L5, Keep L4 ((l, .loop { rec with state := .busy }) :: L5) ∧ R1 L5) σ2 ((l, .loop { rec with state := .busy }) :: L3)) ((p, u) :: σ) ((l, .loop rec) :: Li)) :
    YieldM P l [u] ((l, .loop rec) :: Li) w fun v L => v = .bool true ∧ ∃ L5, R1 L5 ∧ L = (l, .loop rec) :: L5 := by
  refine ⟨fun hw => ?_⟩
  have hl := hw.get l _ List.mem_cons_self
  refine ⟨_, _, _, _, run_yield hl (by rw [hp]; rfl), roundIn_of_wpIn trivial ?_⟩
  have hm' : Mod n { tmps := ((rec.params.zip #[u]).foldl (fun t (q, v) => t.setIfInBounds q v) rec.tmps), defers := [] } ((p, u) :: σ) := by
    have := hm.put hpn u
    rw [hp]
    simpa [Act.put] using this
  rw [ha, hb]
  refine Go.wpIn_mono (wpIn_region_list (h.run _ w hm' hw)) ?_
  rintro e a1 w1 ⟨rfl, σ2, L2, m2, h2, L3, hk, hbody⟩
  have h3 := h2.keep hk
  have hl1 := h3.get l _ List.mem_cons_self
  have hlt : l < w1.heap.size := (Array.getElem?_eq_some_iff.1 hl1).1
  refine ⟨_, run_beginRound hl1 hst, ?_⟩
  have h4 : Hp w (l :: blks Li) ((l, .loop { rec with state := .busy }) :: L3) (w1.putObj l (.loop { rec with state := .busy })) := h3.upd .head (Chg.setObj w1 _ (by simp)) (World.putObj_heap_same hlt)
  have hbl : (Code.region rb bops false).wpIn (Fence.wide.inRound l) 0 P (Exit.inBlock ib (roundPost P l fun e w' => ∃ v L', e = .returned v ∧ (v = .bool true ∧ ∃ L5, R1 L5 ∧ L' = (l, .loop rec) :: L5) ∧ Hp w (blks ((l, .loop rec) :: Li)) L' w')) a1 (w1.putObj l (.loop { rec with state := .busy })) := by
    refine Go.wpIn_mono (wpIn_region_list (hbody.run _ _ m2 h4)) ?_
    rintro e a5 w5 ⟨rfl, σ4, L4, m4, h5, L5, hk5, hR5⟩
    have h6 := h5.keep hk5
    have hl5 := h6.get l _ List.mem_cons_self
    have hlt5 : l < w5.heap.size := (Array.getElem?_eq_some_iff.1 hl5).1
    refine ⟨_, _, run_endRound none hl5, .bool true, (l, .loop rec) :: L5, rfl, ⟨rfl, L5, hR5, rfl⟩, ?_⟩
    have he : ({ { rec with state := LoopState.busy } with state := if (none : Option Code).isNone then .ready else .done, pending := none } : Loop) = rec := by
      cases rec; simp only at hst hpe; subst hst; subst hpe; rfl
    rw [he]
    exact h6.upd .head (Chg.setObj w5 _ (by simp)) (World.putObj_heap_same hlt5)
  exact wpIn_block hbl

def shift (ds : List Deferred) (a : Act) : Act := { a with defers := a.defers ++ ds }
theorem shift_eval (ds : List Deferred) (a : Act) : (shift ds a).eval = a.eval := by
  funext x; cases x <;> rfl
theorem shift_put (ds : List Deferred) (a : Act) (d : Option Tmp) (v : Value) : (shift ds a).put d v = shift ds (a.put d v) := by cases d <;> rfl
def shQ (ds : List Deferred) (Q : Exit → Act → World → Prop) : Exit → Act → World → Prop := fun e a' w' => ∃ a'', a' = shift ds a'' ∧ Q e a'' w'
theorem Oper.wp_shift {P : Program} {ds : List Deferred} {o : Oper} {a : Act} {w : World} {next next' : Act → World → Prop} {Q : Exit → Act → World → Prop} (hn : ∀ a w, next a w → next' (shift ds a) w) (h : o.wp P a w next Q) : o.wp P (shift ds a) w next' (shQ ds Q) := by
  unfold Oper.wp at h ⊢
  rw [shift_eval]
  generalize (execOp a.eval o).run P w = r at *
  cases r with
  | ok m w' =>
    cases m with
    | value v => rw [Oper.upon_value] at h ⊢; rw [shift_put]; exact hn _ _ h
    | skip => rw [Oper.upon_skip] at h ⊢; rw [shift_put]; exact hn _ _ h
    | defer d =>
      rw [Oper.upon_defer] at h ⊢
      have := hn _ _ h
      rw [← shift_put] at this
      exact this
    | enter f args =>
      rw [Oper.upon_enter] at h ⊢
      refine Calls.mono h fun e w'' he => ?_
      cases e with
      | returned v => simp only at he ⊢; rw [shift_put]; exact hn _ _ he
      | panicked c => exact ⟨a, rfl, he⟩
      | outgrown => obtain ⟨a1, w1, h1⟩ := he; exact ⟨shift ds a1, w1, a1, rfl, h1⟩
    | row f args =>
      refine Rows.mono (h : Rows P f args w' _) fun v w'' he => ?_
      rw [shift_put]; exact hn _ _ he
    | _ => exact h.elim
  | halt x w' => cases x <;> first | exact ⟨a, rfl, h⟩ | exact h.elim
theorem wpList_shift {P : Program} {ds : List Deferred} {all : Array Oper} {Q : Exit → Act → World → Prop} : ∀ (l : List Oper) (a : Act) (w : World), wpList P all Q l a w → wpList P all (shQ ds Q) l (shift ds a) w
  | [], a, w, h => ⟨a, rfl, h⟩
  | o :: r, a, w, h => by
    unfold wpList at h ⊢
    have ht : (shift ds a).tmps = a.tmps := rfl
    rw [ht]
    by_cases hw : Region.wanted o (yielded all a.tmps) = true
    · rw [if_pos hw] at h ⊢
      rcases h with h | ⟨h1, a1, w1, h2⟩
      · exact .inl (Oper.wp_shift (fun a w h => wpList_shift r a w h) h)
      · refine .inr ⟨?_, shift ds a1, w1, a1, rfl, h2⟩
        unfold Oper.asks at h1 ⊢
        rw [shift_eval]; exact h1
    · rw [if_neg hw] at h ⊢
      rw [shift_put]; exact wpList_shift r _ _ h
structure TD (X : Cx) (ds : List Deferred) (c : Code) (Q : Post) (σ : Env) (L : Lst) : Prop where
  run : ∀ a w, Mod X.n a σ → Hp X.w0 X.S L w → c.wp X.P (shQ ds (X.lift Q)) (shift ds a) w
section
variable {X : Cx} {ds : List Deferred} {x y : Code} {Q : Post} {σ : Env} {L : Lst}
theorem TD.region {id : Nat} {ops : Array Oper} (h : R X ops ops.toList (Q .normal) σ L) : TD X ds (.region id ops false) Q σ L :=
  ⟨fun a w ha hw => wp_mono (wp_region_list (wpList_shift _ _ _ (h.run a w ha hw))) fun e a w ⟨a2, h1, he, σ, L, h2, h3, h4⟩ => ⟨a2, h1, σ, L, h2, h3, he ▸ h4⟩⟩
theorem TD.seq (h : TD X ds x (thenQ (fun σ L => TD X ds y Q σ L) Q) σ L) : TD X ds (.seq x y) Q σ L :=
  ⟨fun a w ha hw => wp_seq (wp_mono (h.run a w ha hw) fun e a w ⟨a2, h1, σ, L, h2, h3, h4⟩ => by
    subst h1
    cases e with
    | normal => exact h4.run a2 w h2 h3
    | _ => exact ⟨a2, rfl, σ, L, h2, h3, h4⟩)⟩
theorem TD.ret (h : Q .ret σ L) : TD X ds .ret Q σ L := ⟨fun a w ha hw => wp_ret ⟨a, rfl, σ, L, ha, hw, h⟩⟩
end
/-- The judgement over a function that holds a range over a function, up to the loop. -/
structure TF (X : Cx) (fn : Func) (Rr : Ending → World → Prop) (c : Code) (σ : Env) (L : Lst) : Prop where
  run : ∀ a w, Mod X.n a σ → Hp X.w0 X.S L w → c.wp X.P (bodyPostM Fence.wide 0 X.P fn Rr) a w
def noQ (K : Env → Lst → Prop) : Post := fun e σ L => match e with | .normal => K σ L | _ => False
theorem TF.seq {X : Cx} {fn : Func} {Rr : Ending → World → Prop} {x y : Code} {σ : Env} {L : Lst} (h : T X x (noQ fun σ L => TF X fn Rr y σ L) σ L) : TF X fn Rr (.seq x y) σ L :=
  ⟨fun a w ha hw => wp_seq (wp_mono (h.run a w ha hw) fun e a w ⟨σ, L, h2, h3, h4⟩ => by
    cases e with
    | normal => exact h4.run a w h2 h3
    | _ => exact h4.elim)⟩
/-- The loop's record as the rounds find it. -/
structure RecOk (n : Nat) (σ : Env) (p : Nat) (assign body : Code) (rec : Loop) : Prop where
  mod : Mod n { tmps := rec.tmps, defers := [] } σ
  params : rec.params = #[p]
  assign : rec.assign = assign
  body : rec.body = body
  state : rec.state = .ready
  pending : rec.pending = none
/-- Where the loop begins: what the iterator is handed (La), what its call leaves (J), and the rest of the function. -/
structure RG (X : Cx) (gf : Nat) (k p : Nat) (assign body rest : Code) (Rp : Value → Lst → Prop) (g : Operand) (σ : Env) (L : Lst) : Prop where
  ex : ∃ (lb : List Value) (La Lr : Lst) (J : Lst → Prop), Keep L (La ++ Lr) ∧ ev σ g = some (.func (.func gf) #[] lb.toArray) ∧
    (∀ l rec w, RecOk X.n σ p assign body rec → (∃ L2, Hp X.w0 X.S (((l, .loop rec) :: La) ++ L2) w) → CallM X.P gf (.func (.yield l) #[] #[] :: lb) ((l, .loop rec) :: La) w fun v L' => ∃ Lb, J Lb ∧ L' = (l, .loop rec) :: Lb) ∧
    (∀ D Lb, J Lb → TD X [{ target := .collected D, args := #[] }] rest (fun e σ' L' => e = .ret ∧ ∃ v L3, look σ' k = some v ∧ Keep L' ((D, .deferred (some [])) :: L3) ∧ Rp v L3) σ ((D, .deferred (some [])) :: (Lb ++ Lr)))
theorem TF.range {X : Cx} {fn : Func} {Rp : Value → Lst → Prop} {x rest assign body : Code} {id p k gf : Nat} {g : Operand} {σ : Env} {L : Lst} (hfn : fn.results = #[.tmp k]) (he : X.tb.fns.contains gf = true)
    (h : T X x (noQ fun σ L => RG X gf k p assign body rest Rp g σ L) σ L) :
    TF X fn (fun e w' => ∃ v L', e = .returned v ∧ Rp v L' ∧ Hp X.w0 X.S L' w') (.seq (.seq x (.block id (.rangeFunc g #[p] assign body))) rest) σ L := by
  refine ⟨fun a w ha hw => wp_seq (wp_seq (wp_mono (h.run a w ha hw) ?_))⟩
  rintro e a w ⟨σ1, L1, m1, h1, q⟩
  cases e with
  | normal =>
    obtain ⟨lb, La, Lr, J, hk, hg, hc, hr⟩ := q.ex
    refine wp_block (wpIn_wide.1 (wpIn_rangeFunc (F := Fence.wide) (n := 0) fun fnn _ => ?_))
    obtain ⟨rec, hrec⟩ : ∃ rec : Loop, rec = { state := .ready, pending := none, fn := fnn, tmps := a.tmps, params := #[p], assign, body, defers := w.heap.size } := ⟨_, rfl⟩
    have hp1 := h1.keep hk
    have hp2 := hp1.alloc (.deferred (some []))
    have hp3 := hp2.alloc (.loop rec)
    rw [World.size_alloc] at hp3
    have hok : RecOk X.n σ1 p assign body rec := by
      subst hrec
      exact ⟨⟨m1.size, rfl, m1.ok⟩, rfl, rfl, rfl, rfl, rfl⟩
    have hperm : (((w.heap.size + 1, Obj.loop rec) :: La) ++ ((w.heap.size, Obj.deferred (some [])) :: Lr)).Perm ((w.heap.size + 1, Obj.loop rec) :: (w.heap.size, Obj.deferred (some [])) :: (La ++ Lr)) := by
      rw [List.cons_append]
      exact (List.perm_middle).cons _
    have hp4 := hp3.perm hperm
    generalize hW : (w.alloc (.deferred (some []))).alloc (.loop rec) = W1 at *
    refine ⟨w.heap.size + 1, [{ target := .collected w.heap.size, args := #[] }], W1, { target := .fn (.func gf) lb.toArray, args := #[.func (.yield (w.heap.size + 1)) #[] #[]] }, W1, gf,
      (.func (.yield (w.heap.size + 1)) #[] #[] :: lb).toArray, W1, ?_, ?_, fun _ _ => trivial, ?_, fun e => (by cases e), ?_⟩
    · rw [← hW, hrec]; exact run_enterLoop_outer _ _ _ _ _
    · simp only [resolve, m1.ev hg]
      simp [go_sem]
    · have h9 := X.tb.ent he (.func (.yield (w.heap.size + 1)) #[] #[] :: lb).toArray W1
      simp only [invoke]
      simpa using h9
    · have hin : Hp W1 (blks ((w.heap.size + 1, Obj.loop rec) :: La)) ((w.heap.size + 1, Obj.loop rec) :: La) W1 := ⟨.refl _ _, fun b o hm => hp4.get b o (List.mem_append_left _ hm), (List.nodup_append.1 (by have := hp4.nod; rwa [List.map_append] at this)).1, fun b o hm => .inr (List.mem_map.2 ⟨(b, o), hm, rfl⟩)⟩
      refine callsIn_wide.2 (Calls.mono ((hc (w.heap.size + 1) rec W1 hok ⟨_, hp4⟩).run hin) ?_)
      rintro e w3 ⟨v, L', rfl, ⟨Lb, hJ, rfl⟩, h3⟩
      have hp5 := hp4.callM h3
      have hl5 := hp5.get (w.heap.size + 1) _ List.mem_cons_self
      have hlt5 : w.heap.size + 1 < w3.heap.size := (Array.getElem?_eq_some_iff.1 hl5).1
      refine ⟨none, w3.putObj (w.heap.size + 1) (.loop { rec with state := .exhausted }), by rw [run_endLoop hl5 (by rw [hok.state]; simp), hok.pending], ?_⟩
      have hp6 : Hp X.w0 X.S ((w.heap.size + 1, Obj.loop { rec with state := .exhausted }) :: (Lb ++ ((w.heap.size, Obj.deferred (some [])) :: Lr))) (w3.putObj (w.heap.size + 1) (.loop { rec with state := .exhausted })) := hp5.upd .head (Chg.setObj w3 _ (by simp)) (World.putObj_heap_same hlt5)
      have hp7 := (hp6.sub (List.sublist_cons_self _ _)).perm (List.perm_middle.symm)
      have hrun := (hr w.heap.size Lb hJ).run a _ m1 hp7
      have hsh : shift [{ target := .collected w.heap.size, args := #[] }] a = { a with defers := [{ target := .collected w.heap.size, args := #[] }] ++ a.defers } := by
        unfold shift; rw [m1.defers]; rfl
      rw [hsh] at hrun
      refine wp_mono hrun ?_
      rintro e a9 w9 ⟨a10, rfl, σ9, L9, m9, h9, rfl, v9, L10, hv9, hk9, hR9⟩
      have h10 := h9.keep hk9
      have hD := h10.get w.heap.size _ List.mem_cons_self
      have hltD : w.heap.size < w9.heap.size := (Array.getElem?_eq_some_iff.1 hD).1
      have h11 : Hp X.w0 X.S ((w.heap.size, Obj.deferred none) :: L10) (w9.putObj w.heap.size (.deferred none)) := h10.upd .head (Chg.setObj w9 _ (by simp)) (World.putObj_heap_same hltD)
      have hde : (shift [{ target := .collected w.heap.size, args := #[] }] a10).defers = [{ target := .collected w.heap.size, args := #[] }] := by
        unfold shift; simp [m9.defers]
      show LeavesInM Fence.wide 0 X.P fn _ _ _ .returning w9
      rw [hde]
      refine ⟨by simp, .inl ⟨w.heap.size, _, rfl, run_takeDeferred hD, v9, ?_, v9, L10, rfl, hR9, h11.sub (List.sublist_cons_self _ _)⟩⟩
      rw [results_tmp hfn]
      have := m9.ok k v9 hv9
      show Result.ok ((shift _ a10).tmps.getD k undef) _ = _
      rw [show (shift [{ target := Target.collected w.heap.size, args := #[] }] a10).tmps = a10.tmps from rfl, this]
  | _ => exact q.elim
theorem number_mod {fn : Func} {n : Nat} {vs : List Value} (hn : fn.ntmps = n) (hvn : vs.length ≤ n) : Mod n { tmps := vs.toArray ++ Array.replicate (fn.ntmps - vs.toArray.size) undef, defers := [] } (number 0 vs) := by
  refine ⟨by simp [hn]; omega, rfl, fun t v hv => ?_⟩
  obtain ⟨_, h2⟩ := number_look hv
  rw [Nat.sub_zero] at h2
  obtain ⟨hl, he⟩ := List.getElem?_eq_some_iff.1 h2
  have h3 : (vs.toArray ++ Array.replicate (fn.ntmps - vs.toArray.size) undef)[t]? = some v := by
    rw [Array.getElem?_append, if_pos (by simpa using hl)]; simpa using h2
  simp only [Array.getD]
  obtain ⟨h4, h5⟩ := Array.getElem?_eq_some_iff.1 h3
  rw [dif_pos h4]; exact h5
theorem enterF {P : Program} (tb : Tb P) {f : FuncId} {fn : Func} {c : Code} {vs : List Value} {n : Nat} {R1 : Value → Lst → Prop} {w : World} {L : Lst}
    (hf : P.funcs[f]? = some fn) (hb : fn.body = some c) (hn : fn.ntmps = n) (hvn : Nat.ble vs.length n = true)
    (h : TF ⟨P, tb, n, w, blks L⟩ fn (fun e w' => ∃ v L', e = .returned v ∧ R1 v L' ∧ Hp w (blks L) L' w') c (number 0 vs) L) : CallM P f vs L w R1 := by
  refine ⟨fun hw => callsIn_wide.1 (callsIn_of_wp_marks (F := Fence.wide) (n := 0) hf hb trivial (wpIn_wide.2 (h.run _ w ?_ hw)))⟩
  exact number_mod hn (Nat.le_of_ble_eq_true hvn)
end Go.Proofs.YtplhnkmmhndkjaaGreat
set_option linter.unusedSimpArgs false
set_option linter.unusedVariables false
set_option linter.unusedSectionVars false
namespace Go.Proofs.YtplhnkmmhndkjaaGreat
open Go.RowKit Go.Shelf
def noDefers (ops : Array Oper) : Bool := ops.toList.all noDefer
theorem noDefers_get {ops : Array Oper} (h : noDefers ops = true) {i : Nat} {o : Oper} (hi : ops[i]? = some o) : noDefer o = true := by
  unfold noDefers at h
  rw [List.all_eq_true] at h
  exact h o (by rw [Array.mem_toList_iff]; exact Array.mem_of_getElem? hi)
theorem wpList_fen {ro : Option Nat} {X : Cx} {ops : Array Oper} {K : Env → Lst → Prop} : ∀ (l : List Oper) (a : Act) (w : World), l.all noDefer = true → wpList X.P ops (X.liftK K) l a w → wpListIn (fen ro) 0 X.P ops (X.liftK K) l a w
  | [], _, _, _, h => h
  | o :: r, a, w, hd, h => by
    rw [List.all_cons, Bool.and_eq_true] at hd
    unfold wpList at h
    unfold wpListIn
    by_cases hwd : Region.wanted o (yielded ops a.tmps) = true
    · rw [if_pos hwd] at h ⊢
      rcases h with h | ⟨_, a, w, h⟩
      · exact Oper.wp_fen hd.1 (Oper.wp_change (fun a w h => wpList_fen r a w hd.2 h) (fun c a w h => by cases h.1) (fun ⟨a, w, h⟩ => by cases h.1) h)
      · cases h.1
    · rw [if_neg hwd] at h ⊢
      exact ⟨fun f _ => fen_fn ro f, wpList_fen r _ _ hd.2 h⟩
theorem wpAny_fen {ro : Option Nat} {X : Cx} {ops : Array Oper} {K : Env → Lst → Prop} (hd : noDefers ops = true) : ∀ (fuel : Nat) (listed : Array Bool) (a : Act) (w : World), wpAny X.P .any ops (X.liftK K) fuel listed a w → wpAnyIn (fen ro) 0 X.P .any ops (X.liftK K) fuel listed a w
  | 0, _, _, _, h => h
  | fuel + 1, listed, a, w, h => by
    refine ⟨h.1, fun i hi => ?_⟩
    have h1 := h.2 i hi
    unfold wpOp at h1
    unfold wpOpIn
    cases ho : ops[i]? with
    | none => rw [ho] at h1; exact wpAny_fen hd fuel _ a w h1
    | some o =>
      rw [ho] at h1
      simp only at h1 ⊢
      by_cases hwd : Region.wanted o (yielded ops a.tmps) = true
      · rw [if_pos hwd] at h1 ⊢
        rcases h1 with h1 | ⟨_, a, w, h1⟩
        · exact Oper.wp_fen (noDefers_get hd ho) (Oper.wp_change (fun a w h => wpAny_fen hd fuel _ a w h) (fun c a w h => by cases h.1) (fun ⟨a, w, h⟩ => by cases h.1) h1)
        · cases h1.1
      · rw [if_neg hwd] at h1 ⊢
        exact ⟨fun f _ => fen_fn ro f, wpAny_fen hd fuel _ _ _ h1⟩
/-- The judgement over code within a round. -/
structure TI (X : Cx) (ro : Option Nat) (c : Code) (Q : Post) (σ : Env) (L : Lst) : Prop where
  run : ∀ a w, Mod X.n a σ → Hp X.w0 X.S L w → c.wpIn (fen ro) 0 X.P (X.lift Q) a w
section
variable {X : Cx} {ro : Option Nat} {x y c : Code} {Q : Post} {σ : Env} {L : Lst} {id : Nat} {ops : Array Oper}
theorem TI.region (hd : noDefers ops = true) (h : R X ops ops.toList (Q .normal) σ L) : TI X ro (.region id ops false) Q σ L :=
  ⟨fun a w ha hw => Go.wpIn_mono (wpIn_region_list (wpList_fen _ a w hd (h.run a w ha hw))) fun e a w ⟨he, σ, L, h1, h2, h3⟩ => ⟨σ, L, h1, h2, he ▸ h3⟩⟩
theorem TI.drawC (is : List Nat) (hn : is.Nodup) (hd : noDefers ops = true) (h : A X ops (pick L is) ops.size (Array.replicate ops.size false) (Q .normal) σ L) : TI X ro (.region id ops true) Q σ L :=
  ⟨fun a w ha hw => by
    have hw' := hw.step (Chg.drew [] w)
    exact Go.wpIn_mono (wpIn_region_any X.tb.mix (wpAny_fen hd _ _ _ _ (wpAny_of_C _ _ _ _ (h.run a _ ha hw' (hw'.pick hn))))) fun e a w ⟨he, σ, L, h1, h2, h3⟩ => ⟨σ, L, h1, h2, he ▸ h3⟩⟩
theorem TI.seq (h : TI X ro x (noQ fun σ L => TI X ro y Q σ L) σ L) : TI X ro (.seq x y) Q σ L :=
  ⟨fun a w ha hw => wpIn_seq (Go.wpIn_mono (h.run a w ha hw) fun e a w ⟨σ, L, h1, h2, h3⟩ => by
    cases e with
    | normal => exact h3.run a w h1 h2
    | _ => exact h3.elim)⟩
theorem TI.block {K : Env → Lst → Prop} (h : TI X ro c (noQ K) σ L) : TI X ro (.block id c) (noQ K) σ L :=
  ⟨fun a w ha hw => wpIn_block (Go.wpIn_mono (h.run a w ha hw) fun e a w ⟨σ, L, h1, h2, h3⟩ => by
    cases e with
    | normal => exact ⟨σ, L, h1, h2, h3⟩
    | _ => exact h3.elim)⟩
theorem TI.weak {σ' : Env} {L' : Lst} (h : TI X ro c Q σ' L') (hk : Keep L L') (hs : Sub σ' σ) : TI X ro c Q σ L := ⟨fun a w ha hw => h.run a w (ha.sub hs) (hw.keep hk)⟩
end
theorem RetOk.run {X : Cx} {fn : Func} {Rp : Value → Lst → Prop} {σ : Env} {L : Lst} {a : Act} {w : World} (h : RetOk X fn.results.toList Rp σ L) (ha : Mod X.n a σ) (hw : Hp X.w0 X.S L w) : ∃ v, (results fn a.tmps).run X.P w = .ok v w ∧ Rp v L := by
  obtain ⟨⟨vs, h4, h5⟩⟩ := h
  refine ⟨tup vs, ?_, h5⟩
  have := ResIs.run ha hw h4
  have h6 : (fn.results.mapM (m := Sem) fun | .tmp t => Pure.pure (a.tmps.getD t undef) | .cell b t => do loadVar t (← asAddr (a.tmps.getD b undef))).run X.P w = .ok vs.toArray w := by
    rw [← Array.toArray_toList (xs := fn.results), List.mapM_toArray]
    simp only [Sem.run_map]
    erw [this]
    rfl
  simp only [results, Sem.run_bind]
  erw [h6]
  simp only [Result.andThen_ok, Sem.run_pure]
  congr 1
  cases vs with
  | nil => rfl
  | cons v vs => cases vs <;> rfl
end Go.Proofs.YtplhnkmmhndkjaaGreat
set_option linter.unusedSimpArgs false
set_option linter.unusedVariables false
set_option linter.unusedSectionVars false
namespace Go.Proofs.YtplhnkmmhndkjaaGreat
open Go.RowKit Go.Shelf Go.ChangeShapes Go.WideShapes Go.Deep
/-- A cell of this kind, within its range. -/
def cellW : TK → Value → Prop
  | .int k, .int k' n => k' = k ∧ k.min ≤ n ∧ n ≤ k.max
  | .bool, .bool _ => True
  | .string, .string s => s.size ≤ maxLen
  | _, _ => False
def allW : List TK → List Value → Prop
  | [], [] => True
  | k :: ks, v :: vs => cellW k v ∧ allW ks vs
  | _, _ => False
theorem allW_append : ∀ {ks ls : List TK} {vs : List Value}, allW ks (vs.take ks.length) → allW ls (vs.drop ks.length) → allW (ks ++ ls) vs
  | [], ls, vs, _, h => by simpa using h
  | k :: ks, ls, [], h, _ => by simp [allW] at h
  | k :: ks, ls, v :: vs, h, h2 => by
    simp only [List.length_cons, List.take_succ_cons, List.drop_succ_cons, allW] at h h2
    exact ⟨h.1, allW_append h.2 h2⟩

section
variable {H : Type} {enc : TypeId × Value → H} {P : Program} {w : World} {base : Nat} {spare : Nat → Bool} {held : Bool}
theorem cells_of (w : World) {t sz : Nat} (h : ∀ w, (Go.sizeOf t).run P w = .ok sz w) : P.cellsOf t = sz := by
  have := h w
  simp only [Go.sizeOf, typeInfo, Sem.run_bind, Sem.run_pure] at this
  unfold Program.cellsOf
  cases hi : P.info? t with
  | none => simp [hi] at this
  | some i => simp [hi] at this; simp [this]
theorem trodFs {g : Nat → Option (List TK)} {n : Nat} {cs : List Value} (hg : ∀ t ks us x, g t = some ks → P.cellsOf t = ks.length → DataW.trod enc P w base spare held n t us = some x → allW ks us) :
    ∀ (fields : List Field) (fs : List (Nat × Nat × Nat)) (k : Nat) (ks : List TK), Flds P fields fs → flatFs g fs k = some ks → cs.length = k + ks.length → (∀ f ∈ fields, ∃ x, DataW.trod enc P w base spare held n f.type ((cs.drop f.offset).take (P.cellsOf f.type)) = some x) → allW ks (cs.drop k)
  | [], [], k, ks, _, h, hl, _ => by
    simp only [flatFs, Option.some.injEq] at h
    subst h
    rw [List.drop_eq_nil_of_le (by simp at hl; omega)]
    trivial
  | [], _ :: _, _, _, h, _, _, _ => h.elim
  | _ :: _, [], _, _, h, _, _, _ => h.elim
  | f :: fields, (t, off, sz) :: fs, k, ks, hF, h, hl, hx => by
    obtain ⟨e1, e2, e3, e4, e5⟩ := hF
    simp only [flatFs] at h
    split at h
    · cases h
    · rename_i hb
      have hb' := Nat.eq_of_beq_eq_true hb
      split at h
      · cases h
      · rename_i k1 hk1
        split at h
        · cases h
        · rename_i hl1
          have hl1' := Nat.eq_of_beq_eq_true hl1
          split at h
          · cases h
          · rename_i k2 hk2
            cases h
            obtain ⟨x, hx1⟩ := hx f List.mem_cons_self
            have hsz := cells_of w e3
            rw [e1, e2, hsz, hb'] at hx1
            have h1 := hg t k1 _ x hk1 (by rw [hsz, hl1']) hx1
            have h2 := trodFs hg fields fs (k + sz) k2 e5 hk2 (by rw [hl, List.length_append, hl1']; omega) fun f' hf' => hx f' (List.mem_cons_of_mem _ hf')
            refine allW_append (by rw [hl1']; exact h1) ?_
            rw [List.drop_drop, hl1']; exact h2
theorem allW_rep {k1 : List TK} : ∀ (m : Nat) (cs : List Value), cs.length = m * k1.length → (∀ i, i < m → allW k1 ((cs.drop (i * k1.length)).take k1.length)) → allW (repK k1 m) cs
  | 0, cs, hl, _ => by
    have : cs = [] := by cases cs; rfl; simp at hl
    subst this; trivial
  | m + 1, cs, hl, h => by
    have h0 := h 0 (by omega)
    simp only [Nat.zero_mul, List.drop_zero] at h0
    rw [Nat.add_mul] at hl
    refine allW_append h0 (allW_rep m _ (by rw [List.length_drop, hl]; omega) fun i hi => ?_)
    have := h (i + 1) (by omega)
    rwa [List.drop_drop, show k1.length + i * k1.length = (i + 1) * k1.length by rw [Nat.add_mul]; omega]
theorem trod_flat (tb : Tb P) : ∀ (n t : Nat) (ks : List TK), flatE tb n t = some ks → P.cellsOf t = ks.length → ∀ fuel cs x, DataW.trod enc P w base spare held fuel t cs = some x → allW ks cs
  | 0, _, _, h, _, _, _, _, _ => by cases h
  | n + 1, t, ks, h, hlen, fuel, cs, x, hx => by
    simp only [flatE] at h
    split at h
    · cases h
    · rename_i r hr
      have hgd := tb.get hr
      have his := hgd.is
      split at h
      · rename_i k hk
        rw [hk] at his
        cases h
        obtain ⟨m, rfl, _, hwf⟩ := DataW.trod_int his hx
        simp only [Lit.wf, Bool.and_eq_true, decide_eq_true_eq] at hwf
        exact ⟨⟨rfl, hwf⟩, trivial⟩
      · rename_i hk
        rw [hk] at his
        cases h
        obtain ⟨b, rfl, _⟩ := DataW.trod_bool his hx
        exact ⟨trivial, trivial⟩
      · rename_i hk
        rw [hk] at his
        cases h
        obtain ⟨s, rfl, _, hs⟩ := DataW.trod_string his hx
        exact ⟨hs, trivial⟩
      · rename_i fs hk
        rw [hk] at his
        obtain ⟨fields, h1, h2⟩ := his
        obtain ⟨xs, m, rfl, _, hcl, hxl, hf⟩ := DataW.trod_struct h1 hx
        have := trodFs (cs := cs) (n := m) (fun t ks us x hg hc ht => trod_flat tb n t ks hg hc m us x ht) fields.toList fs 0 ks h2 h (by rw [hcl, hlen]; omega) fun f hf' => by
          obtain ⟨i, hi, he⟩ := List.getElem_of_mem hf'
          have h3 : fields[i]? = some f := by rw [← he]; simp at hi; simp [hi]
          have h4 := hf i f h3
          simp at hi
          rw [List.getElem?_eq_getElem (by omega)] at h4
          exact ⟨_, h4⟩
        simpa using this
      · rename_i mm e hk
        rw [hk] at his
        split at h
        · cases h
        · rename_i re hre
          split at h
          · cases h
          · rename_i k1 hk1
            split at h
            · cases h
            · rename_i hl1
              have hl1' := Nat.eq_of_beq_eq_true hl1
              cases h
              obtain ⟨xs, m, rfl, _, hcl, hxl, hf⟩ := DataW.trod_array his hx
              have hce : P.cellsOf e = k1.length := by rw [cells_of w (tb.get hre).size, hl1']
              refine allW_rep mm cs (by rw [hcl, hlen, repK_len]) fun i hi => ?_
              have h4 := hf i hi
              rw [hce, List.getElem?_eq_getElem (by omega)] at h4
              exact trod_flat tb n e k1 hk1 hce m _ _ h4
      · cases h

/-- A slice of plain rows that came in. -/
theorem open_rows {α : Type} [Inhabited α] (f : α → List Value) (tb : Tb P) {t e : TypeId} {r re : TRow} {ks : List TK} {v : Value} {d : DataW H} {p : List MemPlace} (ht : tb.row t = some r) (hk : r.k = .slice e) (he : tb.row e = some re) (hf : flatE tb 8 e = some ks) (hl : Nat.beq ks.length re.size = true) (hpos : Nat.ble 1 ks.length = true)
    (hlen : ∀ a, (f a).length = ks.length) (dec : ∀ cs, allW ks cs → ∃ a, f a = cs)
    {rc : Reach} {b0 : Nat} (hv : Value.okWide P w rc b0 t v) (h : DataW.Trod enc P w base spare held t v d p) :
    ∃ (a : Option Addr) (rs : List α) (cap : Nat), v = .slice a rs.length cap ∧ RdSl w a f rs ∧ rs.length ≤ cap ∧ cap ≤ maxLen ∧ (∀ x ∈ rs, allW ks (f x)) ∧ (a = none → cap = 0) := by
  have hu : P.underlying t = some (.slice e) := by have := (tb.get ht).is; rw [hk] at this; exact this
  obtain ⟨a0, len0, cap0, rfl⟩ := okWide_slice hu hv
  obtain ⟨fuel, hfu⟩ := h
  have hce : P.cellsOf e = ks.length := by rw [cells_of w (tb.get he).size, Nat.eq_of_beq_eq_true hl]
  rcases open_slice hu hfu with ⟨h0, _⟩ | ⟨a, len, cap, m, n, D, Pl, hcs, hb, hlc, hm, hmm, hx, hi⟩
  · have : a0 = none ∧ len0 = 0 ∧ cap0 = 0 := by simpa [Value.cells] using h0
    obtain ⟨rfl, rfl, rfl⟩ := this
    exact ⟨none, [], 0, rfl, .inl rfl, by simp, by simp, by simp, fun _ => rfl⟩
  · have : a0 = some a ∧ len0 = len ∧ cap0 = cap := by simpa [Value.cells] using hcs
    obtain ⟨rfl, rfl, rfl⟩ := this
    have hle : len0 ≤ m := by rw [hmm]; split <;> omega
    obtain ⟨R, hR⟩ := choose_lt (α := α) (p := fun i x => w.cells? base (a.add (i * P.cellsOf e)) (P.cellsOf e) = some (f x) ∧ allW ks (f x)) (n := len0) (fun i hi' => by
      obtain ⟨cs', h1, h2⟩ := hi i (by omega)
      have h3 := trod_flat tb 8 e ks hf hce _ _ _ h2
      obtain ⟨x, hx⟩ := dec cs' h3
      exact ⟨x, by rw [hx]; exact h1, by rw [hx]; exact h3⟩)
    have hrl : ((List.range len0).map R).length = len0 := by simp
    refine ⟨some a, (List.range len0).map R, cap0, by rw [hrl], ?_, by rw [hrl]; exact hlc, hm, ?_, fun h => by cases h⟩
    · by_cases hz : len0 = 0
      · left; simp [hz]
      · right
        have hpos' := Nat.le_of_ble_eq_true hpos
        have hspot : a.spot = none := by
          obtain ⟨_, h2, h3⟩ := World.cells?_some (hR 0 (by omega)).1
          have h4 := h3 0 (by omega)
          rw [List.getElem?_eq_getElem (by omega)] at h4
          unfold World.cell? at h4
          cases a with | mk b o s =>
          cases s with
          | none => rfl
          | some s => 
            simp only [Addr.add] at h4
            split at h4
            · simp at h4
            · cases h4
        cases a with | mk b o s =>
        simp only at hspot
        subst hspot
        refine ⟨b, o, rfl, fun k hk' => ?_⟩
        rw [fl_len hlen, hrl] at hk'
        have hdm := Nat.div_add_mod k ks.length
        have hml := Nat.mod_lt k (show 0 < ks.length by omega)
        have hil : k / ks.length < len0 := by rw [Nat.div_lt_iff_lt_mul (by omega)]; exact hk'
        have hgi : ((List.range len0).map R)[k / ks.length]? = some (R (k / ks.length)) := by simp [hil]
        have h5 := fl_get hlen hgi hml
        rw [show k / ks.length * ks.length + k % ks.length = k by rw [Nat.mul_comm]; exact hdm] at h5
        rw [h5]
        obtain ⟨_, h2, h3⟩ := World.cells?_some (hR _ hil).1
        have h4 := h3 (k % ks.length) (by rw [hce]; exact hml)
        rw [Addr.add_none, Addr.add_none, hce] at h4
        rw [← h4, show o + k / ks.length * ks.length + k % ks.length = o + k by rw [Nat.add_assoc, show k / ks.length * ks.length + k % ks.length = k by rw [Nat.mul_comm]; exact hdm]]
    · intro x hx'
      obtain ⟨i, hi', rfl⟩ := List.mem_map.1 hx'
      exact (hR i (List.mem_range.1 hi')).2

/-- The arguments read behind the call as before: nothing that was there has changed. -/
theorem trodAll_stays {W W' : World} (hl : laidOutB P = true) (hb : Below W.heap.size W W') {sp : Nat → Bool} : ∀ {ts : List TypeId} {vs : List Value} {ds : List (DataW H)} {ps : List MemPlace}, (∀ t ∈ ts, P.readableRec t = true ∧ t < P.types.size) →
    DataW.TrodAll enc P W 0 (fun _ => true) true ts vs ds ps → (∀ p ∈ ps, p.block < W.heap.size ∧ sp p.block = true) → DataW.TrodAll enc P W' 0 sp true ts vs ds ps
  | [], vs, ds, ps, _, h, _ => by
    obtain ⟨rfl, rfl, rfl⟩ := trodAll_nil h
    exact trodAll_mk0
  | t :: ts, vs, ds, ps, hr, h, hp => by
    obtain ⟨v, vs', d, ds', p, q, rfl, rfl, rfl, h1, h2⟩ := trodAll_cons h
    have g := hr t List.mem_cons_self
    exact ⟨p, q, WideElems.Trod_stays hl g.1 g.2 h1 (fun x hx => hb.same (hp x (List.mem_append_left _ hx)).1) (fun x hx => (hp x (List.mem_append_left _ hx)).2),
      trodAll_stays hl hb (fun t' ht' => hr t' (List.mem_cons_of_mem _ ht')) h2 (fun x hx => hp x (List.mem_append_right _ hx)), rfl⟩
/-- A statement's last step: it returned true, and nothing that was there has changed. -/
theorem law_post {f : Func} {s : ChangeSpec} {apart fresh handsOn again : Bool} {W W' : World} {args : Array Value} {ds gs : List (DataW H)} {before : List MemPlace} {tt : TypeId}
    (hW : DataW.Whole enc P f.params.toList s.vars apart W args.toList ds gs before) (hv : s.vars = []) (hfn : s.fn H ds = { results := [.lit (.bool true)], args := ds, vars := [] })
    (hrt : f.resultTypes = #[tt]) (htt : P.underlying tt = some .bool) (hl : laidOutB P = true) (hread : ∀ t ∈ f.params.toList, P.readableRec t = true ∧ t < P.types.size) (hb : Below W.heap.size W W') :
    s.post enc P f apart fresh handsOn again W args (.bool true) W' := by
  have hlt : ∀ p ∈ before, p.block < W.heap.size := fun p hp => hW.lt p hp
  obtain ⟨p, q, hA, hV, rfl, hz, hn⟩ := hW
  have hV' := hV
  rw [hv] at hV'
  obtain ⟨rfl, rfl⟩ := trodVars_none hV'
  rw [List.append_nil] at hlt hz hn
  have key : ∀ sp : Nat → Bool, (∀ x ∈ p, sp x.block = true) → DataW.TrodAll enc P W' 0 sp true f.params.toList args.toList ds p := fun sp hs => trodAll_stays hl hb hread hA fun x hx => ⟨hlt x hx, hs x hx⟩
  have hres : ∀ (b : Nat) (sp : Nat → Bool) (hd : Bool), DataW.TrodAll enc P W' b sp hd f.resultTypes.toList ((Value.bool true).resultList f.resultTypes.size) [.lit (.bool true)] [] := fun b sp hd => by
    rw [hrt]; exact trodAll_mk1 (shut_bool htt true)
  refine ⟨ds, [], p, [], p, [], ⟨p, [], hA, hV, by simp, hz, hn⟩, ?_, ?_, ?_, World.keptBut_mono (fun x hx => ⟨hx, .inr (.inl hx)⟩) (hb.frame (· ∈ p)), fun _ => ⟨?_, ?_⟩⟩
  · rw [List.append_nil, hfn]; exact hres _ _ _
  · rw [List.append_nil, hfn]; exact key _ fun x hx => by simpa using hlt x hx
  · rw [List.append_nil, hfn, hv]; rfl
  · exact ok_one hrt rfl (okWide_bool_mk htt true)
  · refine ⟨.lit (.bool true) :: ds, [], p, ⟨p, [], ?_, by rw [hv]; rfl, by simp, ?_, hn⟩, fun x hx _ => hx⟩
    · rw [hrt]
      exact ⟨[], p, shut_bool htt true, key _ fun _ _ => rfl, rfl⟩
    · intro b off hx
      rw [hb.frozen (hlt _ hx)]
      exact hz b off hx
end
end Go.Proofs.YtplhnkmmhndkjaaGreat
set_option linter.unusedSimpArgs false
set_option linter.unusedVariables false
namespace Go.Proofs.YtplhnkmmhndkjaaGreat
open Go.ChangeShapes Go.WideShapes Go.ChangeAt Go.RowKit
theorem open_flat {α : Type} {P : Program} {H : Type} {enc : TypeId × Value → H} {w : World} {base : Nat} {spare : Nat → Bool} {held : Bool} (f : α → List Value) (tb : Tb P) {t : TypeId} {r : TRow} {fs : List (Nat × Nat × Nat)} {ks : List TK} {v : Value} {d : DataW H} {p : List MemPlace} (ht : tb.row t = some r) (hk : r.k = .strct fs) (hf : flatE tb 8 t = some ks) (hl : Nat.beq ks.length r.size = true)
    (dec : ∀ cs, allW ks cs → ∃ a, f a = cs) {rc : Reach} {b0 : Nat} (hv : Value.okWide P w rc b0 t v) (h : DataW.Trod enc P w base spare held t v d p) : ∃ a, v = .agg ⟨f a⟩ ∧ allW ks (f a) := by
  have his := (tb.get ht).is
  rw [hk] at his
  obtain ⟨fields, h1, _⟩ := his
  obtain ⟨cs, rfl, _⟩ := okWide_struct h1 hv
  obtain ⟨fuel, hfu⟩ := h
  have hce : P.cellsOf t = ks.length := by rw [cells_of w (tb.get ht).size, Nat.eq_of_beq_eq_true hl]
  have h3 := trod_flat tb 8 t ks hf hce _ _ _ hfu
  obtain ⟨a, ha⟩ := dec _ h3
  refine ⟨a, ?_, by rw [ha]; exact h3⟩
  rw [ha]
  cases cs
  rfl

set_option linter.unusedSectionVars false
open Go.Shelf Go.Deep
section
variable {H : Type} {enc : TypeId × Value → H} {P : Program} {w : World} {base : Nat} {spare : Nat → Bool} {held : Bool}
/-- What a type's cells may be, once they have been trodden. -/
def Opens (enc : TypeId × Value → H) (P : Program) (w : World) (base : Nat) (spare : Nat → Bool) (held : Bool) (t : TypeId) (Q : List Value → Prop) : Prop := ∀ fuel cs x, DataW.trod enc P w base spare held fuel t cs = some x → Q cs
/-- One field of a struct. -/
theorem Opens.field (tb : Tb P) {t ft off sz : Nat} {r : TRow} {fs : List (Nat × Nat × Nat)} {Q : List Value → Prop} (ht : tb.row t = some r) (hk : r.k = .strct fs) (i : Nat) (hi : fldE fs i = some (ft, off, sz)) (hQ : Opens enc P w base spare held ft Q) :
    Opens enc P w base spare held t fun cs => cs.length = r.size ∧ Q ((cs.drop off).take sz) := by
  intro fuel cs x hx
  have his := (tb.get ht).is
  rw [hk] at his
  obtain ⟨fields, h1, h2⟩ := his
  obtain ⟨xs, m, rfl, _, hcl, hxl, hf⟩ := DataW.trod_struct h1 hx
  obtain ⟨f, g1, g2, g3, g4, _⟩ := Flds.get h2 hi
  have g1' : fields[i]? = some f := by rw [← g1]; simp
  have h4 := hf i f g1'
  have hlt : i < xs.length := by rw [hxl]; exact (Array.getElem?_eq_some_iff.1 g1').1
  rw [List.getElem?_eq_getElem hlt, g2, g3, cells_of w g4] at h4
  exact ⟨by rw [hcl, cells_of w (tb.get ht).size], hQ _ _ _ h4⟩
theorem Opens.mono {t : TypeId} {Q R : List Value → Prop} (h : Opens enc P w base spare held t Q) (h2 : ∀ cs, Q cs → R cs) : Opens enc P w base spare held t R := fun f cs x hx => h2 _ (h f cs x hx)
/-- A slice whose elements open. -/
theorem Opens.slice {α : Type} [Inhabited α] (f : α → List Value) (Q : α → Prop) (tb : Tb P) {t e : TypeId} {r re : TRow} (ht : tb.row t = some r) (hk : r.k = .slice e) (he : tb.row e = some re) (hpos : Nat.ble 1 re.size = true)
    (hlen : ∀ a, (f a).length = re.size) (hE : Opens enc P w base spare held e fun cs => ∃ a, f a = cs ∧ Q a) :
    Opens enc P w base spare held t fun cs => ∃ (a : Option Addr) (rs : List α) (cap : Nat), cs = [.slice a rs.length cap] ∧ RdSl w a f rs ∧ rs.length ≤ cap ∧ cap ≤ maxLen ∧ (∀ x ∈ rs, Q x) ∧ (a = none → cap = 0) := by
  intro fuel cs x hfu
  have hu : P.underlying t = some (.slice e) := by have := (tb.get ht).is; rw [hk] at this; exact this
  have hce : P.cellsOf e = re.size := cells_of w (tb.get he).size
  rcases open_slice hu hfu with ⟨h0, _⟩ | ⟨a, len, cap, m, n, D, Pl, hcs, hb, hlc, hm, hmm, hx, hi⟩
  · exact ⟨none, [], 0, h0, .inl rfl, by simp, by simp, by simp, fun _ => rfl⟩
  · have hle : len ≤ m := by rw [hmm]; split <;> omega
    obtain ⟨R, hR⟩ := choose_lt (α := α) (p := fun i x => w.cells? base (a.add (i * P.cellsOf e)) (P.cellsOf e) = some (f x) ∧ Q x) (n := len) (fun i hi' => by
      obtain ⟨cs', h1, h2⟩ := hi i (by omega)
      obtain ⟨x, hx, hq⟩ := hE _ _ _ h2
      exact ⟨x, by rw [hx]; exact h1, hq⟩)
    have hrl : ((List.range len).map R).length = len := by simp
    refine ⟨some a, (List.range len).map R, cap, by rw [hrl]; exact hcs, ?_, by rw [hrl]; exact hlc, hm, ?_, fun h => by cases h⟩
    · by_cases hz : len = 0
      · left; simp [hz]
      · right
        have hpos' := Nat.le_of_ble_eq_true hpos
        have hspot : a.spot = none := by
          obtain ⟨_, h2, h3⟩ := World.cells?_some (hR 0 (by omega)).1
          have h4 := h3 0 (by omega)
          rw [List.getElem?_eq_getElem (by omega)] at h4
          unfold World.cell? at h4
          cases a with | mk b o s =>
          cases s with
          | none => rfl
          | some s =>
            simp only [Addr.add] at h4
            split at h4
            · simp at h4
            · cases h4
        cases a with | mk b o s =>
        simp only at hspot
        subst hspot
        refine ⟨b, o, rfl, fun k hk' => ?_⟩
        rw [fl_len hlen, hrl] at hk'
        have hdm := Nat.div_add_mod k re.size
        have hml := Nat.mod_lt k (show 0 < re.size by omega)
        have hil : k / re.size < len := by rw [Nat.div_lt_iff_lt_mul (by omega)]; exact hk'
        have hgi : ((List.range len).map R)[k / re.size]? = some (R (k / re.size)) := by simp [hil]
        have h5 := fl_get hlen hgi hml
        rw [show k / re.size * re.size + k % re.size = k by rw [Nat.mul_comm]; exact hdm] at h5
        rw [h5]
        obtain ⟨_, h2, h3⟩ := World.cells?_some (hR _ hil).1
        have h4 := h3 (k % re.size) (by rw [hce]; exact hml)
        rw [Addr.add_none, Addr.add_none, hce] at h4
        rw [← h4, show o + k / re.size * re.size + k % re.size = o + k by rw [Nat.add_assoc, show k / re.size * re.size + k % re.size = k by rw [Nat.mul_comm]; exact hdm]]
    · intro x hx'
      obtain ⟨i, hi', rfl⟩ := List.mem_map.1 hx'
      exact (hR i (List.mem_range.1 hi')).2
end
section
variable {H : Type} {enc : TypeId × Value → H} {P : Program} {w : World} {base : Nat} {spare : Nat → Bool} {held : Bool}
end
end Go.Proofs.YtplhnkmmhndkjaaGreat
namespace Go.Proofs.YtplhnkmmhndkjaaGreat
open Go.RowKit Go.Shelf
def rowsTab : List (Option TRow) := [
  none,
  some { k := .fn, size := 1, bytes := 8, zero := .nilFunc },
  some { k := .int .i64, size := 1, bytes := 8, zero := .int .i64 0 },
  some { k := .int .i64, size := 1, bytes := 8, zero := .int .i64 0 },
  some { k := .bool, size := 1, bytes := 1, zero := .bool false },
  some { k := .int .u8, size := 1, bytes := 1, zero := .int .u8 0 },
  some { k := .int .u8, size := 1, bytes := 1, zero := .int .u8 0 },
  none,
  none,
  some { k := .string, size := 1, bytes := 16, zero := .string ByteArray.empty },
  some { k := .string, size := 1, bytes := 16, zero := .string ByteArray.empty },
  some { k := .string, size := 1, bytes := 16, zero := .string ByteArray.empty },
  some { k := .int .u64, size := 1, bytes := 8, zero := .int .u64 0 },
  none,
  none,
  some { k := .ptr 253, size := 1, bytes := 8, zero := .pointer none },
  some { k := .ptr 256, size := 1, bytes := 8, zero := .pointer none },
  some { k := .ptr 264, size := 1, bytes := 8, zero := .pointer none },
  none,
  none,
  none,
  some { k := .int .i32, size := 1, bytes := 4, zero := .int .i32 0 },
  some { k := .arr 4 3, size := 4, bytes := 32, zero := .agg #[.int .i64 0, .int .i64 0, .int .i64 0, .int .i64 0] },
  some { k := .arr 8 5, size := 8, bytes := 8, zero := .agg #[.int .u8 0, .int .u8 0, .int .u8 0, .int .u8 0, .int .u8 0, .int .u8 0, .int .u8 0, .int .u8 0] },
  some { k := .strct [(22, 0, 4), (23, 4, 8)], size := 12, bytes := 40, zero := .agg #[.int .i64 0, .int .i64 0, .int .i64 0, .int .i64 0, .int .u8 0, .int .u8 0, .int .u8 0, .int .u8 0, .int .u8 0, .int .u8 0, .int .u8 0, .int .u8 0] },
  some { k := .strct [(22, 0, 4), (23, 4, 8)], size := 12, bytes := 40, zero := .agg #[.int .i64 0, .int .i64 0, .int .i64 0, .int .i64 0, .int .u8 0, .int .u8 0, .int .u8 0, .int .u8 0, .int .u8 0, .int .u8 0, .int .u8 0, .int .u8 0] },
  some { k := .slice 149, size := 1, bytes := 24, zero := .slice none 0 0 },
  some { k := .slice 65, size := 1, bytes := 24, zero := .slice none 0 0 },
  some { k := .strct [(25, 0, 12), (26, 12, 1), (27, 13, 1)], size := 14, bytes := 88, zero := .agg #[.int .i64 0, .int .i64 0, .int .i64 0, .int .i64 0, .int .u8 0, .int .u8 0, .int .u8 0, .int .u8 0, .int .u8 0, .int .u8 0, .int .u8 0, .int .u8 0, .slice none 0 0, .slice none 0 0] },
  some { k := .strct [(25, 0, 12), (26, 12, 1), (27, 13, 1)], size := 14, bytes := 88, zero := .agg #[.int .i64 0, .int .i64 0, .int .i64 0, .int .i64 0, .int .u8 0, .int .u8 0, .int .u8 0, .int .u8 0, .int .u8 0, .int .u8 0, .int .u8 0, .int .u8 0, .slice none 0 0, .slice none 0 0] },
  some { k := .strct [(3, 0, 1), (3, 1, 1)], size := 2, bytes := 16, zero := .agg #[.int .i64 0, .int .i64 0] },
  some { k := .strct [(3, 0, 1), (3, 1, 1)], size := 2, bytes := 16, zero := .agg #[.int .i64 0, .int .i64 0] },
  some { k := .arr 4 3, size := 4, bytes := 32, zero := .agg #[.int .i64 0, .int .i64 0, .int .i64 0, .int .i64 0] },
  some { k := .strct [(32, 0, 4), (23, 4, 8)], size := 12, bytes := 40, zero := .agg #[.int .i64 0, .int .i64 0, .int .i64 0, .int .i64 0, .int .u8 0, .int .u8 0, .int .u8 0, .int .u8 0, .int .u8 0, .int .u8 0, .int .u8 0, .int .u8 0] },
  some { k := .strct [(32, 0, 4), (23, 4, 8)], size := 12, bytes := 40, zero := .agg #[.int .i64 0, .int .i64 0, .int .i64 0, .int .i64 0, .int .u8 0, .int .u8 0, .int .u8 0, .int .u8 0, .int .u8 0, .int .u8 0, .int .u8 0, .int .u8 0] },
  some { k := .slice 111, size := 1, bytes := 24, zero := .slice none 0 0 },
  some { k := .slice 71, size := 1, bytes := 24, zero := .slice none 0 0 },
  some { k := .strct [(34, 0, 12), (35, 12, 1), (36, 13, 1)], size := 14, bytes := 88, zero := .agg #[.int .i64 0, .int .i64 0, .int .i64 0, .int .i64 0, .int .u8 0, .int .u8 0, .int .u8 0, .int .u8 0, .int .u8 0, .int .u8 0, .int .u8 0, .int .u8 0, .slice none 0 0, .slice none 0 0] },
  some { k := .strct [(34, 0, 12), (35, 12, 1), (36, 13, 1)], size := 14, bytes := 88, zero := .agg #[.int .i64 0, .int .i64 0, .int .i64 0, .int .i64 0, .int .u8 0, .int .u8 0, .int .u8 0, .int .u8 0, .int .u8 0, .int .u8 0, .int .u8 0, .int .u8 0, .slice none 0 0, .slice none 0 0] },
  some { k := .fn, size := 1, bytes := 8, zero := .nilFunc },
  some { k := .fn, size := 1, bytes := 8, zero := .nilFunc },
  some { k := .slice 5, size := 1, bytes := 24, zero := .slice none 0 0 },
  some { k := .int .i64, size := 1, bytes := 8, zero := .int .i64 0 },
  none,
  some { k := .fn, size := 1, bytes := 8, zero := .nilFunc },
  none,
  some { k := .fn, size := 1, bytes := 8, zero := .nilFunc },
  some { k := .fn, size := 1, bytes := 8, zero := .nilFunc },
  some { k := .fn, size := 1, bytes := 8, zero := .nilFunc },
  some { k := .fn, size := 1, bytes := 8, zero := .nilFunc },
  some { k := .fn, size := 1, bytes := 8, zero := .nilFunc },
  some { k := .strct [(3, 0, 1), (3, 1, 1)], size := 2, bytes := 16, zero := .agg #[.int .i64 0, .int .i64 0] },
  some { k := .fn, size := 1, bytes := 8, zero := .nilFunc },
  some { k := .fn, size := 1, bytes := 8, zero := .nilFunc },
  some { k := .fn, size := 1, bytes := 8, zero := .nilFunc },
  some { k := .fn, size := 1, bytes := 8, zero := .nilFunc },
  none,
  some { k := .fn, size := 1, bytes := 8, zero := .nilFunc },
  none,
  some { k := .fn, size := 1, bytes := 8, zero := .nilFunc },
  none,
  some { k := .fn, size := 1, bytes := 8, zero := .nilFunc },
  some { k := .fn, size := 1, bytes := 8, zero := .nilFunc },
  some { k := .fn, size := 1, bytes := 8, zero := .nilFunc },
  some { k := .strct [(3, 0, 1), (3, 1, 1), (3, 2, 1), (3, 3, 1)], size := 4, bytes := 32, zero := .agg #[.int .i64 0, .int .i64 0, .int .i64 0, .int .i64 0] },
  some { k := .strct [(3, 0, 1), (3, 1, 1), (3, 2, 1), (3, 3, 1)], size := 4, bytes := 32, zero := .agg #[.int .i64 0, .int .i64 0, .int .i64 0, .int .i64 0] },
  some { k := .slice 3, size := 1, bytes := 24, zero := .slice none 0 0 },
  some { k := .fn, size := 1, bytes := 8, zero := .nilFunc },
  some { k := .ptr 130, size := 1, bytes := 8, zero := .pointer none },
  none,
  some { k := .fn, size := 1, bytes := 8, zero := .nilFunc },
  some { k := .strct [(3, 0, 1), (3, 1, 1), (3, 2, 1), (3, 3, 1)], size := 4, bytes := 32, zero := .agg #[.int .i64 0, .int .i64 0, .int .i64 0, .int .i64 0] },
  some { k := .fn, size := 1, bytes := 8, zero := .nilFunc },
  some { k := .ptr 76, size := 1, bytes := 8, zero := .pointer none },
  some { k := .slice 88, size := 1, bytes := 24, zero := .slice none 0 0 },
  some { k := .strct [(65, 0, 4), (74, 4, 1)], size := 5, bytes := 56, zero := .agg #[.int .i64 0, .int .i64 0, .int .i64 0, .int .i64 0, .slice none 0 0] },
  some { k := .strct [(65, 0, 4), (74, 4, 1)], size := 5, bytes := 56, zero := .agg #[.int .i64 0, .int .i64 0, .int .i64 0, .int .i64 0, .slice none 0 0] },
  some { k := .ptr 132, size := 1, bytes := 8, zero := .pointer none },
  some { k := .fn, size := 1, bytes := 8, zero := .nilFunc },
  some { k := .ptr 82, size := 1, bytes := 8, zero := .pointer none },
  some { k := .arr 4 66, size := 4, bytes := 96, zero := .agg #[.slice none 0 0, .slice none 0 0, .slice none 0 0, .slice none 0 0] },
  some { k := .strct [(80, 0, 4)], size := 4, bytes := 96, zero := .agg #[.slice none 0 0, .slice none 0 0, .slice none 0 0, .slice none 0 0] },
  some { k := .strct [(80, 0, 4)], size := 4, bytes := 96, zero := .agg #[.slice none 0 0, .slice none 0 0, .slice none 0 0, .slice none 0 0] },
  some { k := .fn, size := 1, bytes := 8, zero := .nilFunc },
  some { k := .fn, size := 1, bytes := 8, zero := .nilFunc },
  some { k := .fn, size := 1, bytes := 8, zero := .nilFunc },
  some { k := .fn, size := 1, bytes := 8, zero := .nilFunc },
  some { k := .strct [(65, 0, 4), (4, 4, 1), (3, 5, 1), (3, 6, 1), (3, 7, 1)], size := 8, bytes := 64, zero := .agg #[.int .i64 0, .int .i64 0, .int .i64 0, .int .i64 0, .bool false, .int .i64 0, .int .i64 0, .int .i64 0] },
  some { k := .strct [(65, 0, 4), (4, 4, 1), (3, 5, 1), (3, 6, 1), (3, 7, 1)], size := 8, bytes := 64, zero := .agg #[.int .i64 0, .int .i64 0, .int .i64 0, .int .i64 0, .bool false, .int .i64 0, .int .i64 0, .int .i64 0] },
  some { k := .fn, size := 1, bytes := 8, zero := .nilFunc },
  some { k := .fn, size := 1, bytes := 8, zero := .nilFunc },
  some { k := .fn, size := 1, bytes := 8, zero := .nilFunc },
  some { k := .fn, size := 1, bytes := 8, zero := .nilFunc },
  some { k := .fn, size := 1, bytes := 8, zero := .nilFunc },
  some { k := .fn, size := 1, bytes := 8, zero := .nilFunc },
  some { k := .fn, size := 1, bytes := 8, zero := .nilFunc },
  some { k := .fn, size := 1, bytes := 8, zero := .nilFunc },
  some { k := .fn, size := 1, bytes := 8, zero := .nilFunc },
  some { k := .fn, size := 1, bytes := 8, zero := .nilFunc },
  some { k := .fn, size := 1, bytes := 8, zero := .nilFunc },
  some { k := .fn, size := 1, bytes := 8, zero := .nilFunc },
  some { k := .fn, size := 1, bytes := 8, zero := .nilFunc },
  some { k := .fn, size := 1, bytes := 8, zero := .nilFunc },
  some { k := .fn, size := 1, bytes := 8, zero := .nilFunc },
  some { k := .fn, size := 1, bytes := 8, zero := .nilFunc },
  some { k := .fn, size := 1, bytes := 8, zero := .nilFunc },
  some { k := .fn, size := 1, bytes := 8, zero := .nilFunc },
  some { k := .fn, size := 1, bytes := 8, zero := .nilFunc },
  some { k := .fn, size := 1, bytes := 8, zero := .nilFunc },
  some { k := .fn, size := 1, bytes := 8, zero := .nilFunc },
  some { k := .strct [(3, 0, 1), (71, 1, 4), (3, 5, 1)], size := 6, bytes := 48, zero := .agg #[.int .i64 0, .int .i64 0, .int .i64 0, .int .i64 0, .int .i64 0, .int .i64 0] },
  some { k := .strct [(3, 0, 1), (71, 1, 4), (3, 5, 1)], size := 6, bytes := 48, zero := .agg #[.int .i64 0, .int .i64 0, .int .i64 0, .int .i64 0, .int .i64 0, .int .i64 0] },
  some { k := .fn, size := 1, bytes := 8, zero := .nilFunc },
  some { k := .fn, size := 1, bytes := 8, zero := .nilFunc },
  some { k := .fn, size := 1, bytes := 8, zero := .nilFunc },
  some { k := .slice 41, size := 1, bytes := 24, zero := .slice none 0 0 },
  some { k := .ptr 173, size := 1, bytes := 8, zero := .pointer none },
  some { k := .fn, size := 1, bytes := 8, zero := .nilFunc },
  none,
  some { k := .fn, size := 1, bytes := 8, zero := .nilFunc },
  none,
  some { k := .fn, size := 1, bytes := 8, zero := .nilFunc },
  none,
  some { k := .fn, size := 1, bytes := 8, zero := .nilFunc },
  some { k := .fn, size := 1, bytes := 8, zero := .nilFunc },
  none,
  some { k := .fn, size := 1, bytes := 8, zero := .nilFunc },
  some { k := .fn, size := 1, bytes := 8, zero := .nilFunc },
  some { k := .map 3 134, size := 1, bytes := 8, zero := .map none },
  some { k := .strct [(71, 0, 4), (128, 4, 1)], size := 5, bytes := 40, zero := .agg #[.int .i64 0, .int .i64 0, .int .i64 0, .int .i64 0, .map none] },
  some { k := .strct [(71, 0, 4), (128, 4, 1)], size := 5, bytes := 40, zero := .agg #[.int .i64 0, .int .i64 0, .int .i64 0, .int .i64 0, .map none] },
  some { k := .strct [(80, 0, 4)], size := 4, bytes := 96, zero := .agg #[.slice none 0 0, .slice none 0 0, .slice none 0 0, .slice none 0 0] },
  some { k := .strct [(80, 0, 4)], size := 4, bytes := 96, zero := .agg #[.slice none 0 0, .slice none 0 0, .slice none 0 0, .slice none 0 0] },
  some { k := .strct [(71, 0, 4), (4, 4, 1), (3, 5, 1), (3, 6, 1), (3, 7, 1)], size := 8, bytes := 64, zero := .agg #[.int .i64 0, .int .i64 0, .int .i64 0, .int .i64 0, .bool false, .int .i64 0, .int .i64 0, .int .i64 0] },
  some { k := .strct [(71, 0, 4), (4, 4, 1), (3, 5, 1), (3, 6, 1), (3, 7, 1)], size := 8, bytes := 64, zero := .agg #[.int .i64 0, .int .i64 0, .int .i64 0, .int .i64 0, .bool false, .int .i64 0, .int .i64 0, .int .i64 0] },
  none,
  some { k := .fn, size := 1, bytes := 8, zero := .nilFunc },
  some { k := .fn, size := 1, bytes := 8, zero := .nilFunc },
  some { k := .fn, size := 1, bytes := 8, zero := .nilFunc },
  none,
  some { k := .fn, size := 1, bytes := 8, zero := .nilFunc },
  some { k := .fn, size := 1, bytes := 8, zero := .nilFunc },
  some { k := .fn, size := 1, bytes := 8, zero := .nilFunc },
  some { k := .fn, size := 1, bytes := 8, zero := .nilFunc },
  some { k := .fn, size := 1, bytes := 8, zero := .nilFunc },
  some { k := .fn, size := 1, bytes := 8, zero := .nilFunc },
  some { k := .slice 134, size := 1, bytes := 24, zero := .slice none 0 0 },
  some { k := .fn, size := 1, bytes := 8, zero := .nilFunc },
  some { k := .strct [(3, 0, 1), (65, 1, 4), (3, 5, 1)], size := 6, bytes := 48, zero := .agg #[.int .i64 0, .int .i64 0, .int .i64 0, .int .i64 0, .int .i64 0, .int .i64 0] },
  some { k := .strct [(3, 0, 1), (65, 1, 4), (3, 5, 1)], size := 6, bytes := 48, zero := .agg #[.int .i64 0, .int .i64 0, .int .i64 0, .int .i64 0, .int .i64 0, .int .i64 0] },
  some { k := .fn, size := 1, bytes := 8, zero := .nilFunc },
  some { k := .strct [(41, 0, 1), (42, 1, 1)], size := 2, bytes := 32, zero := .agg #[.slice none 0 0, .int .i64 0] },
  some { k := .strct [(41, 0, 1), (42, 1, 1)], size := 2, bytes := 32, zero := .agg #[.slice none 0 0, .int .i64 0] },
  some { k := .ptr 152, size := 1, bytes := 8, zero := .pointer none },
  some { k := .fn, size := 1, bytes := 8, zero := .nilFunc },
  some { k := .fn, size := 1, bytes := 8, zero := .nilFunc },
  some { k := .fn, size := 1, bytes := 8, zero := .nilFunc },
  some { k := .fn, size := 1, bytes := 8, zero := .nilFunc },
  some { k := .int .u64, size := 1, bytes := 8, zero := .int .u64 0 },
  some { k := .fn, size := 1, bytes := 8, zero := .nilFunc },
  some { k := .fn, size := 1, bytes := 8, zero := .nilFunc },
  some { k := .fn, size := 1, bytes := 8, zero := .nilFunc },
  some { k := .fn, size := 1, bytes := 8, zero := .nilFunc },
  some { k := .strct [(3, 0, 1), (3, 1, 1), (41, 2, 1)], size := 3, bytes := 40, zero := .agg #[.int .i64 0, .int .i64 0, .slice none 0 0] },
  some { k := .strct [(3, 0, 1), (3, 1, 1), (41, 2, 1)], size := 3, bytes := 40, zero := .agg #[.int .i64 0, .int .i64 0, .slice none 0 0] },
  some { k := .fn, size := 1, bytes := 8, zero := .nilFunc },
  some { k := .fn, size := 1, bytes := 8, zero := .nilFunc },
  some { k := .fn, size := 1, bytes := 8, zero := .nilFunc },
  some { k := .fn, size := 1, bytes := 8, zero := .nilFunc },
  some { k := .fn, size := 1, bytes := 8, zero := .nilFunc },
  some { k := .fn, size := 1, bytes := 8, zero := .nilFunc },
  some { k := .strct [(41, 0, 1), (42, 1, 1)], size := 2, bytes := 32, zero := .agg #[.slice none 0 0, .int .i64 0] },
  some { k := .strct [(171, 0, 2)], size := 2, bytes := 32, zero := .agg #[.slice none 0 0, .int .i64 0] },
  some { k := .strct [(171, 0, 2)], size := 2, bytes := 32, zero := .agg #[.slice none 0 0, .int .i64 0] },
  some { k := .fn, size := 1, bytes := 8, zero := .nilFunc },
  some { k := .fn, size := 1, bytes := 8, zero := .nilFunc },
  none,
  some { k := .fn, size := 1, bytes := 8, zero := .nilFunc },
  none,
  some { k := .fn, size := 1, bytes := 8, zero := .nilFunc },
  some { k := .strct [(3, 0, 1), (3, 1, 1), (3, 2, 1)], size := 3, bytes := 24, zero := .agg #[.int .i64 0, .int .i64 0, .int .i64 0] },
  some { k := .strct [(3, 0, 1), (3, 1, 1), (3, 2, 1)], size := 3, bytes := 24, zero := .agg #[.int .i64 0, .int .i64 0, .int .i64 0] },
  some { k := .arr 4 181, size := 12, bytes := 96, zero := .agg #[.int .i64 0, .int .i64 0, .int .i64 0, .int .i64 0, .int .i64 0, .int .i64 0, .int .i64 0, .int .i64 0, .int .i64 0, .int .i64 0, .int .i64 0, .int .i64 0] },
  some { k := .fn, size := 1, bytes := 8, zero := .nilFunc },
  some { k := .fn, size := 1, bytes := 8, zero := .nilFunc },
  some { k := .slice 66, size := 1, bytes := 24, zero := .slice none 0 0 },
  some { k := .fn, size := 1, bytes := 8, zero := .nilFunc },
  some { k := .fn, size := 1, bytes := 8, zero := .nilFunc },
  some { k := .fn, size := 1, bytes := 8, zero := .nilFunc },
  some { k := .fn, size := 1, bytes := 8, zero := .nilFunc },
  some { k := .fn, size := 1, bytes := 8, zero := .nilFunc },
  some { k := .fn, size := 1, bytes := 8, zero := .nilFunc },
  some { k := .fn, size := 1, bytes := 8, zero := .nilFunc },
  some { k := .fn, size := 1, bytes := 8, zero := .nilFunc },
  some { k := .fn, size := 1, bytes := 8, zero := .nilFunc },
  some { k := .fn, size := 1, bytes := 8, zero := .nilFunc },
  some { k := .fn, size := 1, bytes := 8, zero := .nilFunc },
  some { k := .fn, size := 1, bytes := 8, zero := .nilFunc },
  some { k := .strct [(3, 0, 1), (3, 1, 1), (41, 2, 1)], size := 3, bytes := 40, zero := .agg #[.int .i64 0, .int .i64 0, .slice none 0 0] },
  some { k := .fn, size := 1, bytes := 8, zero := .nilFunc },
  some { k := .fn, size := 1, bytes := 8, zero := .nilFunc },
  some { k := .fn, size := 1, bytes := 8, zero := .nilFunc },
  some { k := .fn, size := 1, bytes := 8, zero := .nilFunc },
  some { k := .fn, size := 1, bytes := 8, zero := .nilFunc },
  some { k := .fn, size := 1, bytes := 8, zero := .nilFunc },
  some { k := .fn, size := 1, bytes := 8, zero := .nilFunc },
  some { k := .ptr 171, size := 1, bytes := 8, zero := .pointer none },
  some { k := .fn, size := 1, bytes := 8, zero := .nilFunc },
  some { k := .fn, size := 1, bytes := 8, zero := .nilFunc },
  some { k := .fn, size := 1, bytes := 8, zero := .nilFunc },
  some { k := .fn, size := 1, bytes := 8, zero := .nilFunc },
  some { k := .slice 198, size := 1, bytes := 24, zero := .slice none 0 0 },
  some { k := .fn, size := 1, bytes := 8, zero := .nilFunc },
  some { k := .fn, size := 1, bytes := 8, zero := .nilFunc },
  some { k := .fn, size := 1, bytes := 8, zero := .nilFunc },
  some { k := .fn, size := 1, bytes := 8, zero := .nilFunc },
  none,
  some { k := .fn, size := 1, bytes := 8, zero := .nilFunc },
  some { k := .fn, size := 1, bytes := 8, zero := .nilFunc },
  some { k := .fn, size := 1, bytes := 8, zero := .nilFunc },
  some { k := .int .i64, size := 1, bytes := 8, zero := .int .i64 0 },
  none,
  some { k := .fn, size := 1, bytes := 8, zero := .nilFunc },
  some { k := .fn, size := 1, bytes := 8, zero := .nilFunc },
  some { k := .fn, size := 1, bytes := 8, zero := .nilFunc },
  some { k := .fn, size := 1, bytes := 8, zero := .nilFunc },
  some { k := .fn, size := 1, bytes := 8, zero := .nilFunc },
  some { k := .fn, size := 1, bytes := 8, zero := .nilFunc },
  some { k := .int .u32, size := 1, bytes := 4, zero := .int .u32 0 },
  some { k := .fn, size := 1, bytes := 8, zero := .nilFunc },
  some { k := .int .u64, size := 1, bytes := 8, zero := .int .u64 0 },
  some { k := .fn, size := 1, bytes := 8, zero := .nilFunc },
  some { k := .fn, size := 1, bytes := 8, zero := .nilFunc },
  some { k := .fn, size := 1, bytes := 8, zero := .nilFunc },
  some { k := .int .u64, size := 1, bytes := 8, zero := .int .u64 0 },
  some { k := .fn, size := 1, bytes := 8, zero := .nilFunc },
  some { k := .fn, size := 1, bytes := 8, zero := .nilFunc },
  some { k := .fn, size := 1, bytes := 8, zero := .nilFunc },
  some { k := .ptr 3, size := 1, bytes := 8, zero := .pointer none },
  some { k := .fn, size := 1, bytes := 8, zero := .nilFunc },
  some { k := .fn, size := 1, bytes := 8, zero := .nilFunc },
  some { k := .fn, size := 1, bytes := 8, zero := .nilFunc },
  some { k := .fn, size := 1, bytes := 8, zero := .nilFunc },
  some { k := .fn, size := 1, bytes := 8, zero := .nilFunc },
  some { k := .fn, size := 1, bytes := 8, zero := .nilFunc },
  some { k := .ptr 234, size := 1, bytes := 8, zero := .pointer none },
  none,
  some { k := .fn, size := 1, bytes := 8, zero := .nilFunc },
  some { k := .fn, size := 1, bytes := 8, zero := .nilFunc },
  some { k := .fn, size := 1, bytes := 8, zero := .nilFunc },
  some { k := .fn, size := 1, bytes := 8, zero := .nilFunc },
  some { k := .fn, size := 1, bytes := 8, zero := .nilFunc },
  none,
  none,
  none,
  none,
  none,
  some { k := .int .u8, size := 1, bytes := 1, zero := .int .u8 0 },
  some { k := .int .u8, size := 1, bytes := 1, zero := .int .u8 0 },
  some { k := .fn, size := 1, bytes := 8, zero := .nilFunc },
  some { k := .ptr 5, size := 1, bytes := 8, zero := .pointer none },
  some { k := .int .i32, size := 1, bytes := 4, zero := .int .i32 0 },
  some { k := .int .i32, size := 1, bytes := 4, zero := .int .i32 0 },
  none,
  none,
  some { k := .fn, size := 1, bytes := 8, zero := .nilFunc },
  none]
set_option maxRecDepth 100000 in
theorem rowsGood : TGoods Tryz.prog 0 rowsTab :=
  ⟨⟨⟨_, _, _, Tryz.underlying1⟩, Tryz.sizeOf1, Tryz.zeroValue1, trivial, by kernel_rfl⟩,
   ⟨Tryz.underlying2, Tryz.sizeOf2, Tryz.zeroValue2, trivial, by kernel_rfl⟩,
   ⟨Tryz.underlying3, Tryz.sizeOf3, Tryz.zeroValue3, trivial, by kernel_rfl⟩,
   ⟨Tryz.underlying4, Tryz.sizeOf4, Tryz.zeroValue4, trivial, by kernel_rfl⟩,
   ⟨Tryz.underlying5, Tryz.sizeOf5, Tryz.zeroValue5, trivial, by kernel_rfl⟩,
   ⟨Tryz.underlying6, Tryz.sizeOf6, Tryz.zeroValue6, trivial, by kernel_rfl⟩,
   ⟨Tryz.underlying9, Tryz.sizeOf9, Tryz.zeroValue9, trivial, by kernel_rfl⟩,
   ⟨Tryz.underlying10, Tryz.sizeOf10, Tryz.zeroValue10, trivial, by kernel_rfl⟩,
   ⟨Tryz.underlying11, Tryz.sizeOf11, Tryz.zeroValue11, trivial, by kernel_rfl⟩,
   ⟨Tryz.underlying12, Tryz.sizeOf12, Tryz.zeroValue12, trivial, by kernel_rfl⟩,
   ⟨Tryz.underlying15, Tryz.sizeOf15, Tryz.zeroValue15, trivial, by kernel_rfl⟩,
   ⟨Tryz.underlying16, Tryz.sizeOf16, Tryz.zeroValue16, trivial, by kernel_rfl⟩,
   ⟨Tryz.underlying17, Tryz.sizeOf17, Tryz.zeroValue17, trivial, by kernel_rfl⟩,
   ⟨Tryz.underlying21, Tryz.sizeOf21, Tryz.zeroValue21, trivial, by kernel_rfl⟩,
   ⟨Tryz.underlying22, Tryz.sizeOf22, Tryz.zeroValue22, trivial, by kernel_rfl⟩,
   ⟨Tryz.underlying23, Tryz.sizeOf23, Tryz.zeroValue23, trivial, by kernel_rfl⟩,
   ⟨⟨_, Tryz.underlying24, rfl, rfl, Tryz.sizeOf22, rfl, rfl, rfl, Tryz.sizeOf23, rfl, trivial⟩, Tryz.sizeOf24, Tryz.zeroValue24, (by show Tryz.prog.stoodInHeld 24 = false; kernel_rfl), by kernel_rfl⟩,
   ⟨⟨_, Tryz.underlying25, rfl, rfl, Tryz.sizeOf22, rfl, rfl, rfl, Tryz.sizeOf23, rfl, trivial⟩, Tryz.sizeOf25, Tryz.zeroValue25, (by show Tryz.prog.stoodInHeld 25 = false; kernel_rfl), by kernel_rfl⟩,
   ⟨Tryz.underlying26, Tryz.sizeOf26, Tryz.zeroValue26, trivial, by kernel_rfl⟩,
   ⟨Tryz.underlying27, Tryz.sizeOf27, Tryz.zeroValue27, trivial, by kernel_rfl⟩,
   ⟨⟨_, Tryz.underlying28, rfl, rfl, Tryz.sizeOf25, rfl, rfl, rfl, Tryz.sizeOf26, rfl, rfl, rfl, Tryz.sizeOf27, rfl, trivial⟩, Tryz.sizeOf28, Tryz.zeroValue28, (by show Tryz.prog.stoodInHeld 28 = false; kernel_rfl), by kernel_rfl⟩,
   ⟨⟨_, Tryz.underlying29, rfl, rfl, Tryz.sizeOf25, rfl, rfl, rfl, Tryz.sizeOf26, rfl, rfl, rfl, Tryz.sizeOf27, rfl, trivial⟩, Tryz.sizeOf29, Tryz.zeroValue29, (by show Tryz.prog.stoodInHeld 29 = false; kernel_rfl), by kernel_rfl⟩,
   ⟨⟨_, Tryz.underlying30, rfl, rfl, Tryz.sizeOf3, rfl, rfl, rfl, Tryz.sizeOf3, rfl, trivial⟩, Tryz.sizeOf30, Tryz.zeroValue30, (by show Tryz.prog.stoodInHeld 30 = false; kernel_rfl), by kernel_rfl⟩,
   ⟨⟨_, Tryz.underlying31, rfl, rfl, Tryz.sizeOf3, rfl, rfl, rfl, Tryz.sizeOf3, rfl, trivial⟩, Tryz.sizeOf31, Tryz.zeroValue31, (by show Tryz.prog.stoodInHeld 31 = false; kernel_rfl), by kernel_rfl⟩,
   ⟨Tryz.underlying32, Tryz.sizeOf32, Tryz.zeroValue32, trivial, by kernel_rfl⟩,
   ⟨⟨_, Tryz.underlying33, rfl, rfl, Tryz.sizeOf32, rfl, rfl, rfl, Tryz.sizeOf23, rfl, trivial⟩, Tryz.sizeOf33, Tryz.zeroValue33, (by show Tryz.prog.stoodInHeld 33 = false; kernel_rfl), by kernel_rfl⟩,
   ⟨⟨_, Tryz.underlying34, rfl, rfl, Tryz.sizeOf32, rfl, rfl, rfl, Tryz.sizeOf23, rfl, trivial⟩, Tryz.sizeOf34, Tryz.zeroValue34, (by show Tryz.prog.stoodInHeld 34 = false; kernel_rfl), by kernel_rfl⟩,
   ⟨Tryz.underlying35, Tryz.sizeOf35, Tryz.zeroValue35, trivial, by kernel_rfl⟩,
   ⟨Tryz.underlying36, Tryz.sizeOf36, Tryz.zeroValue36, trivial, by kernel_rfl⟩,
   ⟨⟨_, Tryz.underlying37, rfl, rfl, Tryz.sizeOf34, rfl, rfl, rfl, Tryz.sizeOf35, rfl, rfl, rfl, Tryz.sizeOf36, rfl, trivial⟩, Tryz.sizeOf37, Tryz.zeroValue37, (by show Tryz.prog.stoodInHeld 37 = false; kernel_rfl), by kernel_rfl⟩,
   ⟨⟨_, Tryz.underlying38, rfl, rfl, Tryz.sizeOf34, rfl, rfl, rfl, Tryz.sizeOf35, rfl, rfl, rfl, Tryz.sizeOf36, rfl, trivial⟩, Tryz.sizeOf38, Tryz.zeroValue38, (by show Tryz.prog.stoodInHeld 38 = false; kernel_rfl), by kernel_rfl⟩,
   ⟨⟨_, _, _, Tryz.underlying39⟩, Tryz.sizeOf39, Tryz.zeroValue39, trivial, by kernel_rfl⟩,
   ⟨⟨_, _, _, Tryz.underlying40⟩, Tryz.sizeOf40, Tryz.zeroValue40, trivial, by kernel_rfl⟩,
   ⟨Tryz.underlying41, Tryz.sizeOf41, Tryz.zeroValue41, trivial, by kernel_rfl⟩,
   ⟨Tryz.underlying42, Tryz.sizeOf42, Tryz.zeroValue42, trivial, by kernel_rfl⟩,
   ⟨⟨_, _, _, Tryz.underlying44⟩, Tryz.sizeOf44, Tryz.zeroValue44, trivial, by kernel_rfl⟩,
   ⟨⟨_, _, _, Tryz.underlying46⟩, Tryz.sizeOf46, Tryz.zeroValue46, trivial, by kernel_rfl⟩,
   ⟨⟨_, _, _, Tryz.underlying47⟩, Tryz.sizeOf47, Tryz.zeroValue47, trivial, by kernel_rfl⟩,
   ⟨⟨_, _, _, Tryz.underlying48⟩, Tryz.sizeOf48, Tryz.zeroValue48, trivial, by kernel_rfl⟩,
   ⟨⟨_, _, _, Tryz.underlying49⟩, Tryz.sizeOf49, Tryz.zeroValue49, trivial, by kernel_rfl⟩,
   ⟨⟨_, _, _, Tryz.underlying50⟩, Tryz.sizeOf50, Tryz.zeroValue50, trivial, by kernel_rfl⟩,
   ⟨⟨_, Tryz.underlying51, rfl, rfl, Tryz.sizeOf3, rfl, rfl, rfl, Tryz.sizeOf3, rfl, trivial⟩, Tryz.sizeOf51, Tryz.zeroValue51, (by show Tryz.prog.stoodInHeld 51 = false; kernel_rfl), by kernel_rfl⟩,
   ⟨⟨_, _, _, Tryz.underlying52⟩, Tryz.sizeOf52, Tryz.zeroValue52, trivial, by kernel_rfl⟩,
   ⟨⟨_, _, _, Tryz.underlying53⟩, Tryz.sizeOf53, Tryz.zeroValue53, trivial, by kernel_rfl⟩,
   ⟨⟨_, _, _, Tryz.underlying54⟩, Tryz.sizeOf54, Tryz.zeroValue54, trivial, by kernel_rfl⟩,
   ⟨⟨_, _, _, Tryz.underlying55⟩, Tryz.sizeOf55, Tryz.zeroValue55, trivial, by kernel_rfl⟩,
   ⟨⟨_, _, _, Tryz.underlying57⟩, Tryz.sizeOf57, Tryz.zeroValue57, trivial, by kernel_rfl⟩,
   ⟨⟨_, _, _, Tryz.underlying59⟩, Tryz.sizeOf59, Tryz.zeroValue59, trivial, by kernel_rfl⟩,
   ⟨⟨_, _, _, Tryz.underlying61⟩, Tryz.sizeOf61, Tryz.zeroValue61, trivial, by kernel_rfl⟩,
   ⟨⟨_, _, _, Tryz.underlying62⟩, Tryz.sizeOf62, Tryz.zeroValue62, trivial, by kernel_rfl⟩,
   ⟨⟨_, _, _, Tryz.underlying63⟩, Tryz.sizeOf63, Tryz.zeroValue63, trivial, by kernel_rfl⟩,
   ⟨⟨_, Tryz.underlying64, rfl, rfl, Tryz.sizeOf3, rfl, rfl, rfl, Tryz.sizeOf3, rfl, rfl, rfl, Tryz.sizeOf3, rfl, rfl, rfl, Tryz.sizeOf3, rfl, trivial⟩, Tryz.sizeOf64, Tryz.zeroValue64, (by show Tryz.prog.stoodInHeld 64 = false; kernel_rfl), by kernel_rfl⟩,
   ⟨⟨_, Tryz.underlying65, rfl, rfl, Tryz.sizeOf3, rfl, rfl, rfl, Tryz.sizeOf3, rfl, rfl, rfl, Tryz.sizeOf3, rfl, rfl, rfl, Tryz.sizeOf3, rfl, trivial⟩, Tryz.sizeOf65, Tryz.zeroValue65, (by show Tryz.prog.stoodInHeld 65 = false; kernel_rfl), by kernel_rfl⟩,
   ⟨Tryz.underlying66, Tryz.sizeOf66, Tryz.zeroValue66, trivial, by kernel_rfl⟩,
   ⟨⟨_, _, _, Tryz.underlying67⟩, Tryz.sizeOf67, Tryz.zeroValue67, trivial, by kernel_rfl⟩,
   ⟨Tryz.underlying68, Tryz.sizeOf68, Tryz.zeroValue68, trivial, by kernel_rfl⟩,
   ⟨⟨_, _, _, Tryz.underlying70⟩, Tryz.sizeOf70, Tryz.zeroValue70, trivial, by kernel_rfl⟩,
   ⟨⟨_, Tryz.underlying71, rfl, rfl, Tryz.sizeOf3, rfl, rfl, rfl, Tryz.sizeOf3, rfl, rfl, rfl, Tryz.sizeOf3, rfl, rfl, rfl, Tryz.sizeOf3, rfl, trivial⟩, Tryz.sizeOf71, Tryz.zeroValue71, (by show Tryz.prog.stoodInHeld 71 = false; kernel_rfl), by kernel_rfl⟩,
   ⟨⟨_, _, _, Tryz.underlying72⟩, Tryz.sizeOf72, Tryz.zeroValue72, trivial, by kernel_rfl⟩,
   ⟨Tryz.underlying73, Tryz.sizeOf73, Tryz.zeroValue73, trivial, by kernel_rfl⟩,
   ⟨Tryz.underlying74, Tryz.sizeOf74, Tryz.zeroValue74, trivial, by kernel_rfl⟩,
   ⟨⟨_, Tryz.underlying75, rfl, rfl, Tryz.sizeOf65, rfl, rfl, rfl, Tryz.sizeOf74, rfl, trivial⟩, Tryz.sizeOf75, Tryz.zeroValue75, (by show Tryz.prog.stoodInHeld 75 = false; kernel_rfl), by kernel_rfl⟩,
   ⟨⟨_, Tryz.underlying76, rfl, rfl, Tryz.sizeOf65, rfl, rfl, rfl, Tryz.sizeOf74, rfl, trivial⟩, Tryz.sizeOf76, Tryz.zeroValue76, (by show Tryz.prog.stoodInHeld 76 = false; kernel_rfl), by kernel_rfl⟩,
   ⟨Tryz.underlying77, Tryz.sizeOf77, Tryz.zeroValue77, trivial, by kernel_rfl⟩,
   ⟨⟨_, _, _, Tryz.underlying78⟩, Tryz.sizeOf78, Tryz.zeroValue78, trivial, by kernel_rfl⟩,
   ⟨Tryz.underlying79, Tryz.sizeOf79, Tryz.zeroValue79, trivial, by kernel_rfl⟩,
   ⟨Tryz.underlying80, Tryz.sizeOf80, Tryz.zeroValue80, trivial, by kernel_rfl⟩,
   ⟨⟨_, Tryz.underlying81, rfl, rfl, Tryz.sizeOf80, rfl, trivial⟩, Tryz.sizeOf81, Tryz.zeroValue81, (by show Tryz.prog.stoodInHeld 81 = false; kernel_rfl), by kernel_rfl⟩,
   ⟨⟨_, Tryz.underlying82, rfl, rfl, Tryz.sizeOf80, rfl, trivial⟩, Tryz.sizeOf82, Tryz.zeroValue82, (by show Tryz.prog.stoodInHeld 82 = false; kernel_rfl), by kernel_rfl⟩,
   ⟨⟨_, _, _, Tryz.underlying83⟩, Tryz.sizeOf83, Tryz.zeroValue83, trivial, by kernel_rfl⟩,
   ⟨⟨_, _, _, Tryz.underlying84⟩, Tryz.sizeOf84, Tryz.zeroValue84, trivial, by kernel_rfl⟩,
   ⟨⟨_, _, _, Tryz.underlying85⟩, Tryz.sizeOf85, Tryz.zeroValue85, trivial, by kernel_rfl⟩,
   ⟨⟨_, _, _, Tryz.underlying86⟩, Tryz.sizeOf86, Tryz.zeroValue86, trivial, by kernel_rfl⟩,
   ⟨⟨_, Tryz.underlying87, rfl, rfl, Tryz.sizeOf65, rfl, rfl, rfl, Tryz.sizeOf4, rfl, rfl, rfl, Tryz.sizeOf3, rfl, rfl, rfl, Tryz.sizeOf3, rfl, rfl, rfl, Tryz.sizeOf3, rfl, trivial⟩, Tryz.sizeOf87, Tryz.zeroValue87, (by show Tryz.prog.stoodInHeld 87 = false; kernel_rfl), by kernel_rfl⟩,
   ⟨⟨_, Tryz.underlying88, rfl, rfl, Tryz.sizeOf65, rfl, rfl, rfl, Tryz.sizeOf4, rfl, rfl, rfl, Tryz.sizeOf3, rfl, rfl, rfl, Tryz.sizeOf3, rfl, rfl, rfl, Tryz.sizeOf3, rfl, trivial⟩, Tryz.sizeOf88, Tryz.zeroValue88, (by show Tryz.prog.stoodInHeld 88 = false; kernel_rfl), by kernel_rfl⟩,
   ⟨⟨_, _, _, Tryz.underlying89⟩, Tryz.sizeOf89, Tryz.zeroValue89, trivial, by kernel_rfl⟩,
   ⟨⟨_, _, _, Tryz.underlying90⟩, Tryz.sizeOf90, Tryz.zeroValue90, trivial, by kernel_rfl⟩,
   ⟨⟨_, _, _, Tryz.underlying91⟩, Tryz.sizeOf91, Tryz.zeroValue91, trivial, by kernel_rfl⟩,
   ⟨⟨_, _, _, Tryz.underlying92⟩, Tryz.sizeOf92, Tryz.zeroValue92, trivial, by kernel_rfl⟩,
   ⟨⟨_, _, _, Tryz.underlying93⟩, Tryz.sizeOf93, Tryz.zeroValue93, trivial, by kernel_rfl⟩,
   ⟨⟨_, _, _, Tryz.underlying94⟩, Tryz.sizeOf94, Tryz.zeroValue94, trivial, by kernel_rfl⟩,
   ⟨⟨_, _, _, Tryz.underlying95⟩, Tryz.sizeOf95, Tryz.zeroValue95, trivial, by kernel_rfl⟩,
   ⟨⟨_, _, _, Tryz.underlying96⟩, Tryz.sizeOf96, Tryz.zeroValue96, trivial, by kernel_rfl⟩,
   ⟨⟨_, _, _, Tryz.underlying97⟩, Tryz.sizeOf97, Tryz.zeroValue97, trivial, by kernel_rfl⟩,
   ⟨⟨_, _, _, Tryz.underlying98⟩, Tryz.sizeOf98, Tryz.zeroValue98, trivial, by kernel_rfl⟩,
   ⟨⟨_, _, _, Tryz.underlying99⟩, Tryz.sizeOf99, Tryz.zeroValue99, trivial, by kernel_rfl⟩,
   ⟨⟨_, _, _, Tryz.underlying100⟩, Tryz.sizeOf100, Tryz.zeroValue100, trivial, by kernel_rfl⟩,
   ⟨⟨_, _, _, Tryz.underlying101⟩, Tryz.sizeOf101, Tryz.zeroValue101, trivial, by kernel_rfl⟩,
   ⟨⟨_, _, _, Tryz.underlying102⟩, Tryz.sizeOf102, Tryz.zeroValue102, trivial, by kernel_rfl⟩,
   ⟨⟨_, _, _, Tryz.underlying103⟩, Tryz.sizeOf103, Tryz.zeroValue103, trivial, by kernel_rfl⟩,
   ⟨⟨_, _, _, Tryz.underlying104⟩, Tryz.sizeOf104, Tryz.zeroValue104, trivial, by kernel_rfl⟩,
   ⟨⟨_, _, _, Tryz.underlying105⟩, Tryz.sizeOf105, Tryz.zeroValue105, trivial, by kernel_rfl⟩,
   ⟨⟨_, _, _, Tryz.underlying106⟩, Tryz.sizeOf106, Tryz.zeroValue106, trivial, by kernel_rfl⟩,
   ⟨⟨_, _, _, Tryz.underlying107⟩, Tryz.sizeOf107, Tryz.zeroValue107, trivial, by kernel_rfl⟩,
   ⟨⟨_, _, _, Tryz.underlying108⟩, Tryz.sizeOf108, Tryz.zeroValue108, trivial, by kernel_rfl⟩,
   ⟨⟨_, _, _, Tryz.underlying109⟩, Tryz.sizeOf109, Tryz.zeroValue109, trivial, by kernel_rfl⟩,
   ⟨⟨_, Tryz.underlying110, rfl, rfl, Tryz.sizeOf3, rfl, rfl, rfl, Tryz.sizeOf71, rfl, rfl, rfl, Tryz.sizeOf3, rfl, trivial⟩, Tryz.sizeOf110, Tryz.zeroValue110, (by show Tryz.prog.stoodInHeld 110 = false; kernel_rfl), by kernel_rfl⟩,
   ⟨⟨_, Tryz.underlying111, rfl, rfl, Tryz.sizeOf3, rfl, rfl, rfl, Tryz.sizeOf71, rfl, rfl, rfl, Tryz.sizeOf3, rfl, trivial⟩, Tryz.sizeOf111, Tryz.zeroValue111, (by show Tryz.prog.stoodInHeld 111 = false; kernel_rfl), by kernel_rfl⟩,
   ⟨⟨_, _, _, Tryz.underlying112⟩, Tryz.sizeOf112, Tryz.zeroValue112, trivial, by kernel_rfl⟩,
   ⟨⟨_, _, _, Tryz.underlying113⟩, Tryz.sizeOf113, Tryz.zeroValue113, trivial, by kernel_rfl⟩,
   ⟨⟨_, _, _, Tryz.underlying114⟩, Tryz.sizeOf114, Tryz.zeroValue114, trivial, by kernel_rfl⟩,
   ⟨Tryz.underlying115, Tryz.sizeOf115, Tryz.zeroValue115, trivial, by kernel_rfl⟩,
   ⟨Tryz.underlying116, Tryz.sizeOf116, Tryz.zeroValue116, trivial, by kernel_rfl⟩,
   ⟨⟨_, _, _, Tryz.underlying117⟩, Tryz.sizeOf117, Tryz.zeroValue117, trivial, by kernel_rfl⟩,
   ⟨⟨_, _, _, Tryz.underlying119⟩, Tryz.sizeOf119, Tryz.zeroValue119, trivial, by kernel_rfl⟩,
   ⟨⟨_, _, _, Tryz.underlying121⟩, Tryz.sizeOf121, Tryz.zeroValue121, trivial, by kernel_rfl⟩,
   ⟨⟨_, _, _, Tryz.underlying123⟩, Tryz.sizeOf123, Tryz.zeroValue123, trivial, by kernel_rfl⟩,
   ⟨⟨_, _, _, Tryz.underlying124⟩, Tryz.sizeOf124, Tryz.zeroValue124, trivial, by kernel_rfl⟩,
   ⟨⟨_, _, _, Tryz.underlying126⟩, Tryz.sizeOf126, Tryz.zeroValue126, trivial, by kernel_rfl⟩,
   ⟨⟨_, _, _, Tryz.underlying127⟩, Tryz.sizeOf127, Tryz.zeroValue127, trivial, by kernel_rfl⟩,
   ⟨Tryz.underlying128, Tryz.sizeOf128, Tryz.zeroValue128, trivial, by kernel_rfl⟩,
   ⟨⟨_, Tryz.underlying129, rfl, rfl, Tryz.sizeOf71, rfl, rfl, rfl, Tryz.sizeOf128, rfl, trivial⟩, Tryz.sizeOf129, Tryz.zeroValue129, (by show Tryz.prog.stoodInHeld 129 = false; kernel_rfl), by kernel_rfl⟩,
   ⟨⟨_, Tryz.underlying130, rfl, rfl, Tryz.sizeOf71, rfl, rfl, rfl, Tryz.sizeOf128, rfl, trivial⟩, Tryz.sizeOf130, Tryz.zeroValue130, (by show Tryz.prog.stoodInHeld 130 = false; kernel_rfl), by kernel_rfl⟩,
   ⟨⟨_, Tryz.underlying131, rfl, rfl, Tryz.sizeOf80, rfl, trivial⟩, Tryz.sizeOf131, Tryz.zeroValue131, (by show Tryz.prog.stoodInHeld 131 = false; kernel_rfl), by kernel_rfl⟩,
   ⟨⟨_, Tryz.underlying132, rfl, rfl, Tryz.sizeOf80, rfl, trivial⟩, Tryz.sizeOf132, Tryz.zeroValue132, (by show Tryz.prog.stoodInHeld 132 = false; kernel_rfl), by kernel_rfl⟩,
   ⟨⟨_, Tryz.underlying133, rfl, rfl, Tryz.sizeOf71, rfl, rfl, rfl, Tryz.sizeOf4, rfl, rfl, rfl, Tryz.sizeOf3, rfl, rfl, rfl, Tryz.sizeOf3, rfl, rfl, rfl, Tryz.sizeOf3, rfl, trivial⟩, Tryz.sizeOf133, Tryz.zeroValue133, (by show Tryz.prog.stoodInHeld 133 = false; kernel_rfl), by kernel_rfl⟩,
   ⟨⟨_, Tryz.underlying134, rfl, rfl, Tryz.sizeOf71, rfl, rfl, rfl, Tryz.sizeOf4, rfl, rfl, rfl, Tryz.sizeOf3, rfl, rfl, rfl, Tryz.sizeOf3, rfl, rfl, rfl, Tryz.sizeOf3, rfl, trivial⟩, Tryz.sizeOf134, Tryz.zeroValue134, (by show Tryz.prog.stoodInHeld 134 = false; kernel_rfl), by kernel_rfl⟩,
   ⟨⟨_, _, _, Tryz.underlying136⟩, Tryz.sizeOf136, Tryz.zeroValue136, trivial, by kernel_rfl⟩,
   ⟨⟨_, _, _, Tryz.underlying137⟩, Tryz.sizeOf137, Tryz.zeroValue137, trivial, by kernel_rfl⟩,
   ⟨⟨_, _, _, Tryz.underlying138⟩, Tryz.sizeOf138, Tryz.zeroValue138, trivial, by kernel_rfl⟩,
   ⟨⟨_, _, _, Tryz.underlying140⟩, Tryz.sizeOf140, Tryz.zeroValue140, trivial, by kernel_rfl⟩,
   ⟨⟨_, _, _, Tryz.underlying141⟩, Tryz.sizeOf141, Tryz.zeroValue141, trivial, by kernel_rfl⟩,
   ⟨⟨_, _, _, Tryz.underlying142⟩, Tryz.sizeOf142, Tryz.zeroValue142, trivial, by kernel_rfl⟩,
   ⟨⟨_, _, _, Tryz.underlying143⟩, Tryz.sizeOf143, Tryz.zeroValue143, trivial, by kernel_rfl⟩,
   ⟨⟨_, _, _, Tryz.underlying144⟩, Tryz.sizeOf144, Tryz.zeroValue144, trivial, by kernel_rfl⟩,
   ⟨⟨_, _, _, Tryz.underlying145⟩, Tryz.sizeOf145, Tryz.zeroValue145, trivial, by kernel_rfl⟩,
   ⟨Tryz.underlying146, Tryz.sizeOf146, Tryz.zeroValue146, trivial, by kernel_rfl⟩,
   ⟨⟨_, _, _, Tryz.underlying147⟩, Tryz.sizeOf147, Tryz.zeroValue147, trivial, by kernel_rfl⟩,
   ⟨⟨_, Tryz.underlying148, rfl, rfl, Tryz.sizeOf3, rfl, rfl, rfl, Tryz.sizeOf65, rfl, rfl, rfl, Tryz.sizeOf3, rfl, trivial⟩, Tryz.sizeOf148, Tryz.zeroValue148, (by show Tryz.prog.stoodInHeld 148 = false; kernel_rfl), by kernel_rfl⟩,
   ⟨⟨_, Tryz.underlying149, rfl, rfl, Tryz.sizeOf3, rfl, rfl, rfl, Tryz.sizeOf65, rfl, rfl, rfl, Tryz.sizeOf3, rfl, trivial⟩, Tryz.sizeOf149, Tryz.zeroValue149, (by show Tryz.prog.stoodInHeld 149 = false; kernel_rfl), by kernel_rfl⟩,
   ⟨⟨_, _, _, Tryz.underlying150⟩, Tryz.sizeOf150, Tryz.zeroValue150, trivial, by kernel_rfl⟩,
   ⟨⟨_, Tryz.underlying151, rfl, rfl, Tryz.sizeOf41, rfl, rfl, rfl, Tryz.sizeOf42, rfl, trivial⟩, Tryz.sizeOf151, Tryz.zeroValue151, (by show Tryz.prog.stoodInHeld 151 = false; kernel_rfl), by kernel_rfl⟩,
   ⟨⟨_, Tryz.underlying152, rfl, rfl, Tryz.sizeOf41, rfl, rfl, rfl, Tryz.sizeOf42, rfl, trivial⟩, Tryz.sizeOf152, Tryz.zeroValue152, (by show Tryz.prog.stoodInHeld 152 = false; kernel_rfl), by kernel_rfl⟩,
   ⟨Tryz.underlying153, Tryz.sizeOf153, Tryz.zeroValue153, trivial, by kernel_rfl⟩,
   ⟨⟨_, _, _, Tryz.underlying154⟩, Tryz.sizeOf154, Tryz.zeroValue154, trivial, by kernel_rfl⟩,
   ⟨⟨_, _, _, Tryz.underlying155⟩, Tryz.sizeOf155, Tryz.zeroValue155, trivial, by kernel_rfl⟩,
   ⟨⟨_, _, _, Tryz.underlying156⟩, Tryz.sizeOf156, Tryz.zeroValue156, trivial, by kernel_rfl⟩,
   ⟨⟨_, _, _, Tryz.underlying157⟩, Tryz.sizeOf157, Tryz.zeroValue157, trivial, by kernel_rfl⟩,
   ⟨Tryz.underlying158, Tryz.sizeOf158, Tryz.zeroValue158, trivial, by kernel_rfl⟩,
   ⟨⟨_, _, _, Tryz.underlying159⟩, Tryz.sizeOf159, Tryz.zeroValue159, trivial, by kernel_rfl⟩,
   ⟨⟨_, _, _, Tryz.underlying160⟩, Tryz.sizeOf160, Tryz.zeroValue160, trivial, by kernel_rfl⟩,
   ⟨⟨_, _, _, Tryz.underlying161⟩, Tryz.sizeOf161, Tryz.zeroValue161, trivial, by kernel_rfl⟩,
   ⟨⟨_, _, _, Tryz.underlying162⟩, Tryz.sizeOf162, Tryz.zeroValue162, trivial, by kernel_rfl⟩,
   ⟨⟨_, Tryz.underlying163, rfl, rfl, Tryz.sizeOf3, rfl, rfl, rfl, Tryz.sizeOf3, rfl, rfl, rfl, Tryz.sizeOf41, rfl, trivial⟩, Tryz.sizeOf163, Tryz.zeroValue163, (by show Tryz.prog.stoodInHeld 163 = false; kernel_rfl), by kernel_rfl⟩,
   ⟨⟨_, Tryz.underlying164, rfl, rfl, Tryz.sizeOf3, rfl, rfl, rfl, Tryz.sizeOf3, rfl, rfl, rfl, Tryz.sizeOf41, rfl, trivial⟩, Tryz.sizeOf164, Tryz.zeroValue164, (by show Tryz.prog.stoodInHeld 164 = false; kernel_rfl), by kernel_rfl⟩,
   ⟨⟨_, _, _, Tryz.underlying165⟩, Tryz.sizeOf165, Tryz.zeroValue165, trivial, by kernel_rfl⟩,
   ⟨⟨_, _, _, Tryz.underlying166⟩, Tryz.sizeOf166, Tryz.zeroValue166, trivial, by kernel_rfl⟩,
   ⟨⟨_, _, _, Tryz.underlying167⟩, Tryz.sizeOf167, Tryz.zeroValue167, trivial, by kernel_rfl⟩,
   ⟨⟨_, _, _, Tryz.underlying168⟩, Tryz.sizeOf168, Tryz.zeroValue168, trivial, by kernel_rfl⟩,
   ⟨⟨_, _, _, Tryz.underlying169⟩, Tryz.sizeOf169, Tryz.zeroValue169, trivial, by kernel_rfl⟩,
   ⟨⟨_, _, _, Tryz.underlying170⟩, Tryz.sizeOf170, Tryz.zeroValue170, trivial, by kernel_rfl⟩,
   ⟨⟨_, Tryz.underlying171, rfl, rfl, Tryz.sizeOf41, rfl, rfl, rfl, Tryz.sizeOf42, rfl, trivial⟩, Tryz.sizeOf171, Tryz.zeroValue171, (by show Tryz.prog.stoodInHeld 171 = false; kernel_rfl), by kernel_rfl⟩,
   ⟨⟨_, Tryz.underlying172, rfl, rfl, Tryz.sizeOf171, rfl, trivial⟩, Tryz.sizeOf172, Tryz.zeroValue172, (by show Tryz.prog.stoodInHeld 172 = false; kernel_rfl), by kernel_rfl⟩,
   ⟨⟨_, Tryz.underlying173, rfl, rfl, Tryz.sizeOf171, rfl, trivial⟩, Tryz.sizeOf173, Tryz.zeroValue173, (by show Tryz.prog.stoodInHeld 173 = false; kernel_rfl), by kernel_rfl⟩,
   ⟨⟨_, _, _, Tryz.underlying174⟩, Tryz.sizeOf174, Tryz.zeroValue174, trivial, by kernel_rfl⟩,
   ⟨⟨_, _, _, Tryz.underlying175⟩, Tryz.sizeOf175, Tryz.zeroValue175, trivial, by kernel_rfl⟩,
   ⟨⟨_, _, _, Tryz.underlying177⟩, Tryz.sizeOf177, Tryz.zeroValue177, trivial, by kernel_rfl⟩,
   ⟨⟨_, _, _, Tryz.underlying179⟩, Tryz.sizeOf179, Tryz.zeroValue179, trivial, by kernel_rfl⟩,
   ⟨⟨_, Tryz.underlying180, rfl, rfl, Tryz.sizeOf3, rfl, rfl, rfl, Tryz.sizeOf3, rfl, rfl, rfl, Tryz.sizeOf3, rfl, trivial⟩, Tryz.sizeOf180, Tryz.zeroValue180, (by show Tryz.prog.stoodInHeld 180 = false; kernel_rfl), by kernel_rfl⟩,
   ⟨⟨_, Tryz.underlying181, rfl, rfl, Tryz.sizeOf3, rfl, rfl, rfl, Tryz.sizeOf3, rfl, rfl, rfl, Tryz.sizeOf3, rfl, trivial⟩, Tryz.sizeOf181, Tryz.zeroValue181, (by show Tryz.prog.stoodInHeld 181 = false; kernel_rfl), by kernel_rfl⟩,
   ⟨Tryz.underlying182, Tryz.sizeOf182, Tryz.zeroValue182, trivial, by kernel_rfl⟩,
   ⟨⟨_, _, _, Tryz.underlying183⟩, Tryz.sizeOf183, Tryz.zeroValue183, trivial, by kernel_rfl⟩,
   ⟨⟨_, _, _, Tryz.underlying184⟩, Tryz.sizeOf184, Tryz.zeroValue184, trivial, by kernel_rfl⟩,
   ⟨Tryz.underlying185, Tryz.sizeOf185, Tryz.zeroValue185, trivial, by kernel_rfl⟩,
   ⟨⟨_, _, _, Tryz.underlying186⟩, Tryz.sizeOf186, Tryz.zeroValue186, trivial, by kernel_rfl⟩,
   ⟨⟨_, _, _, Tryz.underlying187⟩, Tryz.sizeOf187, Tryz.zeroValue187, trivial, by kernel_rfl⟩,
   ⟨⟨_, _, _, Tryz.underlying188⟩, Tryz.sizeOf188, Tryz.zeroValue188, trivial, by kernel_rfl⟩,
   ⟨⟨_, _, _, Tryz.underlying189⟩, Tryz.sizeOf189, Tryz.zeroValue189, trivial, by kernel_rfl⟩,
   ⟨⟨_, _, _, Tryz.underlying190⟩, Tryz.sizeOf190, Tryz.zeroValue190, trivial, by kernel_rfl⟩,
   ⟨⟨_, _, _, Tryz.underlying191⟩, Tryz.sizeOf191, Tryz.zeroValue191, trivial, by kernel_rfl⟩,
   ⟨⟨_, _, _, Tryz.underlying192⟩, Tryz.sizeOf192, Tryz.zeroValue192, trivial, by kernel_rfl⟩,
   ⟨⟨_, _, _, Tryz.underlying193⟩, Tryz.sizeOf193, Tryz.zeroValue193, trivial, by kernel_rfl⟩,
   ⟨⟨_, _, _, Tryz.underlying194⟩, Tryz.sizeOf194, Tryz.zeroValue194, trivial, by kernel_rfl⟩,
   ⟨⟨_, _, _, Tryz.underlying195⟩, Tryz.sizeOf195, Tryz.zeroValue195, trivial, by kernel_rfl⟩,
   ⟨⟨_, _, _, Tryz.underlying196⟩, Tryz.sizeOf196, Tryz.zeroValue196, trivial, by kernel_rfl⟩,
   ⟨⟨_, _, _, Tryz.underlying197⟩, Tryz.sizeOf197, Tryz.zeroValue197, trivial, by kernel_rfl⟩,
   ⟨⟨_, Tryz.underlying198, rfl, rfl, Tryz.sizeOf3, rfl, rfl, rfl, Tryz.sizeOf3, rfl, rfl, rfl, Tryz.sizeOf41, rfl, trivial⟩, Tryz.sizeOf198, Tryz.zeroValue198, (by show Tryz.prog.stoodInHeld 198 = false; kernel_rfl), by kernel_rfl⟩,
   ⟨⟨_, _, _, Tryz.underlying199⟩, Tryz.sizeOf199, Tryz.zeroValue199, trivial, by kernel_rfl⟩,
   ⟨⟨_, _, _, Tryz.underlying200⟩, Tryz.sizeOf200, Tryz.zeroValue200, trivial, by kernel_rfl⟩,
   ⟨⟨_, _, _, Tryz.underlying201⟩, Tryz.sizeOf201, Tryz.zeroValue201, trivial, by kernel_rfl⟩,
   ⟨⟨_, _, _, Tryz.underlying202⟩, Tryz.sizeOf202, Tryz.zeroValue202, trivial, by kernel_rfl⟩,
   ⟨⟨_, _, _, Tryz.underlying203⟩, Tryz.sizeOf203, Tryz.zeroValue203, trivial, by kernel_rfl⟩,
   ⟨⟨_, _, _, Tryz.underlying204⟩, Tryz.sizeOf204, Tryz.zeroValue204, trivial, by kernel_rfl⟩,
   ⟨⟨_, _, _, Tryz.underlying205⟩, Tryz.sizeOf205, Tryz.zeroValue205, trivial, by kernel_rfl⟩,
   ⟨Tryz.underlying206, Tryz.sizeOf206, Tryz.zeroValue206, trivial, by kernel_rfl⟩,
   ⟨⟨_, _, _, Tryz.underlying207⟩, Tryz.sizeOf207, Tryz.zeroValue207, trivial, by kernel_rfl⟩,
   ⟨⟨_, _, _, Tryz.underlying208⟩, Tryz.sizeOf208, Tryz.zeroValue208, trivial, by kernel_rfl⟩,
   ⟨⟨_, _, _, Tryz.underlying209⟩, Tryz.sizeOf209, Tryz.zeroValue209, trivial, by kernel_rfl⟩,
   ⟨⟨_, _, _, Tryz.underlying210⟩, Tryz.sizeOf210, Tryz.zeroValue210, trivial, by kernel_rfl⟩,
   ⟨Tryz.underlying211, Tryz.sizeOf211, Tryz.zeroValue211, trivial, by kernel_rfl⟩,
   ⟨⟨_, _, _, Tryz.underlying212⟩, Tryz.sizeOf212, Tryz.zeroValue212, trivial, by kernel_rfl⟩,
   ⟨⟨_, _, _, Tryz.underlying213⟩, Tryz.sizeOf213, Tryz.zeroValue213, trivial, by kernel_rfl⟩,
   ⟨⟨_, _, _, Tryz.underlying214⟩, Tryz.sizeOf214, Tryz.zeroValue214, trivial, by kernel_rfl⟩,
   ⟨⟨_, _, _, Tryz.underlying215⟩, Tryz.sizeOf215, Tryz.zeroValue215, trivial, by kernel_rfl⟩,
   ⟨⟨_, _, _, Tryz.underlying217⟩, Tryz.sizeOf217, Tryz.zeroValue217, trivial, by kernel_rfl⟩,
   ⟨⟨_, _, _, Tryz.underlying218⟩, Tryz.sizeOf218, Tryz.zeroValue218, trivial, by kernel_rfl⟩,
   ⟨⟨_, _, _, Tryz.underlying219⟩, Tryz.sizeOf219, Tryz.zeroValue219, trivial, by kernel_rfl⟩,
   ⟨Tryz.underlying220, Tryz.sizeOf220, Tryz.zeroValue220, trivial, by kernel_rfl⟩,
   ⟨⟨_, _, _, Tryz.underlying222⟩, Tryz.sizeOf222, Tryz.zeroValue222, trivial, by kernel_rfl⟩,
   ⟨⟨_, _, _, Tryz.underlying223⟩, Tryz.sizeOf223, Tryz.zeroValue223, trivial, by kernel_rfl⟩,
   ⟨⟨_, _, _, Tryz.underlying224⟩, Tryz.sizeOf224, Tryz.zeroValue224, trivial, by kernel_rfl⟩,
   ⟨⟨_, _, _, Tryz.underlying225⟩, Tryz.sizeOf225, Tryz.zeroValue225, trivial, by kernel_rfl⟩,
   ⟨⟨_, _, _, Tryz.underlying226⟩, Tryz.sizeOf226, Tryz.zeroValue226, trivial, by kernel_rfl⟩,
   ⟨⟨_, _, _, Tryz.underlying227⟩, Tryz.sizeOf227, Tryz.zeroValue227, trivial, by kernel_rfl⟩,
   ⟨Tryz.underlying228, Tryz.sizeOf228, Tryz.zeroValue228, trivial, by kernel_rfl⟩,
   ⟨⟨_, _, _, Tryz.underlying229⟩, Tryz.sizeOf229, Tryz.zeroValue229, trivial, by kernel_rfl⟩,
   ⟨Tryz.underlying230, Tryz.sizeOf230, Tryz.zeroValue230, trivial, by kernel_rfl⟩,
   ⟨⟨_, _, _, Tryz.underlying231⟩, Tryz.sizeOf231, Tryz.zeroValue231, trivial, by kernel_rfl⟩,
   ⟨⟨_, _, _, Tryz.underlying232⟩, Tryz.sizeOf232, Tryz.zeroValue232, trivial, by kernel_rfl⟩,
   ⟨⟨_, _, _, Tryz.underlying233⟩, Tryz.sizeOf233, Tryz.zeroValue233, trivial, by kernel_rfl⟩,
   ⟨Tryz.underlying234, Tryz.sizeOf234, Tryz.zeroValue234, trivial, by kernel_rfl⟩,
   ⟨⟨_, _, _, Tryz.underlying235⟩, Tryz.sizeOf235, Tryz.zeroValue235, trivial, by kernel_rfl⟩,
   ⟨⟨_, _, _, Tryz.underlying236⟩, Tryz.sizeOf236, Tryz.zeroValue236, trivial, by kernel_rfl⟩,
   ⟨⟨_, _, _, Tryz.underlying237⟩, Tryz.sizeOf237, Tryz.zeroValue237, trivial, by kernel_rfl⟩,
   ⟨Tryz.underlying238, Tryz.sizeOf238, Tryz.zeroValue238, trivial, by kernel_rfl⟩,
   ⟨⟨_, _, _, Tryz.underlying239⟩, Tryz.sizeOf239, Tryz.zeroValue239, trivial, by kernel_rfl⟩,
   ⟨⟨_, _, _, Tryz.underlying240⟩, Tryz.sizeOf240, Tryz.zeroValue240, trivial, by kernel_rfl⟩,
   ⟨⟨_, _, _, Tryz.underlying241⟩, Tryz.sizeOf241, Tryz.zeroValue241, trivial, by kernel_rfl⟩,
   ⟨⟨_, _, _, Tryz.underlying242⟩, Tryz.sizeOf242, Tryz.zeroValue242, trivial, by kernel_rfl⟩,
   ⟨⟨_, _, _, Tryz.underlying243⟩, Tryz.sizeOf243, Tryz.zeroValue243, trivial, by kernel_rfl⟩,
   ⟨⟨_, _, _, Tryz.underlying244⟩, Tryz.sizeOf244, Tryz.zeroValue244, trivial, by kernel_rfl⟩,
   ⟨Tryz.underlying245, Tryz.sizeOf245, Tryz.zeroValue245, trivial, by kernel_rfl⟩,
   ⟨⟨_, _, _, Tryz.underlying247⟩, Tryz.sizeOf247, Tryz.zeroValue247, trivial, by kernel_rfl⟩,
   ⟨⟨_, _, _, Tryz.underlying248⟩, Tryz.sizeOf248, Tryz.zeroValue248, trivial, by kernel_rfl⟩,
   ⟨⟨_, _, _, Tryz.underlying249⟩, Tryz.sizeOf249, Tryz.zeroValue249, trivial, by kernel_rfl⟩,
   ⟨⟨_, _, _, Tryz.underlying250⟩, Tryz.sizeOf250, Tryz.zeroValue250, trivial, by kernel_rfl⟩,
   ⟨⟨_, _, _, Tryz.underlying251⟩, Tryz.sizeOf251, Tryz.zeroValue251, trivial, by kernel_rfl⟩,
   ⟨Tryz.underlying257, Tryz.sizeOf257, Tryz.zeroValue257, trivial, by kernel_rfl⟩,
   ⟨Tryz.underlying258, Tryz.sizeOf258, Tryz.zeroValue258, trivial, by kernel_rfl⟩,
   ⟨⟨_, _, _, Tryz.underlying259⟩, Tryz.sizeOf259, Tryz.zeroValue259, trivial, by kernel_rfl⟩,
   ⟨Tryz.underlying260, Tryz.sizeOf260, Tryz.zeroValue260, trivial, by kernel_rfl⟩,
   ⟨Tryz.underlying261, Tryz.sizeOf261, Tryz.zeroValue261, trivial, by kernel_rfl⟩,
   ⟨Tryz.underlying262, Tryz.sizeOf262, Tryz.zeroValue262, trivial, by kernel_rfl⟩,
   ⟨⟨_, _, _, Tryz.underlying265⟩, Tryz.sizeOf265, Tryz.zeroValue265, trivial, by kernel_rfl⟩,
   trivial⟩
theorem fnsGood : FGoods Tryz.prog [3, 4, 5, 6, 7, 8, 9, 10, 11, 12, 13, 14, 15, 16, 17, 18, 19, 20, 21, 22, 23, 24, 25, 26, 27, 28, 29, 30, 31, 32, 33, 34, 35, 36, 37, 38, 39, 40, 41, 42, 43, 44, 45, 46, 47, 48, 49, 50, 51, 52, 53, 54, 55, 56, 57, 58, 59, 60, 61, 62, 63, 64, 65, 66, 67, 68, 69, 70, 71, 72, 73, 74, 75, 76, 77, 78, 79, 80, 81, 82, 83, 84, 85, 86, 88, 89, 90, 91, 92, 93, 94, 95, 96, 97, 98, 99, 100, 101, 102, 103, 104, 105, 106, 107, 108, 109, 110, 111, 112, 113, 114, 115, 116, 117, 118, 119, 120, 121, 122, 123, 124, 125, 126, 127, 128, 129, 130, 131, 132, 133, 134, 135, 136, 137, 138, 139, 140, 141, 142, 143, 144, 145, 146, 147, 148, 149, 150, 151, 152, 153, 154, 155, 156, 157, 158, 159, 160, 161, 162, 163, 164] :=
  ⟨enters_of Tryz.func3 (by kernel_rfl) rfl,
   enters_of Tryz.func4 (by kernel_rfl) rfl,
   enters_of Tryz.func5 (by kernel_rfl) rfl,
   enters_of Tryz.func6 (by kernel_rfl) rfl,
   enters_of Tryz.func7 (by kernel_rfl) rfl,
   enters_of Tryz.func8 (by kernel_rfl) rfl,
   enters_of Tryz.func9 (by kernel_rfl) rfl,
   enters_of Tryz.func10 (by kernel_rfl) rfl,
   enters_of Tryz.func11 (by kernel_rfl) rfl,
   enters_of Tryz.func12 (by kernel_rfl) rfl,
   enters_of Tryz.func13 (by kernel_rfl) rfl,
   enters_of Tryz.func14 (by kernel_rfl) rfl,
   enters_of Tryz.func15 (by kernel_rfl) rfl,
   enters_of Tryz.func16 (by kernel_rfl) rfl,
   enters_of Tryz.func17 (by kernel_rfl) rfl,
   enters_of Tryz.func18 (by kernel_rfl) rfl,
   enters_of Tryz.func19 (by kernel_rfl) rfl,
   enters_of Tryz.func20 (by kernel_rfl) rfl,
   enters_of Tryz.func21 (by kernel_rfl) rfl,
   enters_of Tryz.func22 (by kernel_rfl) rfl,
   enters_of Tryz.func23 (by kernel_rfl) rfl,
   enters_of Tryz.func24 (by kernel_rfl) rfl,
   enters_of Tryz.func25 (by kernel_rfl) rfl,
   enters_of Tryz.func26 (by kernel_rfl) rfl,
   enters_of Tryz.func27 (by kernel_rfl) rfl,
   enters_of Tryz.func28 (by kernel_rfl) rfl,
   enters_of Tryz.func29 (by kernel_rfl) rfl,
   enters_of Tryz.func30 (by kernel_rfl) rfl,
   enters_of Tryz.func31 (by kernel_rfl) rfl,
   enters_of Tryz.func32 (by kernel_rfl) rfl,
   enters_of Tryz.func33 (by kernel_rfl) rfl,
   enters_of Tryz.func34 (by kernel_rfl) rfl,
   enters_of Tryz.func35 (by kernel_rfl) rfl,
   enters_of Tryz.func36 (by kernel_rfl) rfl,
   enters_of Tryz.func37 (by kernel_rfl) rfl,
   enters_of Tryz.func38 (by kernel_rfl) rfl,
   enters_of Tryz.func39 (by kernel_rfl) rfl,
   enters_of Tryz.func40 (by kernel_rfl) rfl,
   enters_of Tryz.func41 (by kernel_rfl) rfl,
   enters_of Tryz.func42 (by kernel_rfl) rfl,
   enters_of Tryz.func43 (by kernel_rfl) rfl,
   enters_of Tryz.func44 (by kernel_rfl) rfl,
   enters_of Tryz.func45 (by kernel_rfl) rfl,
   enters_of Tryz.func46 (by kernel_rfl) rfl,
   enters_of Tryz.func47 (by kernel_rfl) rfl,
   enters_of Tryz.func48 (by kernel_rfl) rfl,
   enters_of Tryz.func49 (by kernel_rfl) rfl,
   enters_of Tryz.func50 (by kernel_rfl) rfl,
   enters_of Tryz.func51 (by kernel_rfl) rfl,
   enters_of Tryz.func52 (by kernel_rfl) rfl,
   enters_of Tryz.func53 (by kernel_rfl) rfl,
   enters_of Tryz.func54 (by kernel_rfl) rfl,
   enters_of Tryz.func55 (by kernel_rfl) rfl,
   enters_of Tryz.func56 (by kernel_rfl) rfl,
   enters_of Tryz.func57 (by kernel_rfl) rfl,
   enters_of Tryz.func58 (by kernel_rfl) rfl,
   enters_of Tryz.func59 (by kernel_rfl) rfl,
   enters_of Tryz.func60 (by kernel_rfl) rfl,
   enters_of Tryz.func61 (by kernel_rfl) rfl,
   enters_of Tryz.func62 (by kernel_rfl) rfl,
   enters_of Tryz.func63 (by kernel_rfl) rfl,
   enters_of Tryz.func64 (by kernel_rfl) rfl,
   enters_of Tryz.func65 (by kernel_rfl) rfl,
   enters_of Tryz.func66 (by kernel_rfl) rfl,
   enters_of Tryz.func67 (by kernel_rfl) rfl,
   enters_of Tryz.func68 (by kernel_rfl) rfl,
   enters_of Tryz.func69 (by kernel_rfl) rfl,
   enters_of Tryz.func70 (by kernel_rfl) rfl,
   enters_of Tryz.func71 (by kernel_rfl) rfl,
   enters_of Tryz.func72 (by kernel_rfl) rfl,
   enters_of Tryz.func73 (by kernel_rfl) rfl,
   enters_of Tryz.func74 (by kernel_rfl) rfl,
   enters_of Tryz.func75 (by kernel_rfl) rfl,
   enters_of Tryz.func76 (by kernel_rfl) rfl,
   enters_of Tryz.func77 (by kernel_rfl) rfl,
   enters_of Tryz.func78 (by kernel_rfl) rfl,
   enters_of Tryz.func79 (by kernel_rfl) rfl,
   enters_of Tryz.func80 (by kernel_rfl) rfl,
   enters_of Tryz.func81 (by kernel_rfl) rfl,
   enters_of Tryz.func82 (by kernel_rfl) rfl,
   enters_of Tryz.func83 (by kernel_rfl) rfl,
   enters_of Tryz.func84 (by kernel_rfl) rfl,
   enters_of Tryz.func85 (by kernel_rfl) rfl,
   enters_of Tryz.func86 (by kernel_rfl) rfl,
   enters_of Tryz.func88 (by kernel_rfl) rfl,
   enters_of Tryz.func89 (by kernel_rfl) rfl,
   enters_of Tryz.func90 (by kernel_rfl) rfl,
   enters_of Tryz.func91 (by kernel_rfl) rfl,
   enters_of Tryz.func92 (by kernel_rfl) rfl,
   enters_of Tryz.func93 (by kernel_rfl) rfl,
   enters_of Tryz.func94 (by kernel_rfl) rfl,
   enters_of Tryz.func95 (by kernel_rfl) rfl,
   enters_of Tryz.func96 (by kernel_rfl) rfl,
   enters_of Tryz.func97 (by kernel_rfl) rfl,
   enters_of Tryz.func98 (by kernel_rfl) rfl,
   enters_of Tryz.func99 (by kernel_rfl) rfl,
   enters_of Tryz.func100 (by kernel_rfl) rfl,
   enters_of Tryz.func101 (by kernel_rfl) rfl,
   enters_of Tryz.func102 (by kernel_rfl) rfl,
   enters_of Tryz.func103 (by kernel_rfl) rfl,
   enters_of Tryz.func104 (by kernel_rfl) rfl,
   enters_of Tryz.func105 (by kernel_rfl) rfl,
   enters_of Tryz.func106 (by kernel_rfl) rfl,
   enters_of Tryz.func107 (by kernel_rfl) rfl,
   enters_of Tryz.func108 (by kernel_rfl) rfl,
   enters_of Tryz.func109 (by kernel_rfl) rfl,
   enters_of Tryz.func110 (by kernel_rfl) rfl,
   enters_of Tryz.func111 (by kernel_rfl) rfl,
   enters_of Tryz.func112 (by kernel_rfl) rfl,
   enters_of Tryz.func113 (by kernel_rfl) rfl,
   enters_of Tryz.func114 (by kernel_rfl) rfl,
   enters_of Tryz.func115 (by kernel_rfl) rfl,
   enters_of Tryz.func116 (by kernel_rfl) rfl,
   enters_of Tryz.func117 (by kernel_rfl) rfl,
   enters_of Tryz.func118 (by kernel_rfl) rfl,
   enters_of Tryz.func119 (by kernel_rfl) rfl,
   enters_of Tryz.func120 (by kernel_rfl) rfl,
   enters_of Tryz.func121 (by kernel_rfl) rfl,
   enters_of Tryz.func122 (by kernel_rfl) rfl,
   enters_of Tryz.func123 (by kernel_rfl) rfl,
   enters_of Tryz.func124 (by kernel_rfl) rfl,
   enters_of Tryz.func125 (by kernel_rfl) rfl,
   enters_of Tryz.func126 (by kernel_rfl) rfl,
   enters_of Tryz.func127 (by kernel_rfl) rfl,
   enters_of Tryz.func128 (by kernel_rfl) rfl,
   enters_of Tryz.func129 (by kernel_rfl) rfl,
   enters_of Tryz.func130 (by kernel_rfl) rfl,
   enters_of Tryz.func131 (by kernel_rfl) rfl,
   enters_of Tryz.func132 (by kernel_rfl) rfl,
   enters_of Tryz.func133 (by kernel_rfl) rfl,
   enters_of Tryz.func134 (by kernel_rfl) rfl,
   enters_of Tryz.func135 (by kernel_rfl) rfl,
   enters_of Tryz.func136 (by kernel_rfl) rfl,
   enters_of Tryz.func137 (by kernel_rfl) rfl,
   enters_of Tryz.func138 (by kernel_rfl) rfl,
   enters_of Tryz.func139 (by kernel_rfl) rfl,
   enters_of Tryz.func140 (by kernel_rfl) rfl,
   enters_of Tryz.func141 (by kernel_rfl) rfl,
   enters_of Tryz.func142 (by kernel_rfl) rfl,
   enters_of Tryz.func143 (by kernel_rfl) rfl,
   enters_of Tryz.func144 (by kernel_rfl) rfl,
   enters_of Tryz.func145 (by kernel_rfl) rfl,
   enters_of Tryz.func146 (by kernel_rfl) rfl,
   enters_of Tryz.func147 (by kernel_rfl) rfl,
   enters_of Tryz.func148 (by kernel_rfl) rfl,
   enters_of Tryz.func149 (by kernel_rfl) rfl,
   enters_of Tryz.func150 (by kernel_rfl) rfl,
   enters_of Tryz.func151 (by kernel_rfl) rfl,
   enters_of Tryz.func152 (by kernel_rfl) rfl,
   enters_of Tryz.func153 (by kernel_rfl) rfl,
   enters_of Tryz.func154 (by kernel_rfl) rfl,
   enters_of Tryz.func155 (by kernel_rfl) rfl,
   enters_of Tryz.func156 (by kernel_rfl) rfl,
   enters_of Tryz.func157 (by kernel_rfl) rfl,
   enters_of Tryz.func158 (by kernel_rfl) rfl,
   enters_of Tryz.func159 (by kernel_rfl) rfl,
   enters_of Tryz.func160 (by kernel_rfl) rfl,
   enters_of Tryz.func161 (by kernel_rfl) rfl,
   enters_of Tryz.func162 (by kernel_rfl) rfl,
   enters_of Tryz.func163 (by kernel_rfl) rfl,
   enters_of Tryz.func164 (by kernel_rfl) rfl, trivial⟩
theorem mixGood : Tryz.prog.follows .mixedOrders = true := by kernel_rfl
def tb : Tb Tryz.prog := { rows := rowsTab, good := rowsGood, fns := [3, 4, 5, 6, 7, 8, 9, 10, 11, 12, 13, 14, 15, 16, 17, 18, 19, 20, 21, 22, 23, 24, 25, 26, 27, 28, 29, 30, 31, 32, 33, 34, 35, 36, 37, 38, 39, 40, 41, 42, 43, 44, 45, 46, 47, 48, 49, 50, 51, 52, 53, 54, 55, 56, 57, 58, 59, 60, 61, 62, 63, 64, 65, 66, 67, 68, 69, 70, 71, 72, 73, 74, 75, 76, 77, 78, 79, 80, 81, 82, 83, 84, 85, 86, 88, 89, 90, 91, 92, 93, 94, 95, 96, 97, 98, 99, 100, 101, 102, 103, 104, 105, 106, 107, 108, 109, 110, 111, 112, 113, 114, 115, 116, 117, 118, 119, 120, 121, 122, 123, 124, 125, 126, 127, 128, 129, 130, 131, 132, 133, 134, 135, 136, 137, 138, 139, 140, 141, 142, 143, 144, 145, 146, 147, 148, 149, 150, 151, 152, 153, 154, 155, 156, 157, 158, 159, 160, 161, 162, 163, 164], fgood := fnsGood, mix := mixGood, deep := Nat.le_of_ble_eq_true (by kernel_rfl) }
end Go.Proofs.YtplhnkmmhndkjaaGreat
set_option linter.unusedSimpArgs false
set_option linter.unusedVariables false
namespace Go.Proofs.YtplhnkmmhndkjaaGreat
open Go.RowKit Go.Shelf
set_option maxRecDepth 100000
structure Cl where
  id : Int
  roles : Int
  exp : Int
  ser : Int
  deriving DecidableEq
instance : Inhabited Cl := ⟨⟨0, 0, 0, 0⟩⟩
def Cl.v (c : Cl) : List Value := [.int .i64 c.id, .int .i64 c.roles, .int .i64 c.exp, .int .i64 c.ser]
def kvC (c : Cl) : Value := .agg ⟨[.int .i64 c.id, .int .i64 c.roles, .int .i64 c.exp, .int .i64 c.ser]⟩
def Cl.right (c : Cl) : Prop := 1 ≤ c.id ∧ c.id ≤ 65535 ∧ 0 ≤ c.roles ∧ c.roles ≤ 255 ∧ 0 ≤ c.exp ∧ c.exp ≤ 1073741824 ∧ 1 ≤ c.ser ∧ c.ser ≤ 65535
instance (c : Cl) : Decidable c.right := by unfold Cl.right; infer_instance

theorem spans_ok (a b c d : Int) : CallP Tryz.prog 95 [.agg ⟨[.int .i64 a, .int .i64 b, .int .i64 c, .int .i64 d]⟩]
    (.agg ⟨[.int .i64 a, .int .i64 1, .int .i64 65535, .int .i64 b, .int .i64 0, .int .i64 255, .int .i64 c, .int .i64 0, .int .i64 1073741824, .int .i64 d, .int .i64 1, .int .i64 65535]⟩) := by
  refine enterP (tb := tb) Tryz.func95 rfl Tryz.ntmps95 rfl fun w => ?_
  repeat' (first | (apply R.is1; first | (apply R.pure; exact rfl; first | (apply Ok1.fieldAddr; (iterate 5 exact rfl)) | (apply Ok1.load; exact rfl; first | (apply Ld.own1; exact rfl; exact rfl; (focus ((repeat' (first | exact At.head | apply At.tail | apply At.right)); done)); exact rfl) | (apply Ld.ownk; exact rfl; exact rfl; (focus ((repeat' (first | exact At.head | apply At.tail | apply At.right)); done)); exact rfl) | (apply Ld.old1; exact rfl; exact rfl; assumption; (first | exact List.not_mem_nil | assumption)) | (apply Ld.blk1; exact rfl; exact rfl; assumption; (first | exact List.not_mem_nil | assumption); exact rfl) | (apply Ld.blkk; exact rfl; exact rfl; assumption; (first | exact List.not_mem_nil | assumption); exact rfl)) | (apply Ok1.build; (iterate 5 exact rfl)) | (apply Ok1.buildA; (iterate 6 exact rfl))) | (apply R.box; (iterate 3 exact rfl); intro) | (apply R.alloc; (iterate 3 exact rfl); intro)) | (apply R.is0; first | (apply R.store; (iterate 6 exact rfl); (focus ((repeat' (first | exact Upd.head | apply Upd.tail | apply Upd.right)); done)); exact rfl) | fail) | (apply R.isG; first | (apply R.guard_run; exact rfl; exact rfl) | (apply R.guard_not; (iterate 3 exact rfl)) | (apply R.guard_not0; exact rfl; exact rfl) | (apply R.guard_un; (iterate 3 exact rfl)) | (apply R.guard_un0; exact rfl; exact rfl) | (apply R.guard rfl rfl ?_ (fun h => ⟨rfl, ?_⟩) <;> try intro)) | apply R.nil | (apply T.is; first | apply T.seq | apply T.region | apply T.block | apply T.scope | apply T.label | apply T.skip | apply T.exit | apply T.ret | (apply T.cond_t; exact rfl) | (apply T.cond_f; exact rfl) | (apply T.cond_h; exact rfl; assumption) | (apply T.cond_n; exact rfl; assumption) | (apply T.cond rfl <;> intro)) | apply Rnd.step)
  (apply RetOk.c; exact rfl; (first | (apply Ld.ownk; exact rfl; exact rfl; (focus ((repeat' (first | exact At.head | apply At.tail | apply At.right)); done)); exact rfl) | (apply Ld.own1; exact rfl; exact rfl; (focus ((repeat' (first | exact At.head | apply At.tail | apply At.right)); done)); exact rfl)))
  rfl
theorem check_ok (a b c d : Int) : CallP Tryz.prog 59 [.agg ⟨[.int .i64 a, .int .i64 b, .int .i64 c, .int .i64 d]⟩] (.int .i64 (if Cl.right ⟨a, b, c, d⟩ then 0 else 10)) := by
  refine enterP (tb := tb) Tryz.func59 rfl Tryz.ntmps59 rfl fun w => ?_
  repeat' (first | (apply R.is1; first | (apply R.isBin; first | (apply R.pure; exact rfl; first | (apply Ok1.add64; exact rfl; exact rfl; omega; omega) | (apply Ok1.lss_t; exact rfl; exact rfl; omega) | (apply Ok1.lss_f; exact rfl; exact rfl; omega) | (apply Ok1.leq_t; exact rfl; exact rfl; omega) | (apply Ok1.leq_f; exact rfl; exact rfl; omega) | (apply Ok1.geq_t; exact rfl; exact rfl; omega) | (apply Ok1.geq_f; exact rfl; exact rfl; omega)) | (apply R.lss rfl rfl rfl <;> intro) | (apply R.leq rfl rfl rfl <;> intro) | (apply R.geq rfl rfl rfl <;> intro)) | (apply R.isCall; first | apply R.callP rfl rfl rfl (spans_ok _ _ _ _)) | (apply R.pure; exact rfl; first | (apply Ok1.move; exact rfl) | (apply Ok1.fieldAddr; (iterate 5 exact rfl)) | (apply Ok1.load; exact rfl; first | (apply Ld.own1; exact rfl; exact rfl; (focus ((repeat' (first | exact At.head | apply At.tail | apply At.right)); done)); exact rfl) | (apply Ld.ownk; exact rfl; exact rfl; (focus ((repeat' (first | exact At.head | apply At.tail | apply At.right)); done)); exact rfl) | (apply Ld.old1; exact rfl; exact rfl; assumption; (first | exact List.not_mem_nil | assumption)) | (apply Ld.blk1; exact rfl; exact rfl; assumption; (first | exact List.not_mem_nil | assumption); exact rfl) | (apply Ld.blkk; exact rfl; exact rfl; assumption; (first | exact List.not_mem_nil | assumption); exact rfl)) | (apply Ok1.assign; exact rfl) | (apply Ok1.pick_t; exact rfl; exact rfl) | (apply Ok1.pick_f; exact rfl; exact rfl) | (apply Ok1.pick_h; exact rfl; assumption; exact rfl) | (apply Ok1.pick_n; exact rfl; assumption; exact rfl) | (apply Ok1.index1; (iterate 6 exact rfl); omega; omega; exact rfl) | (apply Ok1.indexk; (iterate 6 exact rfl); omega; omega; exact rfl)) | (apply R.box; (iterate 3 exact rfl); intro) | (apply R.alloc; (iterate 3 exact rfl); intro)) | (apply R.is0; first | (apply R.store; (iterate 6 exact rfl); (focus ((repeat' (first | exact Upd.head | apply Upd.tail | apply Upd.right)); done)); exact rfl) | fail) | (apply R.isG; first | (apply R.guard_run; exact rfl; exact rfl) | (apply R.guard_not; (iterate 3 exact rfl)) | (apply R.guard_not0; exact rfl; exact rfl) | (apply R.guard_un; (iterate 3 exact rfl)) | (apply R.guard_un0; exact rfl; exact rfl) | (apply R.guard rfl rfl ?_ (fun h => ⟨rfl, ?_⟩) <;> try intro)) | apply R.nil | (apply T.is; first | apply T.rounds 5 | apply T.seq | apply T.region | apply T.block | apply T.scope | apply T.label | apply T.skip | apply T.exit | apply T.ret | (apply T.cond_t; exact rfl) | (apply T.cond_f; exact rfl) | (apply T.cond_h; exact rfl; assumption) | (apply T.cond_n; exact rfl; assumption) | (apply T.cond rfl <;> intro)) | apply Rnd.step)
  all_goals (apply RetOk.t; exact rfl)
  all_goals first | rw [if_pos (by simp only [Cl.right]; omega)] | rw [if_neg (by simp only [Cl.right]; omega)]

def cmpI (x y : Int) : Int := if x < y then -1 else if y < x then 1 else 0
theorem isNaN_ok (x : Int) : CallP Tryz.prog 128 [.int .i64 x] (.bool false) := by
  refine enterP (tb := tb) Tryz.func128 rfl Tryz.ntmps128 rfl fun w => ?_
  repeat' (first | (apply R.is1; first | (apply R.isBin; first | (apply R.pure; exact rfl; first | (apply Ok1.neq_t; exact rfl; exact rfl; omega) | (apply Ok1.neq_f; exact rfl; exact rfl; omega) | (apply Ok1.neqP; (iterate 5 exact rfl)) | (apply Ok1.neqM; (iterate 5 exact rfl)) | (apply Ok1.neqS; (iterate 5 exact rfl))) | (apply R.neq rfl rfl rfl <;> intro) | (apply R.neqF; (iterate 8 exact rfl); all_goals intro)) | (apply R.pure; exact rfl; first | (apply Ok1.move; exact rfl) | (apply Ok1.assign; exact rfl))) | (apply R.is0; first | fail) | (apply R.isG; first | (apply R.guard_run; exact rfl; exact rfl) | (apply R.guard_not; (iterate 3 exact rfl)) | (apply R.guard_not0; exact rfl; exact rfl) | (apply R.guard_un; (iterate 3 exact rfl)) | (apply R.guard_un0; exact rfl; exact rfl) | (apply R.guard rfl rfl ?_ (fun h => ⟨rfl, ?_⟩) <;> try intro)) | apply R.nil | (apply T.is; first | apply T.seq | apply T.region | apply T.block | apply T.scope | apply T.label | apply T.skip | apply T.exit | apply T.ret | (apply T.cond_t; exact rfl) | (apply T.cond_f; exact rfl) | (apply T.cond_h; exact rfl; assumption) | (apply T.cond_n; exact rfl; assumption) | (apply T.cond rfl <;> intro)) | apply Rnd.step)
  (apply RetOk.t; exact rfl)
  rfl
theorem cmp_ok (x y : Int) : CallP Tryz.prog 113 [.int .i64 x, .int .i64 y] (.int .i64 (cmpI x y)) := by
  refine enterP (tb := tb) Tryz.func113 rfl Tryz.ntmps113 rfl fun w => ?_
  repeat' (first | (apply R.is1; first | (apply R.isBin; first | (apply R.pure; exact rfl; first | (apply Ok1.lss_t; exact rfl; exact rfl; omega) | (apply Ok1.lss_f; exact rfl; exact rfl; omega) | (apply Ok1.gtr_t; exact rfl; exact rfl; omega) | (apply Ok1.gtr_f; exact rfl; exact rfl; omega)) | (apply R.lss rfl rfl rfl <;> intro) | (apply R.gtr rfl rfl rfl <;> intro)) | (apply R.isCall; first | apply R.callP rfl rfl rfl (isNaN_ok _)) | (apply R.pure; exact rfl; first | (apply Ok1.move; exact rfl) | (apply Ok1.assign; exact rfl))) | (apply R.is0; first | fail) | (apply R.isG; first | (apply R.guard_run; exact rfl; exact rfl) | (apply R.guard_not; (iterate 3 exact rfl)) | (apply R.guard_not0; exact rfl; exact rfl) | (apply R.guard_un; (iterate 3 exact rfl)) | (apply R.guard_un0; exact rfl; exact rfl) | (apply R.guard rfl rfl ?_ (fun h => ⟨rfl, ?_⟩) <;> try intro)) | apply R.nil | (apply T.is; first | apply T.seq | apply T.region | apply T.block | apply T.scope | apply T.label | apply T.skip | apply T.exit | apply T.ret | (apply T.cond_t; exact rfl) | (apply T.cond_f; exact rfl) | (apply T.cond_h; exact rfl; assumption) | (apply T.cond_n; exact rfl; assumption) | (apply T.cond rfl <;> intro)) | apply Rnd.step)
  all_goals (apply RetOk.t; exact rfl)
  all_goals simp only [cmpI]
  all_goals first | rw [if_pos (by omega)] | (rw [if_neg (by omega), if_pos (by omega)]) | (rw [if_neg (by omega), if_neg (by omega)])
def or4 (a b c d : Int) : Int := if a ≠ 0 then a else if b ≠ 0 then b else if c ≠ 0 then c else d
theorem or_ok (a b c d : Int) (bl e : Nat) (w : World) (hb : w.heap[bl]? = some (.cells ⟨[.int .i64 a, .int .i64 b, .int .i64 c, .int .i64 d]⟩ e (0, 0))) :
    CallW Tryz.prog 112 [.slice (some ⟨bl, 0, none⟩) 4 4] w fun v _ => v = .int .i64 (or4 a b c d) := by
  refine enterW (tb := tb) Tryz.func112 rfl Tryz.ntmps112 rfl ?_
  repeat' (first | (apply R.is1; first | (apply R.isBin; first | (apply R.pure; exact rfl; first | (apply Ok1.add64; exact rfl; exact rfl; omega; omega) | (apply Ok1.lss_t; exact rfl; exact rfl; omega) | (apply Ok1.lss_f; exact rfl; exact rfl; omega) | (apply Ok1.neq_t; exact rfl; exact rfl; omega) | (apply Ok1.neq_f; exact rfl; exact rfl; omega) | (apply Ok1.neqP; (iterate 5 exact rfl)) | (apply Ok1.neqM; (iterate 5 exact rfl)) | (apply Ok1.neqS; (iterate 5 exact rfl))) | (apply R.lss rfl rfl rfl <;> intro) | (apply R.neq rfl rfl rfl <;> intro) | (apply R.neqF; (iterate 8 exact rfl); all_goals intro)) | (apply R.isCall; first | (apply R.pure; exact rfl; first | (apply Ok1.lenS; (iterate 3 exact rfl)) | (apply Ok1.lenStr; (iterate 3 exact rfl)) | (apply Ok1.lenMm; (iterate 3 exact rfl); (focus ((repeat' (first | exact At.head | apply At.tail | apply At.right)); done))) | (apply Ok1.lenM_nil; (iterate 3 exact rfl)))) | (apply R.pure; exact rfl; first | (apply Ok1.move; exact rfl) | (apply Ok1.load; exact rfl; first | (apply Ld.own1; exact rfl; exact rfl; (focus ((repeat' (first | exact At.head | apply At.tail | apply At.right)); done)); exact rfl) | (apply Ld.ownk; exact rfl; exact rfl; (focus ((repeat' (first | exact At.head | apply At.tail | apply At.right)); done)); exact rfl) | (apply Ld.old1; exact rfl; exact rfl; assumption; (first | exact List.not_mem_nil | assumption)) | (apply Ld.blk1; exact rfl; exact rfl; assumption; (first | exact List.not_mem_nil | assumption); exact rfl) | (apply Ld.blkk; exact rfl; exact rfl; assumption; (first | exact List.not_mem_nil | assumption); exact rfl)) | (apply Ok1.assign; exact rfl) | (apply Ok1.indexAddr; (iterate 5 exact rfl); omega; omega) | (apply Ok1.indexAddrA; (iterate 5 exact rfl); omega; omega))) | (apply R.is0; first | fail) | (apply R.isG; first | (apply R.guard_run; exact rfl; exact rfl) | (apply R.guard_not; (iterate 3 exact rfl)) | (apply R.guard_not0; exact rfl; exact rfl) | (apply R.guard_un; (iterate 3 exact rfl)) | (apply R.guard_un0; exact rfl; exact rfl) | (apply R.guard rfl rfl ?_ (fun h => ⟨rfl, ?_⟩) <;> try intro)) | apply R.nil | (apply T.is; first | apply T.rounds 5 | apply T.seq | apply T.region | apply T.block | apply T.scope | apply T.label | apply T.skip | apply T.exit | apply T.ret | (apply T.cond_t; exact rfl) | (apply T.cond_f; exact rfl) | (apply T.cond_h; exact rfl; assumption) | (apply T.cond_n; exact rfl; assumption) | (apply T.cond rfl <;> intro)) | apply Rnd.step)
  all_goals (apply RetOk.t; exact rfl)
  all_goals simp only [or4]
  all_goals first | (rw [if_pos (by omega)]; done) | (rw [if_neg (by omega), if_pos (by omega)]; done) | (rw [if_neg (by omega), if_neg (by omega), if_pos (by omega)]; done) | (rw [if_neg (by omega), if_neg (by omega), if_neg (by omega)]; first | done | (congr 1; omega))
end Go.Proofs.YtplhnkmmhndkjaaGreat
set_option linter.unusedSimpArgs false
set_option linter.unusedVariables false
namespace Go.Proofs.YtplhnkmmhndkjaaGreat
open Go.RowKit Go.Shelf
set_option maxRecDepth 100000
def cmpCl (c d : Cl) : Int := if c = d then 0 else or4 (cmpI c.ser d.ser) (cmpI c.id d.id) (cmpI c.exp d.exp) (cmpI c.roles d.roles)
theorem compare_ok (c d : Cl) : CallP Tryz.prog 80 [.agg ⟨[.int .i64 c.id, .int .i64 c.roles, .int .i64 c.exp, .int .i64 c.ser]⟩, .agg ⟨[.int .i64 d.id, .int .i64 d.roles, .int .i64 d.exp, .int .i64 d.ser]⟩] (.int .i64 (cmpCl c d)) := by
  refine enterP (tb := tb) Tryz.func80 rfl Tryz.ntmps80 rfl fun w => ?_
  repeat' (first | (apply R.is1; first | (apply R.isBin; first | (apply R.pure; exact rfl; first | (apply Ok1.eql_t; exact rfl; exact rfl; omega) | (apply Ok1.eql_f; exact rfl; exact rfl; omega) | (apply Ok1.eqlP; (iterate 5 exact rfl)) | (apply Ok1.eqlM; (iterate 5 exact rfl)) | (apply Ok1.eqlS; (iterate 5 exact rfl))) | (apply R.eql rfl rfl rfl <;> intro) | (apply R.eqlF; (iterate 8 exact rfl); all_goals intro)) | (apply R.isCall; first | apply R.callP rfl rfl rfl (cmp_ok _ _) | (apply R.callV; (iterate 3 exact rfl); (intro w1 hw1; exact or_ok _ _ _ _ _ _ _ (hw1.get _ _ (At.mem (by (focus ((repeat' (first | exact At.head | apply At.tail | apply At.right)); done)))))))) | (apply R.pure; exact rfl; first | (apply Ok1.fieldAddr; (iterate 5 exact rfl)) | (apply Ok1.load; exact rfl; first | (apply Ld.own1; exact rfl; exact rfl; (focus ((repeat' (first | exact At.head | apply At.tail | apply At.right)); done)); exact rfl) | (apply Ld.ownk; exact rfl; exact rfl; (focus ((repeat' (first | exact At.head | apply At.tail | apply At.right)); done)); exact rfl) | (apply Ld.old1; exact rfl; exact rfl; assumption; (first | exact List.not_mem_nil | assumption)) | (apply Ld.blk1; exact rfl; exact rfl; assumption; (first | exact List.not_mem_nil | assumption); exact rfl) | (apply Ld.blkk; exact rfl; exact rfl; assumption; (first | exact List.not_mem_nil | assumption); exact rfl)) | (apply Ok1.assign; exact rfl)) | (apply R.box; (iterate 3 exact rfl); intro) | (apply R.buildSlice; (iterate 12 exact rfl); intro)) | (apply R.is0; first | fail) | (apply R.isG; first | (apply R.guard_run; exact rfl; exact rfl) | (apply R.guard_not; (iterate 3 exact rfl)) | (apply R.guard_not0; exact rfl; exact rfl) | (apply R.guard_un; (iterate 3 exact rfl)) | (apply R.guard_un0; exact rfl; exact rfl) | (apply R.guard rfl rfl ?_ (fun h => ⟨rfl, ?_⟩) <;> try intro)) | apply R.nil | (apply T.is; first | (apply T.draw (id := 3); ((apply A.take 0; exact rfl; exact rfl; kernel_rfl; kernel_rfl; kernel_rfl; first | (apply Ok1.fieldAddr; (iterate 5 exact rfl))) <;> (apply A.take 1; exact rfl; exact rfl; kernel_rfl; kernel_rfl; kernel_rfl; first | (apply Ok1.load; exact rfl; first | (apply Ld.own1; exact rfl; exact rfl; (focus ((repeat' (first | exact At.head | apply At.tail | apply At.right)); done)); exact rfl) | (apply Ld.ownk; exact rfl; exact rfl; (focus ((repeat' (first | exact At.head | apply At.tail | apply At.right)); done)); exact rfl) | (apply Ld.old1; exact rfl; exact rfl; assumption; (first | exact List.not_mem_nil | assumption)) | (apply Ld.blk1; exact rfl; exact rfl; assumption; (first | exact List.not_mem_nil | assumption); exact rfl) | (apply Ld.blkk; exact rfl; exact rfl; assumption; (first | exact List.not_mem_nil | assumption); exact rfl))) <;> (apply A.take 2; exact rfl; exact rfl; kernel_rfl; kernel_rfl; kernel_rfl; first | (apply Ok1.fieldAddr; (iterate 5 exact rfl))) <;> (apply A.take 3; exact rfl; exact rfl; kernel_rfl; kernel_rfl; kernel_rfl; first | (apply Ok1.load; exact rfl; first | (apply Ld.own1; exact rfl; exact rfl; (focus ((repeat' (first | exact At.head | apply At.tail | apply At.right)); done)); exact rfl) | (apply Ld.ownk; exact rfl; exact rfl; (focus ((repeat' (first | exact At.head | apply At.tail | apply At.right)); done)); exact rfl) | (apply Ld.old1; exact rfl; exact rfl; assumption; (first | exact List.not_mem_nil | assumption)) | (apply Ld.blk1; exact rfl; exact rfl; assumption; (first | exact List.not_mem_nil | assumption); exact rfl) | (apply Ld.blkk; exact rfl; exact rfl; assumption; (first | exact List.not_mem_nil | assumption); exact rfl))) <;> (apply A.take 5; exact rfl; exact rfl; kernel_rfl; kernel_rfl; kernel_rfl; first | (apply Ok1.fieldAddr; (iterate 5 exact rfl))) <;> (apply A.take 6; exact rfl; exact rfl; kernel_rfl; kernel_rfl; kernel_rfl; first | (apply Ok1.load; exact rfl; first | (apply Ld.own1; exact rfl; exact rfl; (focus ((repeat' (first | exact At.head | apply At.tail | apply At.right)); done)); exact rfl) | (apply Ld.ownk; exact rfl; exact rfl; (focus ((repeat' (first | exact At.head | apply At.tail | apply At.right)); done)); exact rfl) | (apply Ld.old1; exact rfl; exact rfl; assumption; (first | exact List.not_mem_nil | assumption)) | (apply Ld.blk1; exact rfl; exact rfl; assumption; (first | exact List.not_mem_nil | assumption); exact rfl) | (apply Ld.blkk; exact rfl; exact rfl; assumption; (first | exact List.not_mem_nil | assumption); exact rfl))) <;> (apply A.take 7; exact rfl; exact rfl; kernel_rfl; kernel_rfl; kernel_rfl; first | (apply Ok1.fieldAddr; (iterate 5 exact rfl))) <;> (apply A.take 8; exact rfl; exact rfl; kernel_rfl; kernel_rfl; kernel_rfl; first | (apply Ok1.load; exact rfl; first | (apply Ld.own1; exact rfl; exact rfl; (focus ((repeat' (first | exact At.head | apply At.tail | apply At.right)); done)); exact rfl) | (apply Ld.ownk; exact rfl; exact rfl; (focus ((repeat' (first | exact At.head | apply At.tail | apply At.right)); done)); exact rfl) | (apply Ld.old1; exact rfl; exact rfl; assumption; (first | exact List.not_mem_nil | assumption)) | (apply Ld.blk1; exact rfl; exact rfl; assumption; (first | exact List.not_mem_nil | assumption); exact rfl) | (apply Ld.blkk; exact rfl; exact rfl; assumption; (first | exact List.not_mem_nil | assumption); exact rfl))) <;> (apply A.take 10; exact rfl; exact rfl; kernel_rfl; kernel_rfl; kernel_rfl; first | (apply Ok1.fieldAddr; (iterate 5 exact rfl))) <;> (apply A.take 11; exact rfl; exact rfl; kernel_rfl; kernel_rfl; kernel_rfl; first | (apply Ok1.load; exact rfl; first | (apply Ld.own1; exact rfl; exact rfl; (focus ((repeat' (first | exact At.head | apply At.tail | apply At.right)); done)); exact rfl) | (apply Ld.ownk; exact rfl; exact rfl; (focus ((repeat' (first | exact At.head | apply At.tail | apply At.right)); done)); exact rfl) | (apply Ld.old1; exact rfl; exact rfl; assumption; (first | exact List.not_mem_nil | assumption)) | (apply Ld.blk1; exact rfl; exact rfl; assumption; (first | exact List.not_mem_nil | assumption); exact rfl) | (apply Ld.blkk; exact rfl; exact rfl; assumption; (first | exact List.not_mem_nil | assumption); exact rfl))) <;> (apply A.take 12; exact rfl; exact rfl; kernel_rfl; kernel_rfl; kernel_rfl; first | (apply Ok1.fieldAddr; (iterate 5 exact rfl))) <;> (apply A.take 13; exact rfl; exact rfl; kernel_rfl; kernel_rfl; kernel_rfl; first | (apply Ok1.load; exact rfl; first | (apply Ld.own1; exact rfl; exact rfl; (focus ((repeat' (first | exact At.head | apply At.tail | apply At.right)); done)); exact rfl) | (apply Ld.ownk; exact rfl; exact rfl; (focus ((repeat' (first | exact At.head | apply At.tail | apply At.right)); done)); exact rfl) | (apply Ld.old1; exact rfl; exact rfl; assumption; (first | exact List.not_mem_nil | assumption)) | (apply Ld.blk1; exact rfl; exact rfl; assumption; (first | exact List.not_mem_nil | assumption); exact rfl) | (apply Ld.blkk; exact rfl; exact rfl; assumption; (first | exact List.not_mem_nil | assumption); exact rfl))) <;> (apply A.take 15; exact rfl; exact rfl; kernel_rfl; kernel_rfl; kernel_rfl; first | (apply Ok1.fieldAddr; (iterate 5 exact rfl))) <;> (apply A.take 16; exact rfl; exact rfl; kernel_rfl; kernel_rfl; kernel_rfl; first | (apply Ok1.load; exact rfl; first | (apply Ld.own1; exact rfl; exact rfl; (focus ((repeat' (first | exact At.head | apply At.tail | apply At.right)); done)); exact rfl) | (apply Ld.ownk; exact rfl; exact rfl; (focus ((repeat' (first | exact At.head | apply At.tail | apply At.right)); done)); exact rfl) | (apply Ld.old1; exact rfl; exact rfl; assumption; (first | exact List.not_mem_nil | assumption)) | (apply Ld.blk1; exact rfl; exact rfl; assumption; (first | exact List.not_mem_nil | assumption); exact rfl) | (apply Ld.blkk; exact rfl; exact rfl; assumption; (first | exact List.not_mem_nil | assumption); exact rfl))) <;> (apply A.take 17; exact rfl; exact rfl; kernel_rfl; kernel_rfl; kernel_rfl; first | (apply Ok1.fieldAddr; (iterate 5 exact rfl))) <;> (apply A.take 18; exact rfl; exact rfl; kernel_rfl; kernel_rfl; kernel_rfl; first | (apply Ok1.load; exact rfl; first | (apply Ld.own1; exact rfl; exact rfl; (focus ((repeat' (first | exact At.head | apply At.tail | apply At.right)); done)); exact rfl) | (apply Ld.ownk; exact rfl; exact rfl; (focus ((repeat' (first | exact At.head | apply At.tail | apply At.right)); done)); exact rfl) | (apply Ld.old1; exact rfl; exact rfl; assumption; (first | exact List.not_mem_nil | assumption)) | (apply Ld.blk1; exact rfl; exact rfl; assumption; (first | exact List.not_mem_nil | assumption); exact rfl) | (apply Ld.blkk; exact rfl; exact rfl; assumption; (first | exact List.not_mem_nil | assumption); exact rfl))) <;> (apply A.one 4; kernel_rfl; exact rfl; ((first | apply R.callP rfl rfl rfl (cmp_ok _ _) | (apply R.callV; (iterate 3 exact rfl); (intro w1 hw1; exact or_ok _ _ _ _ _ _ _ (hw1.get _ _ (At.mem (by (focus ((repeat' (first | exact At.head | apply At.tail | apply At.right)); done))))))) | (apply R.pure; exact rfl; first | (apply Ok1.lenS; (iterate 3 exact rfl)) | (apply Ok1.lenStr; (iterate 3 exact rfl)) | (apply Ok1.lenMm; (iterate 3 exact rfl); (focus ((repeat' (first | exact At.head | apply At.tail | apply At.right)); done))) | (apply Ok1.lenM_nil; (iterate 3 exact rfl)) | (apply Ok1.max2; exact rfl; exact rfl) | (apply Ok1.min2; exact rfl; exact rfl)))); apply R.nil; refine ⟨?_, ?_⟩; (focus ((repeat' (first | exact trivial | (refine ⟨?_, ?_⟩; (focus ((repeat' (first | exact At.head | apply At.tail | apply At.right)); done)))))))) <;> (apply A.one 9; kernel_rfl; exact rfl; ((first | apply R.callP rfl rfl rfl (cmp_ok _ _) | (apply R.callV; (iterate 3 exact rfl); (intro w1 hw1; exact or_ok _ _ _ _ _ _ _ (hw1.get _ _ (At.mem (by (focus ((repeat' (first | exact At.head | apply At.tail | apply At.right)); done))))))) | (apply R.pure; exact rfl; first | (apply Ok1.lenS; (iterate 3 exact rfl)) | (apply Ok1.lenStr; (iterate 3 exact rfl)) | (apply Ok1.lenMm; (iterate 3 exact rfl); (focus ((repeat' (first | exact At.head | apply At.tail | apply At.right)); done))) | (apply Ok1.lenM_nil; (iterate 3 exact rfl)) | (apply Ok1.max2; exact rfl; exact rfl) | (apply Ok1.min2; exact rfl; exact rfl)))); apply R.nil; refine ⟨?_, ?_⟩; (focus ((repeat' (first | exact trivial | (refine ⟨?_, ?_⟩; (focus ((repeat' (first | exact At.head | apply At.tail | apply At.right)); done)))))))) <;> (apply A.one 14; kernel_rfl; exact rfl; ((first | apply R.callP rfl rfl rfl (cmp_ok _ _) | (apply R.callV; (iterate 3 exact rfl); (intro w1 hw1; exact or_ok _ _ _ _ _ _ _ (hw1.get _ _ (At.mem (by (focus ((repeat' (first | exact At.head | apply At.tail | apply At.right)); done))))))) | (apply R.pure; exact rfl; first | (apply Ok1.lenS; (iterate 3 exact rfl)) | (apply Ok1.lenStr; (iterate 3 exact rfl)) | (apply Ok1.lenMm; (iterate 3 exact rfl); (focus ((repeat' (first | exact At.head | apply At.tail | apply At.right)); done))) | (apply Ok1.lenM_nil; (iterate 3 exact rfl)) | (apply Ok1.max2; exact rfl; exact rfl) | (apply Ok1.min2; exact rfl; exact rfl)))); apply R.nil; refine ⟨?_, ?_⟩; (focus ((repeat' (first | exact trivial | (refine ⟨?_, ?_⟩; (focus ((repeat' (first | exact At.head | apply At.tail | apply At.right)); done)))))))) <;> (apply A.one 19; kernel_rfl; exact rfl; ((first | apply R.callP rfl rfl rfl (cmp_ok _ _) | (apply R.callV; (iterate 3 exact rfl); (intro w1 hw1; exact or_ok _ _ _ _ _ _ _ (hw1.get _ _ (At.mem (by (focus ((repeat' (first | exact At.head | apply At.tail | apply At.right)); done))))))) | (apply R.pure; exact rfl; first | (apply Ok1.lenS; (iterate 3 exact rfl)) | (apply Ok1.lenStr; (iterate 3 exact rfl)) | (apply Ok1.lenMm; (iterate 3 exact rfl); (focus ((repeat' (first | exact At.head | apply At.tail | apply At.right)); done))) | (apply Ok1.lenM_nil; (iterate 3 exact rfl)) | (apply Ok1.max2; exact rfl; exact rfl) | (apply Ok1.min2; exact rfl; exact rfl)))); apply R.nil; refine ⟨?_, ?_⟩; (focus ((repeat' (first | exact trivial | (refine ⟨?_, ?_⟩; (focus ((repeat' (first | exact At.head | apply At.tail | apply At.right)); done)))))))) <;> (apply A.one 20; kernel_rfl; exact rfl; ((first | (apply R.buildSlice; (iterate 12 exact rfl); intro) | fail)); apply R.nil; refine ⟨?_, ?_⟩; (focus ((repeat' (first | exact trivial | (refine ⟨?_, ?_⟩; (focus ((repeat' (first | exact At.head | apply At.tail | apply At.right)); done)))))))) <;> (apply A.one 21; kernel_rfl; exact rfl; ((first | apply R.callP rfl rfl rfl (cmp_ok _ _) | (apply R.callV; (iterate 3 exact rfl); (intro w1 hw1; exact or_ok _ _ _ _ _ _ _ (hw1.get _ _ (At.mem (by (focus ((repeat' (first | exact At.head | apply At.tail | apply At.right)); done))))))) | (apply R.pure; exact rfl; first | (apply Ok1.lenS; (iterate 3 exact rfl)) | (apply Ok1.lenStr; (iterate 3 exact rfl)) | (apply Ok1.lenMm; (iterate 3 exact rfl); (focus ((repeat' (first | exact At.head | apply At.tail | apply At.right)); done))) | (apply Ok1.lenM_nil; (iterate 3 exact rfl)) | (apply Ok1.max2; exact rfl; exact rfl) | (apply Ok1.min2; exact rfl; exact rfl)))); apply R.nil; refine ⟨?_, ?_⟩; (focus ((repeat' (first | exact trivial | (refine ⟨?_, ?_⟩; (focus ((repeat' (first | exact At.head | apply At.tail | apply At.right)); done)))))))) <;> (apply A.take 22; exact rfl; exact rfl; kernel_rfl; kernel_rfl; kernel_rfl; first | (apply Ok1.assign; exact rfl)) <;> (apply A.done; kernel_rfl))) | apply T.seq | apply T.region | apply T.block | apply T.scope | apply T.label | apply T.skip | apply T.exit | apply T.ret | (apply T.cond_t; exact rfl) | (apply T.cond_f; exact rfl) | (apply T.cond_h; exact rfl; assumption) | (apply T.cond_n; exact rfl; assumption) | (apply T.cond rfl <;> intro)) | apply Rnd.step)
  all_goals (apply RetOk.t; exact rfl)
  all_goals simp only [cmpCl]
  · have h := ‹(_ : List Value) = _›
    simp only [List.cons.injEq, Value.int.injEq, true_and, and_true] at h
    rw [if_pos (by cases c; cases d; simp_all)]
  · have h := ‹(_ : List Value) ≠ _›
    simp only [ne_eq, List.cons.injEq, Value.int.injEq, true_and, and_true] at h
    rw [if_neg (by rintro rfl; exact h ⟨rfl, rfl, rfl, rfl⟩)]

theorem right_ok (a b c d : Int) : CallP Tryz.prog 21 [.agg ⟨[.int .i64 a, .int .i64 b, .int .i64 c, .int .i64 d]⟩] (.bool (decide (Cl.right ⟨a, b, c, d⟩))) := by
  refine enterP (tb := tb) Tryz.func21 rfl Tryz.ntmps21 rfl fun w => ?_
  repeat' (first | (apply R.is1; first | (apply R.isBin; first | (apply R.pure; exact rfl; first | (apply Ok1.lss_t; exact rfl; exact rfl; omega) | (apply Ok1.lss_f; exact rfl; exact rfl; omega) | (apply Ok1.leq_t; exact rfl; exact rfl; omega) | (apply Ok1.leq_f; exact rfl; exact rfl; omega) | (apply Ok1.gtr_t; exact rfl; exact rfl; omega) | (apply Ok1.gtr_f; exact rfl; exact rfl; omega) | (apply Ok1.geq_t; exact rfl; exact rfl; omega) | (apply Ok1.geq_f; exact rfl; exact rfl; omega)) | (apply R.lss rfl rfl rfl <;> intro) | (apply R.leq rfl rfl rfl <;> intro) | (apply R.gtr rfl rfl rfl <;> intro) | (apply R.geq rfl rfl rfl <;> intro)) | (apply R.pure; exact rfl; first | (apply Ok1.move; exact rfl) | (apply Ok1.fieldAddr; (iterate 5 exact rfl)) | (apply Ok1.load; exact rfl; first | (apply Ld.own1; exact rfl; exact rfl; (focus ((repeat' (first | exact At.head | apply At.tail | apply At.right)); done)); exact rfl) | (apply Ld.ownk; exact rfl; exact rfl; (focus ((repeat' (first | exact At.head | apply At.tail | apply At.right)); done)); exact rfl) | (apply Ld.old1; exact rfl; exact rfl; assumption; (first | exact List.not_mem_nil | assumption)) | (apply Ld.blk1; exact rfl; exact rfl; assumption; (first | exact List.not_mem_nil | assumption); exact rfl) | (apply Ld.blkk; exact rfl; exact rfl; assumption; (first | exact List.not_mem_nil | assumption); exact rfl)) | (apply Ok1.assign; exact rfl) | (apply Ok1.pick_t; exact rfl; exact rfl) | (apply Ok1.pick_f; exact rfl; exact rfl) | (apply Ok1.pick_h; exact rfl; assumption; exact rfl) | (apply Ok1.pick_n; exact rfl; assumption; exact rfl)) | (apply R.box; (iterate 3 exact rfl); intro)) | (apply R.is0; first | fail) | (apply R.isG; first | (apply R.guard_run; exact rfl; exact rfl) | (apply R.guard_not; (iterate 3 exact rfl)) | (apply R.guard_not0; exact rfl; exact rfl) | (apply R.guard_un; (iterate 3 exact rfl)) | (apply R.guard_un0; exact rfl; exact rfl) | (apply R.guard rfl rfl ?_ (fun h => ⟨rfl, ?_⟩) <;> try intro)) | apply R.nil | (apply T.is; first | apply T.seq | apply T.region | apply T.block | apply T.scope | apply T.label | apply T.skip | apply T.exit | apply T.ret | (apply T.cond_t; exact rfl) | (apply T.cond_f; exact rfl) | (apply T.cond_h; exact rfl; assumption) | (apply T.cond_n; exact rfl; assumption) | (apply T.cond rfl <;> intro)) | apply Rnd.step)
  all_goals (apply RetOk.t; exact rfl)
  all_goals congr 1
  all_goals first | (rw [decide_eq_true (by simp only [Cl.right]; omega)]) | (rw [decide_eq_false (by simp only [Cl.right]; omega)])
theorem to5_ok (a b c d : Int) : CallP Tryz.prog 23 [.agg ⟨[.int .i64 a, .int .i64 b, .int .i64 c, .int .i64 d]⟩] (.agg ⟨[.int .i64 a, .int .i64 b, .int .i64 c, .int .i64 d]⟩) := by
  refine enterP (tb := tb) Tryz.func23 rfl Tryz.ntmps23 rfl fun w => ?_
  repeat' (first | (apply R.is1; first | (apply R.pure; exact rfl; first | (apply Ok1.fieldAddr; (iterate 5 exact rfl)) | (apply Ok1.load; exact rfl; first | (apply Ld.own1; exact rfl; exact rfl; (focus ((repeat' (first | exact At.head | apply At.tail | apply At.right)); done)); exact rfl) | (apply Ld.ownk; exact rfl; exact rfl; (focus ((repeat' (first | exact At.head | apply At.tail | apply At.right)); done)); exact rfl) | (apply Ld.old1; exact rfl; exact rfl; assumption; (first | exact List.not_mem_nil | assumption)) | (apply Ld.blk1; exact rfl; exact rfl; assumption; (first | exact List.not_mem_nil | assumption); exact rfl) | (apply Ld.blkk; exact rfl; exact rfl; assumption; (first | exact List.not_mem_nil | assumption); exact rfl)) | (apply Ok1.build; (iterate 5 exact rfl)) | (apply Ok1.buildA; (iterate 6 exact rfl))) | (apply R.box; (iterate 3 exact rfl); intro) | (apply R.alloc; (iterate 3 exact rfl); intro)) | (apply R.is0; first | (apply R.store; (iterate 6 exact rfl); (focus ((repeat' (first | exact Upd.head | apply Upd.tail | apply Upd.right)); done)); exact rfl) | fail) | (apply R.isG; first | (apply R.guard_run; exact rfl; exact rfl) | (apply R.guard_not; (iterate 3 exact rfl)) | (apply R.guard_not0; exact rfl; exact rfl) | (apply R.guard_un; (iterate 3 exact rfl)) | (apply R.guard_un0; exact rfl; exact rfl) | (apply R.guard rfl rfl ?_ (fun h => ⟨rfl, ?_⟩) <;> try intro)) | apply R.nil | (apply T.is; first | apply T.seq | apply T.region | apply T.block | apply T.scope | apply T.label | apply T.skip | apply T.exit | apply T.ret | (apply T.cond_t; exact rfl) | (apply T.cond_f; exact rfl) | (apply T.cond_h; exact rfl; assumption) | (apply T.cond_n; exact rfl; assumption) | (apply T.cond rfl <;> intro)) | apply Rnd.step)
  (apply RetOk.c; exact rfl; (first | (apply Ld.ownk; exact rfl; exact rfl; (focus ((repeat' (first | exact At.head | apply At.tail | apply At.right)); done)); exact rfl) | (apply Ld.own1; exact rfl; exact rfl; (focus ((repeat' (first | exact At.head | apply At.tail | apply At.right)); done)); exact rfl)))
  rfl
theorem of5_ok (a b c d : Int) : CallP Tryz.prog 40 [.agg ⟨[.int .i64 a, .int .i64 b, .int .i64 c, .int .i64 d]⟩] (.agg ⟨[.int .i64 a, .int .i64 b, .int .i64 c, .int .i64 d]⟩) := by
  refine enterP (tb := tb) Tryz.func40 rfl Tryz.ntmps40 rfl fun w => ?_
  repeat' (first | (apply R.is1; first | (apply R.pure; exact rfl; first | (apply Ok1.fieldAddr; (iterate 5 exact rfl)) | (apply Ok1.load; exact rfl; first | (apply Ld.own1; exact rfl; exact rfl; (focus ((repeat' (first | exact At.head | apply At.tail | apply At.right)); done)); exact rfl) | (apply Ld.ownk; exact rfl; exact rfl; (focus ((repeat' (first | exact At.head | apply At.tail | apply At.right)); done)); exact rfl) | (apply Ld.old1; exact rfl; exact rfl; assumption; (first | exact List.not_mem_nil | assumption)) | (apply Ld.blk1; exact rfl; exact rfl; assumption; (first | exact List.not_mem_nil | assumption); exact rfl) | (apply Ld.blkk; exact rfl; exact rfl; assumption; (first | exact List.not_mem_nil | assumption); exact rfl)) | (apply Ok1.build; (iterate 5 exact rfl)) | (apply Ok1.buildA; (iterate 6 exact rfl))) | (apply R.box; (iterate 3 exact rfl); intro) | (apply R.alloc; (iterate 3 exact rfl); intro)) | (apply R.is0; first | (apply R.store; (iterate 6 exact rfl); (focus ((repeat' (first | exact Upd.head | apply Upd.tail | apply Upd.right)); done)); exact rfl) | fail) | (apply R.isG; first | (apply R.guard_run; exact rfl; exact rfl) | (apply R.guard_not; (iterate 3 exact rfl)) | (apply R.guard_not0; exact rfl; exact rfl) | (apply R.guard_un; (iterate 3 exact rfl)) | (apply R.guard_un0; exact rfl; exact rfl) | (apply R.guard rfl rfl ?_ (fun h => ⟨rfl, ?_⟩) <;> try intro)) | apply R.nil | (apply T.is; first | apply T.seq | apply T.region | apply T.block | apply T.scope | apply T.label | apply T.skip | apply T.exit | apply T.ret | (apply T.cond_t; exact rfl) | (apply T.cond_f; exact rfl) | (apply T.cond_h; exact rfl; assumption) | (apply T.cond_n; exact rfl; assumption) | (apply T.cond rfl <;> intro)) | apply Rnd.step)
  (apply RetOk.c; exact rfl; (first | (apply Ld.ownk; exact rfl; exact rfl; (focus ((repeat' (first | exact At.head | apply At.tail | apply At.right)); done)); exact rfl) | (apply Ld.own1; exact rfl; exact rfl; (focus ((repeat' (first | exact At.head | apply At.tail | apply At.right)); done)); exact rfl)))
  rfl
end Go.Proofs.YtplhnkmmhndkjaaGreat
set_option linter.unusedSimpArgs false
set_option linter.unusedVariables false
namespace Go.Proofs.YtplhnkmmhndkjaaGreat
open Go.RowKit Go.Shelf
set_option maxRecDepth 100000
theorem len64_ok (x : Int) (h0 : 0 ≤ x) (h1 : x ≤ 18446744073709551615) : CallP Tryz.prog 142 [.int .u64 x] (.int .i64 (blen x.toNat)) := by
  refine enterP (tb := tb) Tryz.func142 rfl Tryz.ntmps142 rfl fun w => ?_
  repeat' (first | (apply R.is1; first | (apply R.isBin; first | (apply R.pure; exact rfl; first | (apply Ok1.add64; exact rfl; exact rfl; omega; omega) | (apply Ok1.geq_t; exact rfl; exact rfl; omega) | (apply Ok1.geq_f; exact rfl; exact rfl; omega) | (apply Ok1.shr; exact rfl; exact rfl; omega; exact Nat.le_of_ble_eq_true rfl; (first | exact pwE1 | exact pwE2 | exact pwE3 | exact pwE4 | exact pwE5 | exact pwE6 | exact pwE7 | exact pwE8 | exact pwE16 | exact pwE24 | exact pwE32 | exact rfl))) | (apply R.geq rfl rfl rfl <;> intro)) | (apply R.pure; exact rfl; first | (apply Ok1.len8; (iterate 4 exact rfl); omega; omega; kernel_rfl) | (apply Ok1.move; exact rfl) | (apply Ok1.assign; exact rfl) | (apply Ok1.index1; (iterate 6 exact rfl); omega; omega; exact rfl) | (apply Ok1.indexk; (iterate 6 exact rfl); omega; omega; exact rfl) | (apply Ok1.convI64; (iterate 5 exact rfl); omega; omega) | (apply Ok1.convU64; (iterate 5 exact rfl); omega; omega) | (apply Ok1.convU32; (iterate 5 exact rfl); omega; omega) | (apply Ok1.convU8; (iterate 5 exact rfl); omega; omega) | (apply Ok1.conv; (iterate 5 exact rfl)))) | (apply R.is0; first | fail) | (apply R.isG; first | (apply R.guard_run; exact rfl; exact rfl) | (apply R.guard_not; (iterate 3 exact rfl)) | (apply R.guard_not0; exact rfl; exact rfl) | (apply R.guard_un; (iterate 3 exact rfl)) | (apply R.guard_un0; exact rfl; exact rfl) | (apply R.guard rfl rfl ?_ (fun h => ⟨rfl, ?_⟩) <;> try intro)) | apply R.nil | (apply T.is; first | apply T.seq | apply T.region | apply T.block | apply T.scope | apply T.label | apply T.skip | apply T.exit | apply T.ret | (apply T.cond_t; exact rfl) | (apply T.cond_f; exact rfl) | (apply T.cond_h; exact rfl; assumption) | (apply T.cond_n; exact rfl; assumption) | (apply T.cond rfl <;> intro)) | apply Rnd.step)
  all_goals (apply RetOk.t; exact rfl)
  all_goals congr 1
  all_goals rw [Nat.min_eq_left (blen_le 8 (by omega))]
  all_goals first
    | (rw [blen32 (x := x.toNat) (by omega), blen16 (x := x.toNat / 4294967296) (by omega), blen8 (x := x.toNat / 4294967296 / 65536) (by omega), show (x / 4294967296 / 65536 / 256).toNat = x.toNat / 4294967296 / 65536 / 256 by omega]; omega)
    | (rw [blen32 (x := x.toNat) (by omega), blen16 (x := x.toNat / 4294967296) (by omega), show (x / 4294967296 / 65536).toNat = x.toNat / 4294967296 / 65536 by omega]; omega)
    | (rw [blen32 (x := x.toNat) (by omega), blen8 (x := x.toNat / 4294967296) (by omega), show (x / 4294967296 / 256).toNat = x.toNat / 4294967296 / 256 by omega]; omega)
    | (rw [blen32 (x := x.toNat) (by omega), show (x / 4294967296).toNat = x.toNat / 4294967296 by omega]; omega)
    | (rw [blen16 (x := x.toNat) (by omega), blen8 (x := x.toNat / 65536) (by omega), show (x / 65536 / 256).toNat = x.toNat / 65536 / 256 by omega]; omega)
    | (rw [blen16 (x := x.toNat) (by omega), show (x / 65536).toNat = x.toNat / 65536 by omega]; omega)
    | (rw [blen8 (x := x.toNat) (by omega), show (x / 256).toNat = x.toNat / 256 by omega]; omega)
    | omega
theorem len_ok (x : Int) (h0 : 0 ≤ x) (h1 : x ≤ 18446744073709551615) : CallP Tryz.prog 121 [.int .u64 x] (.int .i64 (blen x.toNat)) := by
  refine enterP (tb := tb) Tryz.func121 rfl Tryz.ntmps121 rfl fun w => ?_
  repeat' (first | (apply R.is1; first | (apply R.isCall; first | apply R.callP rfl rfl rfl (len64_ok _ (by omega) (by omega))) | (apply R.pure; exact rfl; first | (apply Ok1.move; exact rfl) | (apply Ok1.assign; exact rfl) | (apply Ok1.convI64; (iterate 5 exact rfl); omega; omega) | (apply Ok1.convU64; (iterate 5 exact rfl); omega; omega) | (apply Ok1.convU32; (iterate 5 exact rfl); omega; omega) | (apply Ok1.convU8; (iterate 5 exact rfl); omega; omega) | (apply Ok1.conv; (iterate 5 exact rfl)))) | (apply R.is0; first | fail) | (apply R.isG; first | (apply R.guard_run; exact rfl; exact rfl) | (apply R.guard_not; (iterate 3 exact rfl)) | (apply R.guard_not0; exact rfl; exact rfl) | (apply R.guard_un; (iterate 3 exact rfl)) | (apply R.guard_un0; exact rfl; exact rfl) | (apply R.guard rfl rfl ?_ (fun h => ⟨rfl, ?_⟩) <;> try intro)) | apply R.nil | (apply T.is; first | apply T.seq | apply T.region | apply T.block | apply T.scope | apply T.label | apply T.skip | apply T.exit | apply T.ret | (apply T.cond_t; exact rfl) | (apply T.cond_f; exact rfl) | (apply T.cond_h; exact rfl; assumption) | (apply T.cond_n; exact rfl; assumption) | (apply T.cond rfl <;> intro)) | apply Rnd.step)
  all_goals (apply RetOk.t; exact rfl)
  rfl
end Go.Proofs.YtplhnkmmhndkjaaGreat
set_option linter.unusedSimpArgs false
set_option linter.unusedVariables false
namespace Go.Proofs.YtplhnkmmhndkjaaGreat
open Go.RowKit Go.Shelf
set_option maxRecDepth 100000
structure Rm where
  kind : Int
  cl : Cl
  inc : Int
  deriving DecidableEq
def Rm.v (r : Rm) : List Value := [.int .i64 r.kind, .int .i64 r.cl.id, .int .i64 r.cl.roles, .int .i64 r.cl.exp, .int .i64 r.cl.ser, .int .i64 r.inc]
theorem Rm.v_len (r : Rm) : r.v.length = 6 := rfl
def Rm.chk (r : Rm) : Int := if r.kind < 0 ∨ 3 ≤ r.kind then 13 else if ¬ r.cl.right ∨ r.inc < 0 ∨ 2147483647 < r.inc then 10 else 0
theorem mcheck_ok (r : Rm) : CallP Tryz.prog 77 [.agg ⟨r.v⟩] (.int .i64 r.chk) := by
  refine enterP (tb := tb) Tryz.func77 rfl Tryz.ntmps77 rfl fun w => ?_
  simp only [Rm.v]
  repeat' (first | (apply R.is1; first | (apply R.isBin; first | (apply R.pure; exact rfl; first | (apply Ok1.lss_t; exact rfl; exact rfl; omega) | (apply Ok1.lss_f; exact rfl; exact rfl; omega) | (apply Ok1.gtr_t; exact rfl; exact rfl; omega) | (apply Ok1.gtr_f; exact rfl; exact rfl; omega) | (apply Ok1.geq_t; exact rfl; exact rfl; omega) | (apply Ok1.geq_f; exact rfl; exact rfl; omega) | (apply Ok1.neq_t; exact rfl; exact rfl; omega) | (apply Ok1.neq_f; exact rfl; exact rfl; omega) | (apply Ok1.neqP; (iterate 5 exact rfl)) | (apply Ok1.neqM; (iterate 5 exact rfl)) | (apply Ok1.neqS; (iterate 5 exact rfl))) | (apply R.lss rfl rfl rfl <;> intro) | (apply R.gtr rfl rfl rfl <;> intro) | (apply R.geq rfl rfl rfl <;> intro) | (apply R.neq rfl rfl rfl <;> intro) | (apply R.neqF; (iterate 8 exact rfl); all_goals intro)) | (apply R.isCall; first | apply R.callP rfl rfl rfl (check_ok _ _ _ _)) | (apply R.pure; exact rfl; first | (apply Ok1.move; exact rfl) | (apply Ok1.fieldAddr; (iterate 5 exact rfl)) | (apply Ok1.load; exact rfl; first | (apply Ld.own1; exact rfl; exact rfl; (focus ((repeat' (first | exact At.head | apply At.tail | apply At.right)); done)); exact rfl) | (apply Ld.ownk; exact rfl; exact rfl; (focus ((repeat' (first | exact At.head | apply At.tail | apply At.right)); done)); exact rfl) | (apply Ld.old1; exact rfl; exact rfl; assumption; (first | exact List.not_mem_nil | assumption)) | (apply Ld.blk1; exact rfl; exact rfl; assumption; (first | exact List.not_mem_nil | assumption); exact rfl) | (apply Ld.blkk; exact rfl; exact rfl; assumption; (first | exact List.not_mem_nil | assumption); exact rfl)) | (apply Ok1.assign; exact rfl) | (apply Ok1.pick_t; exact rfl; exact rfl) | (apply Ok1.pick_f; exact rfl; exact rfl) | (apply Ok1.pick_h; exact rfl; assumption; exact rfl) | (apply Ok1.pick_n; exact rfl; assumption; exact rfl)) | (apply R.box; (iterate 3 exact rfl); intro)) | (apply R.is0; first | fail) | (apply R.isG; first | (apply R.guard_run; exact rfl; exact rfl) | (apply R.guard_not; (iterate 3 exact rfl)) | (apply R.guard_not0; exact rfl; exact rfl) | (apply R.guard_un; (iterate 3 exact rfl)) | (apply R.guard_un0; exact rfl; exact rfl) | (apply R.guard rfl rfl ?_ (fun h => ⟨rfl, ?_⟩) <;> try intro)) | apply R.nil | (apply T.is; first | apply T.rounds 5 | apply T.seq | apply T.region | apply T.block | apply T.scope | apply T.label | apply T.skip | apply T.exit | apply T.ret | (apply T.cond_t; exact rfl) | (apply T.cond_f; exact rfl) | (apply T.cond_h; exact rfl; assumption) | (apply T.cond_n; exact rfl; assumption) | (apply T.cond rfl <;> intro)) | apply Rnd.step)
  all_goals (apply RetOk.t; exact rfl)
  all_goals simp only [Rm.chk]
  all_goals congr 1
  all_goals by_cases hr : r.cl.right
  all_goals have hr' : Cl.right ⟨r.cl.id, r.cl.roles, r.cl.exp, r.cl.ser⟩ ↔ r.cl.right := Iff.rfl
  all_goals simp only [hr', hr, if_true, if_false, ne_eq, not_true, not_false_eq_true, false_or, true_or] at *
  all_goals repeat' split
  all_goals first | rfl | omega
end Go.Proofs.YtplhnkmmhndkjaaGreat
set_option linter.unusedSimpArgs false
set_option linter.unusedVariables false
namespace Go.Proofs.YtplhnkmmhndkjaaGreat
open Go.RowKit Go.Shelf
def andI (k : IntKind) (x y : Int) : Int := k.wrap (BitVec.ofInt k.bits x &&& BitVec.ofInt k.bits y).toNat
def orI (k : IntKind) (x y : Int) : Int := k.wrap (BitVec.ofInt k.bits x ||| BitVec.ofInt k.bits y).toNat
def xorI (k : IntKind) (x y : Int) : Int := k.wrap (BitVec.ofInt k.bits x ^^^ BitVec.ofInt k.bits y).toNat
section
variable {X : Cx} {σ : Env} {L : Lst} {d : Option Nat} {ty ty2 t : TypeId} {pos : String} {af : Array Edge} {g : Option (Nat × Bool)} {x y : Operand} {i j : Int} {k : IntKind}
theorem Ok1.shl {k2 : IntKind} {m : Int} (hx : ev σ x = some (.int k i)) (hy : ev σ y = some (.int k2 j)) (h : 0 ≤ j) (h2 : j.toNat ≤ k.bits) (hm : pw j.toNat = m) : Ok1 X ⟨d, .binOp .shl t x y ty2, ty, pos, af, g⟩ σ L (.int k (k.wrap (i * m))) := .mk fun a w ha hw => by
  have : ¬ j < 0 := by omega
  rw [← hm, pw_eq]
  simp [execOp, ha.ev hx, ha.ev hy, eqGuard, binOp, Op.shift, this, Nat.min_eq_left h2]
theorem wrap_u64 {i : Int} (h1 : 0 ≤ i) (h2 : i ≤ 18446744073709551615) : IntKind.u64.wrap i = i := IntWalk.u64_in i ⟨h1, h2⟩
end
end Go.Proofs.YtplhnkmmhndkjaaGreat
set_option linter.unusedSimpArgs false
set_option linter.unusedVariables false
namespace Go.Proofs.YtplhnkmmhndkjaaGreat
open Go.RowKit Go.Shelf
def wr (i : Int) : Int := IntKind.u32.wrap i
def rotr (x p q : Int) : Int := orI .u32 (wr (x * q)) (x / p)
def turned (x p1 q1 p2 q2 p3 q3 : Int) : Int := xorI .u32 (xorI .u32 (rotr x p1 q1) (rotr x p2 q2)) (rotr x p3 q3)
def chI (a b c : Int) : Int := xorI .u32 (andI .u32 a b) (andI .u32 (xorI .u32 4294967295 a) c)
def majI (a b c : Int) : Int := xorI .u32 (xorI .u32 (andI .u32 a b) (andI .u32 a c)) (andI .u32 b c)
/-- Four bytes, the highest first. -/
def wordI (a b c d : Int) : Int := a * 16777216 + b * 65536 + c * 256 + d
structure H8 where
  a : Int
  b : Int
  c : Int
  d : Int
  e : Int
  f : Int
  g : Int
  h : Int
def H8.l (s : H8) : List Int := [s.a, s.b, s.c, s.d, s.e, s.f, s.g, s.h]
def u32s (l : List Int) : List Value := l.map (.int .u32)
def u8s (l : List Int) : List Value := l.map (.int .u8)
def H8.v (s : H8) : List Value := u32s s.l
def oneI (s : H8) (k w : Int) : Int := wr (wr (wr (wr (s.h + turned s.e 64 67108864 2048 2097152 33554432 128) + chI s.e s.f s.g) + k) + w)
def twoI (s : H8) : Int := wr (turned s.a 4 1073741824 8192 524288 4194304 1024 + majI s.a s.b s.c)
def stepI (s : H8) (k w : Int) : H8 := ⟨wr (oneI s k w + twoI s), s.a, s.b, s.c, wr (s.d + oneI s k w), s.e, s.f, s.g⟩
def addH (s t : H8) : H8 := ⟨wr (s.a + t.a), wr (s.b + t.b), wr (s.c + t.c), wr (s.d + t.d), wr (s.e + t.e), wr (s.f + t.f), wr (s.g + t.g), wr (s.h + t.h)⟩
/-- The words of a block's bytes b. -/
def nextI (b l : List Int) : Int :=
  if l.length < 16 then wordI (b.getD (4 * l.length) 0) (b.getD (4 * l.length + 1) 0) (b.getD (4 * l.length + 2) 0) (b.getD (4 * l.length + 3) 0)
  else wr (wr (wr (l.getD (l.length - 16) 0 + xorI .u32 (xorI .u32 (rotr (l.getD (l.length - 15) 0) 128 33554432) (rotr (l.getD (l.length - 15) 0) 262144 16384)) (l.getD (l.length - 15) 0 / 8)) + l.getD (l.length - 7) 0)
    + xorI .u32 (xorI .u32 (rotr (l.getD (l.length - 2) 0) 131072 32768) (rotr (l.getD (l.length - 2) 0) 524288 8192)) (l.getD (l.length - 2) 0 / 1024))
def schedI (b : List Int) : Nat → List Int
  | 0 => []
  | i + 1 => schedI b i ++ [nextI b (schedI b i)]
def roundsI (K W : List Int) (s : H8) : Nat → H8
  | 0 => s
  | i + 1 => stepI (roundsI K W s i) (K.getD i 0) (W.getD i 0)
def mixI (K b : List Int) (s : H8) : H8 := addH s (roundsI K (schedI b 64) s 64)
/-- All whole blocks. -/
def allI (K : List Int) : Nat → List Int → H8 → H8
  | 0, _, s => s
  | n + 1, b, s => allI K n (b.drop 64) (mixI K (b.take 64) s)
def h0I : H8 := ⟨1779033703, 3144134277, 1013904242, 2773480762, 1359893119, 2600822924, 528734635, 1541459225⟩
def kI : List Int := [1116352408, 1899447441, 3049323471, 3921009573, 961987163, 1508970993, 2453635748, 2870763221, 3624381080, 310598401, 607225278, 1426881987, 1925078388, 2162078206, 2614888103, 3248222580, 3835390401, 4022224774, 264347078, 604807628, 770255983, 1249150122, 1555081692, 1996064986, 2554220882, 2821834349, 2952996808, 3210313671, 3336571891, 3584528711, 113926993, 338241895, 666307205, 773529912, 1294757372, 1396182291, 1695183700, 1986661051, 2177026350, 2456956037, 2730485921, 2820302411, 3259730800, 3345764771, 3516065817, 3600352804, 4094571909, 275423344, 430227734, 506948616, 659060556, 883997877, 958139571, 1322822218, 1537002063, 1747873779, 1955562222, 2024104815, 2227730452, 2361852424, 2428436474, 2756734187, 3204031479, 3329325298]
/-- The words and what is left, once bytes b have come. -/
def wordsI (b : List Int) : H8 := allI kI (b.length / 64) b h0I
def leftI (b : List Int) : List Int := b.drop (64 * (b.length / 64))
end Go.Proofs.YtplhnkmmhndkjaaGreat
set_option linter.unusedSimpArgs false
set_option linter.unusedVariables false
namespace Go.Proofs.YtplhnkmmhndkjaaGreat
open Go.RowKit Go.Shelf
set_option maxRecDepth 100000
def u8V (x : Int) : List Value := [.int .u8 x]
theorem u8V_len (x : Int) : (u8V x).length = 1 := rfl
theorem fl_u8 (bs : List Int) : fl u8V bs = u8s bs := by
  unfold fl u8s
  induction bs with
  | nil => rfl
  | cons a l ih => simp only [List.map_cons, List.flatten_cons, ih]; rfl
def Byt (bs : List Int) : Prop := ∀ x ∈ bs, 0 ≤ x ∧ x ≤ 255
end Go.Proofs.YtplhnkmmhndkjaaGreat
set_option linter.unusedSimpArgs false
set_option linter.unusedVariables false
namespace Go.Proofs.YtplhnkmmhndkjaaGreat
open Go.RowKit Go.Shelf
set_option maxRecDepth 100000
theorem u8s_app (a b : List Int) : u8s (a ++ b) = u8s a ++ u8s b := by simp [u8s]
theorem u8s_len (a : List Int) : (u8s a).length = a.length := by simp [u8s]
theorem u8s_one (a : List Int) : (u8s a).all Value.oneCell' = true := by rw [List.all_eq_true]; intro x hx; obtain ⟨y, _, rfl⟩ := List.mem_map.1 hx; rfl
theorem Byt.app {a b : List Int} (h1 : Byt a) (h2 : Byt b) : Byt (a ++ b) := fun x hx => by rcases List.mem_append.1 hx with h | h; exact h1 x h; exact h2 x h
theorem Byt.drop {a : List Int} (h : Byt a) (i : Nat) : Byt (a.drop i) := fun x hx => h x (List.mem_of_mem_drop hx)
theorem Byt.take {a : List Int} (h : Byt a) (i : Nat) : Byt (a.take i) := fun x hx => h x (List.mem_of_mem_take hx)
/-- p' reads as p does, from k on. -/
structure Sfx (p p' : Option Addr) (n k : Nat) : Prop where
  rd : ∀ (W : World) (xs : List Int), xs.length = n → RdSl W p u8V xs → RdSl W p' u8V (xs.drop k)
  off : ∀ S, Off p S → Off p' S
theorem Sfx.refl (p : Option Addr) (n : Nat) : Sfx p p n 0 := ⟨fun W xs _ h => h, fun _ h => h⟩
theorem Sfx.suf {p p' : Option Addr} {n k c i : Nat} (h : Sfx p p' n k) (h1 : k + i ≤ n) (h2 : n - k ≤ c) : Sfx p (sufP p' c i 1) n (k + i) :=
  ⟨fun W xs hl hp => by
    have := (h.rd W xs hl hp).suf u8V_len (cap := c) (i := i) (by rw [List.length_drop]; omega) (by rw [List.length_drop]; omega)
    rwa [List.drop_drop] at this, fun S ho => (h.off S ho).suf _ _ _⟩
end Go.Proofs.YtplhnkmmhndkjaaGreat
set_option linter.unusedSimpArgs false
set_option linter.unusedVariables false
namespace Go.Proofs.YtplhnkmmhndkjaaGreat
open Go.RowKit Go.Shelf
set_option maxRecDepth 100000
theorem u8_mod (i : Int) : IntKind.u8.wrap i = i % 256 := by simp [IntKind.wrap, IntKind.bits, IntKind.signed]
theorem rdnone {n : Nat} {xs : List Int} {w : World} (hn : n = xs.length) (h : RdSl w none u8V xs) : n = 0 := by
  rcases h with h | ⟨b, o, h, _⟩
  · rw [hn, h]; rfl
  · cases h
theorem clone_ok (p : Option Addr) (n cap : Nat) (xs : List Int) (hn : n = xs.length) (hbig : n ≤ 1000000000) (w : World) (hp : RdSl w p u8V xs) : CallM Tryz.prog 88 [.slice p n cap] [] w fun v L => ∃ ov, OvOk 1 ov n (u8s xs) ∧ ov.isSome = p.isSome ∧ v = slV ov n ∧ L = blkL 5 ov (u8s xs) := by
  refine enterK (tb := tb) Tryz.func88 rfl Tryz.ntmps88 rfl ?_
  cases p with
  | none =>
    have h0 := rdnone hn hp
    have hx : xs = [] := List.eq_nil_of_length_eq_zero (by omega)
    subst hx
    repeat' (first | (apply R.is1; first | (apply R.isBin; first | (apply R.pure; exact rfl; first | (apply Ok1.eqlS; (iterate 5 exact rfl)) | (apply Ok1.eql_t; exact rfl; exact rfl; omega) | (apply Ok1.eql_f; exact rfl; exact rfl; omega) | (apply Ok1.eqlP; (iterate 5 exact rfl)) | (apply Ok1.eqlM; (iterate 5 exact rfl)) | (apply Ok1.eqlS; (iterate 5 exact rfl))) | (apply R.eql rfl rfl rfl <;> intro) | (apply R.eqlF; (iterate 8 exact rfl); all_goals intro)) | (apply R.pure; exact rfl; first | (apply Ok1.move; exact rfl) | (apply Ok1.assign; exact rfl)) | (apply R.buildSlice; (iterate 12 exact rfl); intro)) | (apply R.is0; first | fail) | (apply R.isG; first | (apply R.guard_run; exact rfl; exact rfl) | (apply R.guard_not; (iterate 3 exact rfl)) | (apply R.guard_not0; exact rfl; exact rfl) | (apply R.guard_un; (iterate 3 exact rfl)) | (apply R.guard_un0; exact rfl; exact rfl) | (apply R.guard rfl rfl ?_ (fun h => ⟨rfl, ?_⟩) <;> try intro)) | apply R.nil | (apply T.is; first | apply T.seq | apply T.region | apply T.block | apply T.scope | apply T.label | apply T.skip | apply T.exit | apply T.ret | (apply T.cond_t; exact rfl) | (apply T.cond_f; exact rfl) | (apply T.cond_h; exact rfl; assumption) | (apply T.cond_n; exact rfl; assumption) | (apply T.cond rfl <;> intro)) | apply Rnd.step)
    (apply RetOk.t; exact rfl)
    exact ⟨_, by (focus ((repeat' (first | exact Keep.nil _ | exact Ext.one _ _ | exact Ext.here _ _ | exact Ext.all _ | apply Keep.cons | apply Keep.app | apply Keep.last | apply Ext.cons | apply Ext.app)); done)), none, by rw [h0]; exact OvOk.start 1, rfl, rfl, rfl⟩
  | some a =>
    repeat' (first | (apply R.is1; first | (apply R.buildSlice0; (iterate 4 exact rfl); intro b0) | (apply R.isBin; first | (apply R.pure; exact rfl; first | (apply Ok1.eqlS; (iterate 5 exact rfl)) | (apply Ok1.eql_t; exact rfl; exact rfl; omega) | (apply Ok1.eql_f; exact rfl; exact rfl; omega) | (apply Ok1.eqlP; (iterate 5 exact rfl)) | (apply Ok1.eqlM; (iterate 5 exact rfl)) | (apply Ok1.eqlS; (iterate 5 exact rfl))) | (apply R.eql rfl rfl rfl <;> intro) | (apply R.eqlF; (iterate 8 exact rfl); all_goals intro)) | (apply R.isCall; first | (apply R.appendRd (xs := xs) (v := u8V) (sz := 1) (ov := some (b0, 0, [])) (n := 0) (old := []); (iterate 12 exact rfl); exact ⟨rfl, rfl⟩; (focus ((repeat' (first | exact Ext.none _ | exact Ext.one _ _ | exact Ext.here _ _ | exact Ext.all _ | apply Ext.cons | apply Ext.app | apply Ext.two)); done)); exact hn; exact u8V_len; exact rfl; (intro w1 hw1; exact hp.chg hw1.chg (Off.nil _)); (focus (rw [fl_u8]; exact u8s_one xs)); omega; intro ov1 hov1 hsome)) | (apply R.pure; exact rfl; first | (apply Ok1.move; exact rfl) | (apply Ok1.assign; exact rfl)) | (apply R.buildSlice; (iterate 12 exact rfl); intro)) | (apply R.is0; first | fail) | (apply R.isG; first | (apply R.guard_run; exact rfl; exact rfl) | (apply R.guard_not; (iterate 3 exact rfl)) | (apply R.guard_not0; exact rfl; exact rfl) | (apply R.guard_un; (iterate 3 exact rfl)) | (apply R.guard_un0; exact rfl; exact rfl) | (apply R.guard rfl rfl ?_ (fun h => ⟨rfl, ?_⟩) <;> try intro)) | apply R.nil | (apply T.is; first | apply T.seq | apply T.region | apply T.block | apply T.scope | apply T.label | apply T.skip | apply T.exit | apply T.ret | (apply T.cond_t; exact rfl) | (apply T.cond_f; exact rfl) | (apply T.cond_h; exact rfl; assumption) | (apply T.cond_n; exact rfl; assumption) | (apply T.cond rfl <;> intro)) | apply Rnd.step)
    rw [Nat.zero_add, List.nil_append, fl_u8] at hov1
    rw [Nat.zero_add, List.nil_append, fl_u8]
    repeat' (first | (apply R.is1; first | (apply R.isBin; first | (apply R.pure; exact rfl; first | (apply Ok1.eql_t; exact rfl; exact rfl; omega) | (apply Ok1.eql_f; exact rfl; exact rfl; omega) | (apply Ok1.eqlP; (iterate 5 exact rfl)) | (apply Ok1.eqlM; (iterate 5 exact rfl)) | (apply Ok1.eqlS; (iterate 5 exact rfl))) | (apply R.eql rfl rfl rfl <;> intro) | (apply R.eqlF; (iterate 8 exact rfl); all_goals intro)) | (apply R.pure; exact rfl; first | (apply Ok1.move; exact rfl) | (apply Ok1.assign; exact rfl)) | (apply R.buildSlice; (iterate 12 exact rfl); intro)) | (apply R.is0; first | fail) | (apply R.isG; first | (apply R.guard_run; exact rfl; exact rfl) | (apply R.guard_not; (iterate 3 exact rfl)) | (apply R.guard_not0; exact rfl; exact rfl) | (apply R.guard_un; (iterate 3 exact rfl)) | (apply R.guard_un0; exact rfl; exact rfl) | (apply R.guard rfl rfl ?_ (fun h => ⟨rfl, ?_⟩) <;> try intro)) | apply R.nil | (apply T.is; first | apply T.seq | apply T.region | apply T.block | apply T.scope | apply T.label | apply T.skip | apply T.exit | apply T.ret | (apply T.cond_t; exact rfl) | (apply T.cond_f; exact rfl) | (apply T.cond_h; exact rfl; assumption) | (apply T.cond_n; exact rfl; assumption) | (apply T.cond rfl <;> intro)) | apply Rnd.step)
    (apply RetOk.t; exact rfl)
    refine ⟨_, ?_, ov1, hov1, by rw [hsome rfl]; rfl, rfl, rfl⟩
    (focus ((repeat' (first | exact Keep.nil _ | exact Ext.one _ _ | exact Ext.here _ _ | exact Ext.all _ | apply Keep.cons | apply Keep.app | apply Keep.last | apply Ext.cons | apply Ext.app)); done))
theorem grow_ok (n : Nat) (hbig : n ≤ 1000000000) (w : World) : CallM Tryz.prog 81 [.slice none 0 0, .int .i64 n] [] w fun v L => ∃ ov, OvOk 1 ov 0 [] ∧ v = slV ov 0 ∧ L = blkL 5 ov [] := by
  refine enterK (tb := tb) Tryz.func81 rfl Tryz.ntmps81 rfl ?_
  rcases Nat.eq_zero_or_pos n with h0 | h0
  · subst h0
    repeat' (first | (apply R.is1; first | (apply R.isBin; first | (apply R.pure; exact rfl; first | (apply Ok1.sub64; exact rfl; exact rfl; omega; omega) | (apply Ok1.lss_t; exact rfl; exact rfl; omega) | (apply Ok1.lss_f; exact rfl; exact rfl; omega) | (apply Ok1.gtr_t; exact rfl; exact rfl; omega) | (apply Ok1.gtr_f; exact rfl; exact rfl; omega)) | (apply R.lss rfl rfl rfl <;> intro) | (apply R.gtr rfl rfl rfl <;> intro)) | (apply R.isCall; first | (apply R.pure; exact rfl; first | (apply Ok1.lenS; (iterate 3 exact rfl)) | (apply Ok1.lenStr; (iterate 3 exact rfl)) | (apply Ok1.lenMm; (iterate 3 exact rfl); (focus ((repeat' (first | exact At.head | apply At.tail | apply At.right)); done))) | (apply Ok1.lenM_nil; (iterate 3 exact rfl)))) | (apply R.pure; exact rfl; first | (apply Ok1.capS; (iterate 3 exact rfl)) | (apply Ok1.move; exact rfl) | (apply Ok1.assign; exact rfl) | (apply Ok1.slice0; (iterate 7 exact rfl); (refine ⟨?_, ?_, ?_⟩ <;> omega); (first | exact Or.inl rfl | exact Or.inr (fun e => by cases e))) | (apply Ok1.sliceTo; (iterate 6 exact rfl); omega; omega; omega; (first | exact Or.inl rfl | exact Or.inr (fun e => by cases e))) | (apply Ok1.sliceFrom; (iterate 7 exact rfl); omega; omega; omega; omega; omega; (first | exact Or.inl rfl | exact Or.inr (fun e => by cases e))))) | (apply R.is0; first | fail) | (apply R.isG; first | (apply R.guard_run; exact rfl; exact rfl) | (apply R.guard_not; (iterate 3 exact rfl)) | (apply R.guard_not0; exact rfl; exact rfl) | (apply R.guard_un; (iterate 3 exact rfl)) | (apply R.guard_un0; exact rfl; exact rfl) | (apply R.guard rfl rfl ?_ (fun h => ⟨rfl, ?_⟩) <;> try intro)) | apply R.nil | (apply T.is; first | apply T.seq | apply T.region | apply T.block | apply T.scope | apply T.label | apply T.skip | apply T.exit | apply T.ret | (apply T.cond_t; exact rfl) | (apply T.cond_f; exact rfl) | (apply T.cond_h; exact rfl; assumption) | (apply T.cond_n; exact rfl; assumption) | (apply T.cond rfl <;> intro)) | apply Rnd.step)
    (apply RetOk.t; exact rfl)
    exact ⟨_, by (focus ((repeat' (first | exact Keep.nil _ | exact Ext.one _ _ | exact Ext.here _ _ | exact Ext.all _ | apply Keep.cons | apply Keep.app | apply Keep.last | apply Ext.cons | apply Ext.app)); done)), none, OvOk.start 1, rfl, rfl⟩
  · repeat' (first | (apply R.is1; first | (apply R.isBin; first | (apply R.pure; exact rfl; first | (apply Ok1.sub64; exact rfl; exact rfl; omega; omega) | (apply Ok1.lss_t; exact rfl; exact rfl; omega) | (apply Ok1.lss_f; exact rfl; exact rfl; omega) | (apply Ok1.gtr_t; exact rfl; exact rfl; omega) | (apply Ok1.gtr_f; exact rfl; exact rfl; omega)) | (apply R.lss rfl rfl rfl <;> intro) | (apply R.gtr rfl rfl rfl <;> intro)) | (apply R.isCall; first | (apply R.growMk (n := n); (iterate 12 exact rfl); omega; omega; intro b0 j0) | (apply R.pure; exact rfl; first | (apply Ok1.lenS; (iterate 3 exact rfl)) | (apply Ok1.lenStr; (iterate 3 exact rfl)) | (apply Ok1.lenMm; (iterate 3 exact rfl); (focus ((repeat' (first | exact At.head | apply At.tail | apply At.right)); done))) | (apply Ok1.lenM_nil; (iterate 3 exact rfl)))) | (apply R.pure; exact rfl; first | (apply Ok1.capS; (iterate 3 exact rfl)) | (apply Ok1.move; exact rfl) | (apply Ok1.assign; exact rfl) | (apply Ok1.slice0; (iterate 7 exact rfl); (refine ⟨?_, ?_, ?_⟩ <;> omega); (first | exact Or.inl rfl | exact Or.inr (fun e => by cases e))) | (apply Ok1.sliceTo; (iterate 6 exact rfl); omega; omega; omega; (first | exact Or.inl rfl | exact Or.inr (fun e => by cases e))) | (apply Ok1.sliceFrom; (iterate 7 exact rfl); omega; omega; omega; omega; omega; (first | exact Or.inl rfl | exact Or.inr (fun e => by cases e))))) | (apply R.is0; first | fail) | (apply R.isG; first | (apply R.guard_run; exact rfl; exact rfl) | (apply R.guard_not; (iterate 3 exact rfl)) | (apply R.guard_not0; exact rfl; exact rfl) | (apply R.guard_un; (iterate 3 exact rfl)) | (apply R.guard_un0; exact rfl; exact rfl) | (apply R.guard rfl rfl ?_ (fun h => ⟨rfl, ?_⟩) <;> try intro)) | apply R.nil | (apply T.is; first | apply T.seq | apply T.region | apply T.block | apply T.scope | apply T.label | apply T.skip | apply T.exit | apply T.ret | (apply T.cond_t; exact rfl) | (apply T.cond_f; exact rfl) | (apply T.cond_h; exact rfl; assumption) | (apply T.cond_n; exact rfl; assumption) | (apply T.cond rfl <;> intro)) | apply Rnd.step)
    (apply RetOk.t; exact rfl)
    refine ⟨_, ?_, some (b0, n + j0, List.replicate (n + j0) (.int .u8 0)), ⟨rfl, by simp⟩, by simp [slV]; omega, rfl⟩
    simp only [blkL, List.nil_append]
    (focus ((repeat' (first | exact Keep.nil _ | exact Ext.one _ _ | exact Ext.here _ _ | exact Ext.all _ | apply Keep.cons | apply Keep.app | apply Keep.last | apply Ext.cons | apply Ext.app)); done))
/-- A part: a slice of bytes. -/
structure Pt where
  p : Option Addr
  cap : Nat
  xs : List Int
deriving Inhabited
def Pt.v (x : Pt) : List Value := [.slice x.p x.xs.length x.cap]
theorem Pt.v_len (x : Pt) : x.v.length = 1 := rfl
def cat (ps : List Pt) : List Int := ps.flatMap (·.xs)
theorem cat_nil : cat [] = [] := rfl
theorem cat_snoc {ps : List Pt} {i : Nat} {x : Pt} (h : ps[i]? = some x) : cat (ps.take (i + 1)) = cat (ps.take i) ++ x.xs := by
  unfold cat
  rw [List.take_add_one, h, List.flatMap_append]
  simp
theorem cat_le (ps : List Pt) (i : Nat) : (cat (ps.take i)).length ≤ (cat ps).length := by
  conv => rhs; rw [← List.take_append_drop i ps]
  unfold cat
  rw [List.flatMap_append, List.length_append]
  omega
theorem concat_ok (p : Option Addr) (n cap : Nat) (ps : List Pt) (hn : n = ps.length) (hbig : (cat ps).length ≤ 1000000000) (hbig2 : n ≤ 1000000000) (w : World) (hp : RdSl w p Pt.v ps) (hall : ∀ x ∈ ps, RdSl w x.p u8V x.xs) :
    CallM Tryz.prog 44 [.slice p n cap] [] w fun v L => ∃ ov, OvOk 1 ov (cat ps).length (u8s (cat ps)) ∧ v = slV ov (cat ps).length ∧ L = blkL 5 ov (u8s (cat ps)) := by
  subst hn
  refine enterK (tb := tb) Tryz.func44 rfl Tryz.ntmps44 rfl ?_
  repeat' (first | (apply R.is1; first | (apply R.isBin; first | (apply R.pure; exact rfl; first | (apply Ok1.add64; exact rfl; exact rfl; omega; omega) | (apply Ok1.lss_t; exact rfl; exact rfl; omega) | (apply Ok1.lss_f; exact rfl; exact rfl; omega)) | (apply R.lss rfl rfl rfl <;> intro)) | (apply R.isCall; first | (apply R.pure; exact rfl; first | (apply Ok1.lenS; (iterate 3 exact rfl)) | (apply Ok1.lenStr; (iterate 3 exact rfl)) | (apply Ok1.lenMm; (iterate 3 exact rfl); (focus ((repeat' (first | exact At.head | apply At.tail | apply At.right)); done))) | (apply Ok1.lenM_nil; (iterate 3 exact rfl)))) | (apply R.pure; exact rfl; first | (apply Ok1.move; exact rfl) | (apply Ok1.load; exact rfl; first | (apply Ld.own1; exact rfl; exact rfl; (focus ((repeat' (first | exact At.head | apply At.tail | apply At.right)); done)); exact rfl) | (apply Ld.ownk; exact rfl; exact rfl; (focus ((repeat' (first | exact At.head | apply At.tail | apply At.right)); done)); exact rfl) | (apply Ld.old1; exact rfl; exact rfl; assumption; (first | exact List.not_mem_nil | assumption)) | (apply Ld.blk1; exact rfl; exact rfl; assumption; (first | exact List.not_mem_nil | assumption); exact rfl) | (apply Ld.blkk; exact rfl; exact rfl; assumption; (first | exact List.not_mem_nil | assumption); exact rfl)) | (apply Ok1.assign; exact rfl) | (apply Ok1.indexAddr; (iterate 5 exact rfl); omega; omega) | (apply Ok1.indexAddrA; (iterate 5 exact rfl); omega; omega))) | (apply R.is0; first | fail) | (apply R.isG; first | (apply R.guard_run; exact rfl; exact rfl) | (apply R.guard_not; (iterate 3 exact rfl)) | (apply R.guard_not0; exact rfl; exact rfl) | (apply R.guard_un; (iterate 3 exact rfl)) | (apply R.guard_un0; exact rfl; exact rfl) | (apply R.guard rfl rfl ?_ (fun h => ⟨rfl, ?_⟩) <;> try intro)) | apply R.nil | (apply T.is; first | apply T.seq | apply T.region | apply T.block | apply T.scope | apply T.label | apply T.skip | apply T.exit | apply T.ret | (apply T.cond_t; exact rfl) | (apply T.cond_f; exact rfl) | (apply T.cond_h; exact rfl; assumption) | (apply T.cond_n; exact rfl; assumption) | (apply T.cond rfl <;> intro)) | apply Rnd.step)
  apply T.loopK (α := Nat) (I := fun i => i ≤ ps.length) (σi := fun i => [(0, .slice p ps.length cap), (3, .int .i64 (cat (ps.take i)).length), (9, .slice p ps.length cap), (10, .int .i64 ps.length), (11, .int .i64 i)]) (Li := fun _ => []) (μ := fun i => ps.length - i) (i0 := 0)
  · exact Nat.zero_le _
  · exact ⟨rfl, rfl, rfl, rfl, rfl, trivial⟩
  · (focus ((repeat' (first | exact Keep.nil _ | exact Ext.one _ _ | exact Ext.here _ _ | exact Ext.all _ | apply Keep.cons | apply Keep.app | apply Keep.last | apply Ext.cons | apply Ext.app)); done))
  · intro i hi
    have hle := cat_le ps i
    rcases Nat.lt_or_ge i ps.length with hlt | hge
    · obtain ⟨x, hx⟩ : ∃ x, ps[i]? = some x := ⟨_, List.getElem?_eq_getElem (by omega)⟩
      obtain ⟨b, o, hpe, H⟩ := hp.at hx
      replace H := H 1 Pt.v_len
      have hs := cat_snoc hx
      have hl := congrArg List.length hs
      rw [List.length_append] at hl
      have hle2 := cat_le ps (i + 1)
      repeat' (first | (apply R.is1; first | (apply R.isBin; first | (apply R.pure; exact rfl; first | (apply Ok1.add64; exact rfl; exact rfl; omega; omega) | (apply Ok1.lss_t; exact rfl; exact rfl; omega) | (apply Ok1.lss_f; exact rfl; exact rfl; omega)) | (apply R.lss rfl rfl rfl <;> intro)) | (apply R.isCall; first | (apply R.pure; exact rfl; first | (apply Ok1.lenS; (iterate 3 exact rfl)) | (apply Ok1.lenStr; (iterate 3 exact rfl)) | (apply Ok1.lenMm; (iterate 3 exact rfl); (focus ((repeat' (first | exact At.head | apply At.tail | apply At.right)); done))) | (apply Ok1.lenM_nil; (iterate 3 exact rfl)))) | (apply R.pure; exact rfl; first | (apply Ok1.indexAddrP; (iterate 4 exact rfl); exact hpe; exact rfl; omega; omega) | (apply Ok1.load; exact rfl; apply Ld.row0 H; exact rfl; exact List.not_mem_nil; (iterate 3 exact rfl)) | (apply Ok1.move; exact rfl) | (apply Ok1.load; exact rfl; first | (apply Ld.own1; exact rfl; exact rfl; (focus ((repeat' (first | exact At.head | apply At.tail | apply At.right)); done)); exact rfl) | (apply Ld.ownk; exact rfl; exact rfl; (focus ((repeat' (first | exact At.head | apply At.tail | apply At.right)); done)); exact rfl) | (apply Ld.old1; exact rfl; exact rfl; assumption; (first | exact List.not_mem_nil | assumption)) | (apply Ld.blk1; exact rfl; exact rfl; assumption; (first | exact List.not_mem_nil | assumption); exact rfl) | (apply Ld.blkk; exact rfl; exact rfl; assumption; (first | exact List.not_mem_nil | assumption); exact rfl)) | (apply Ok1.assign; exact rfl) | (apply Ok1.indexAddr; (iterate 5 exact rfl); omega; omega) | (apply Ok1.indexAddrA; (iterate 5 exact rfl); omega; omega))) | (apply R.is0; first | fail) | (apply R.isG; first | (apply R.guard_run; exact rfl; exact rfl) | (apply R.guard_not; (iterate 3 exact rfl)) | (apply R.guard_not0; exact rfl; exact rfl) | (apply R.guard_un; (iterate 3 exact rfl)) | (apply R.guard_un0; exact rfl; exact rfl) | (apply R.guard rfl rfl ?_ (fun h => ⟨rfl, ?_⟩) <;> try intro)) | apply R.nil | (apply T.is; first | apply T.seq | apply T.region | apply T.block | apply T.scope | apply T.label | apply T.skip | apply T.exit | apply T.ret | (apply T.cond_t; exact rfl) | (apply T.cond_f; exact rfl) | (apply T.cond_h; exact rfl; assumption) | (apply T.cond_n; exact rfl; assumption) | (apply T.cond rfl <;> intro)) | apply Rnd.step)
      refine ⟨i + 1, by omega, by omega, ⟨rfl, ?_, rfl, rfl, rfl, trivial⟩, by (focus ((repeat' (first | exact Keep.nil _ | exact Ext.one _ _ | exact Ext.here _ _ | exact Ext.all _ | apply Keep.cons | apply Keep.app | apply Keep.last | apply Ext.cons | apply Ext.app)); done))⟩
      rw [hl]
      rfl
    · have him : i = ps.length := by omega
      subst him
      rw [List.take_length]
      have hgr := fun w1 => grow_ok (cat ps).length hbig w1
      repeat' (first | (apply R.is1; first | (apply R.isBin; first | (apply R.pure; exact rfl; first | (apply Ok1.add64; exact rfl; exact rfl; omega; omega) | (apply Ok1.lss_t; exact rfl; exact rfl; omega) | (apply Ok1.lss_f; exact rfl; exact rfl; omega)) | (apply R.lss rfl rfl rfl <;> intro)) | (apply R.isCall; first | (apply R.callE; (iterate 3 exact rfl); exact Ext.none _; intro w1 hw1; exact hgr w1; rintro v Lo ⟨ov0, hov0, rfl, rfl⟩) | (apply R.pure; exact rfl; first | (apply Ok1.lenS; (iterate 3 exact rfl)) | (apply Ok1.lenStr; (iterate 3 exact rfl)) | (apply Ok1.lenMm; (iterate 3 exact rfl); (focus ((repeat' (first | exact At.head | apply At.tail | apply At.right)); done))) | (apply Ok1.lenM_nil; (iterate 3 exact rfl)))) | (apply R.pure; exact rfl; first | (apply Ok1.move; exact rfl) | (apply Ok1.load; exact rfl; first | (apply Ld.own1; exact rfl; exact rfl; (focus ((repeat' (first | exact At.head | apply At.tail | apply At.right)); done)); exact rfl) | (apply Ld.ownk; exact rfl; exact rfl; (focus ((repeat' (first | exact At.head | apply At.tail | apply At.right)); done)); exact rfl) | (apply Ld.old1; exact rfl; exact rfl; assumption; (first | exact List.not_mem_nil | assumption)) | (apply Ld.blk1; exact rfl; exact rfl; assumption; (first | exact List.not_mem_nil | assumption); exact rfl) | (apply Ld.blkk; exact rfl; exact rfl; assumption; (first | exact List.not_mem_nil | assumption); exact rfl)) | (apply Ok1.assign; exact rfl) | (apply Ok1.indexAddr; (iterate 5 exact rfl); omega; omega) | (apply Ok1.indexAddrA; (iterate 5 exact rfl); omega; omega))) | (apply R.is0; first | fail) | (apply R.isG; first | (apply R.guard_run; exact rfl; exact rfl) | (apply R.guard_not; (iterate 3 exact rfl)) | (apply R.guard_not0; exact rfl; exact rfl) | (apply R.guard_un; (iterate 3 exact rfl)) | (apply R.guard_un0; exact rfl; exact rfl) | (apply R.guard rfl rfl ?_ (fun h => ⟨rfl, ?_⟩) <;> try intro)) | apply R.nil | (apply T.is; first | apply T.seq | apply T.region | apply T.block | apply T.scope | apply T.label | apply T.skip | apply T.exit | apply T.ret | (apply T.cond_t; exact rfl) | (apply T.cond_f; exact rfl) | (apply T.cond_h; exact rfl; assumption) | (apply T.cond_n; exact rfl; assumption) | (apply T.cond rfl <;> intro)) | apply Rnd.step)
      apply T.loopK (α := Nat × Ov) (I := fun y => y.1 ≤ ps.length ∧ OvOk 1 y.2 (cat (ps.take y.1)).length (u8s (cat (ps.take y.1)))) (σi := fun y => [(6, slV y.2 (cat (ps.take y.1)).length), (25, .slice p ps.length cap), (26, .int .i64 ps.length), (27, .int .i64 y.1)]) (Li := fun y => blkL 5 y.2 (u8s (cat (ps.take y.1)))) (μ := fun y => ps.length - y.1) (i0 := (0, ov0))
      · exact ⟨Nat.zero_le _, hov0⟩
      · exact ⟨rfl, rfl, rfl, rfl, trivial⟩
      · simp only [List.take_zero, cat_nil]
        change Keep _ (blkL 5 ov0 [])
        (focus ((repeat' (first | exact Keep.nil _ | exact Ext.one _ _ | exact Ext.here _ _ | exact Ext.all _ | apply Keep.cons | apply Keep.app | apply Keep.last | apply Ext.cons | apply Ext.app)); done))
      · rintro ⟨i, ov⟩ ⟨hi, hov⟩
        simp only at hi hov ⊢
        rcases Nat.lt_or_ge i ps.length with hlt | hge
        · obtain ⟨x, hx⟩ : ∃ x, ps[i]? = some x := ⟨_, List.getElem?_eq_getElem (by omega)⟩
          obtain ⟨b, o, hpe, H⟩ := hp.at hx
          replace H := H 1 Pt.v_len
          have hs := cat_snoc hx
          have hl := congrArg List.length hs
          rw [List.length_append] at hl
          have hle2 := cat_le ps (i + 1)
          have hrd := hall x (List.mem_of_getElem? hx)
          repeat' (first | (apply R.is1; first | (apply R.isBin; first | (apply R.pure; exact rfl; first | (apply Ok1.add64; exact rfl; exact rfl; omega; omega) | (apply Ok1.lss_t; exact rfl; exact rfl; omega) | (apply Ok1.lss_f; exact rfl; exact rfl; omega)) | (apply R.lss rfl rfl rfl <;> intro)) | (apply R.isCall; first | (apply R.appendRd (xs := x.xs) (v := u8V) (sz := 1) (ov := ov) (n := (cat (ps.take i)).length) (old := u8s (cat (ps.take i))); (iterate 12 exact rfl); exact hov; (focus ((repeat' (first | exact Ext.none _ | exact Ext.one _ _ | exact Ext.here _ _ | exact Ext.all _ | apply Ext.cons | apply Ext.app | apply Ext.two)); done)); exact rfl; exact u8V_len; exact rfl; (intro w1 hw1; exact hrd.chg hw1.chg (Off.nil _)); (focus (rw [fl_u8]; exact u8s_one x.xs)); omega; intro ov1 hov1 hsome) | (apply R.pure; exact rfl; first | (apply Ok1.lenS; (iterate 3 exact rfl)) | (apply Ok1.lenStr; (iterate 3 exact rfl)) | (apply Ok1.lenMm; (iterate 3 exact rfl); (focus ((repeat' (first | exact At.head | apply At.tail | apply At.right)); done))) | (apply Ok1.lenM_nil; (iterate 3 exact rfl)))) | (apply R.pure; exact rfl; first | (apply Ok1.indexAddrP; (iterate 4 exact rfl); exact hpe; exact rfl; omega; omega) | (apply Ok1.load; exact rfl; apply Ld.row0 H; exact rfl; exact List.not_mem_nil; (iterate 3 exact rfl)) | (apply Ok1.move; exact rfl) | (apply Ok1.load; exact rfl; first | (apply Ld.own1; exact rfl; exact rfl; (focus ((repeat' (first | exact At.head | apply At.tail | apply At.right)); done)); exact rfl) | (apply Ld.ownk; exact rfl; exact rfl; (focus ((repeat' (first | exact At.head | apply At.tail | apply At.right)); done)); exact rfl) | (apply Ld.old1; exact rfl; exact rfl; assumption; (first | exact List.not_mem_nil | assumption)) | (apply Ld.blk1; exact rfl; exact rfl; assumption; (first | exact List.not_mem_nil | assumption); exact rfl) | (apply Ld.blkk; exact rfl; exact rfl; assumption; (first | exact List.not_mem_nil | assumption); exact rfl)) | (apply Ok1.assign; exact rfl) | (apply Ok1.indexAddr; (iterate 5 exact rfl); omega; omega) | (apply Ok1.indexAddrA; (iterate 5 exact rfl); omega; omega))) | (apply R.is0; first | fail) | (apply R.isG; first | (apply R.guard_run; exact rfl; exact rfl) | (apply R.guard_not; (iterate 3 exact rfl)) | (apply R.guard_not0; exact rfl; exact rfl) | (apply R.guard_un; (iterate 3 exact rfl)) | (apply R.guard_un0; exact rfl; exact rfl) | (apply R.guard rfl rfl ?_ (fun h => ⟨rfl, ?_⟩) <;> try intro)) | apply R.nil | (apply T.is; first | apply T.seq | apply T.region | apply T.block | apply T.scope | apply T.label | apply T.skip | apply T.exit | apply T.ret | (apply T.cond_t; exact rfl) | (apply T.cond_f; exact rfl) | (apply T.cond_h; exact rfl; assumption) | (apply T.cond_n; exact rfl; assumption) | (apply T.cond rfl <;> intro)) | apply Rnd.step)
          rw [fl_u8, ← u8s_app, ← hs, ← hl] at hov1
          rw [fl_u8, ← u8s_app, ← hs, ← hl]
          repeat' (first | (apply R.is1; first | (apply R.isBin; first | (apply R.pure; exact rfl; first | (apply Ok1.add64; exact rfl; exact rfl; omega; omega) | (apply Ok1.lss_t; exact rfl; exact rfl; omega) | (apply Ok1.lss_f; exact rfl; exact rfl; omega)) | (apply R.lss rfl rfl rfl <;> intro)) | (apply R.isCall; first | (apply R.pure; exact rfl; first | (apply Ok1.lenS; (iterate 3 exact rfl)) | (apply Ok1.lenStr; (iterate 3 exact rfl)) | (apply Ok1.lenMm; (iterate 3 exact rfl); (focus ((repeat' (first | exact At.head | apply At.tail | apply At.right)); done))) | (apply Ok1.lenM_nil; (iterate 3 exact rfl)))) | (apply R.pure; exact rfl; first | (apply Ok1.move; exact rfl) | (apply Ok1.load; exact rfl; first | (apply Ld.own1; exact rfl; exact rfl; (focus ((repeat' (first | exact At.head | apply At.tail | apply At.right)); done)); exact rfl) | (apply Ld.ownk; exact rfl; exact rfl; (focus ((repeat' (first | exact At.head | apply At.tail | apply At.right)); done)); exact rfl) | (apply Ld.old1; exact rfl; exact rfl; assumption; (first | exact List.not_mem_nil | assumption)) | (apply Ld.blk1; exact rfl; exact rfl; assumption; (first | exact List.not_mem_nil | assumption); exact rfl) | (apply Ld.blkk; exact rfl; exact rfl; assumption; (first | exact List.not_mem_nil | assumption); exact rfl)) | (apply Ok1.assign; exact rfl) | (apply Ok1.indexAddr; (iterate 5 exact rfl); omega; omega) | (apply Ok1.indexAddrA; (iterate 5 exact rfl); omega; omega))) | (apply R.is0; first | fail) | (apply R.isG; first | (apply R.guard_run; exact rfl; exact rfl) | (apply R.guard_not; (iterate 3 exact rfl)) | (apply R.guard_not0; exact rfl; exact rfl) | (apply R.guard_un; (iterate 3 exact rfl)) | (apply R.guard_un0; exact rfl; exact rfl) | (apply R.guard rfl rfl ?_ (fun h => ⟨rfl, ?_⟩) <;> try intro)) | apply R.nil | (apply T.is; first | apply T.seq | apply T.region | apply T.block | apply T.scope | apply T.label | apply T.skip | apply T.exit | apply T.ret | (apply T.cond_t; exact rfl) | (apply T.cond_f; exact rfl) | (apply T.cond_h; exact rfl; assumption) | (apply T.cond_n; exact rfl; assumption) | (apply T.cond rfl <;> intro)) | apply Rnd.step)
          exact ⟨(i + 1, ov1), ⟨by simp only; omega, hov1⟩, by simp only; omega, ⟨rfl, rfl, rfl, rfl, trivial⟩, by (focus ((repeat' (first | exact Keep.nil _ | exact Ext.one _ _ | exact Ext.here _ _ | exact Ext.all _ | apply Keep.cons | apply Keep.app | apply Keep.last | apply Ext.cons | apply Ext.app)); done))⟩
        · have him : i = ps.length := by omega
          subst him
          rw [List.take_length] at hov ⊢
          repeat' (first | (apply R.is1; first | (apply R.isBin; first | (apply R.pure; exact rfl; first | (apply Ok1.add64; exact rfl; exact rfl; omega; omega) | (apply Ok1.lss_t; exact rfl; exact rfl; omega) | (apply Ok1.lss_f; exact rfl; exact rfl; omega)) | (apply R.lss rfl rfl rfl <;> intro)) | (apply R.isCall; first | (apply R.pure; exact rfl; first | (apply Ok1.lenS; (iterate 3 exact rfl)) | (apply Ok1.lenStr; (iterate 3 exact rfl)) | (apply Ok1.lenMm; (iterate 3 exact rfl); (focus ((repeat' (first | exact At.head | apply At.tail | apply At.right)); done))) | (apply Ok1.lenM_nil; (iterate 3 exact rfl)))) | (apply R.pure; exact rfl; first | (apply Ok1.move; exact rfl) | (apply Ok1.load; exact rfl; first | (apply Ld.own1; exact rfl; exact rfl; (focus ((repeat' (first | exact At.head | apply At.tail | apply At.right)); done)); exact rfl) | (apply Ld.ownk; exact rfl; exact rfl; (focus ((repeat' (first | exact At.head | apply At.tail | apply At.right)); done)); exact rfl) | (apply Ld.old1; exact rfl; exact rfl; assumption; (first | exact List.not_mem_nil | assumption)) | (apply Ld.blk1; exact rfl; exact rfl; assumption; (first | exact List.not_mem_nil | assumption); exact rfl) | (apply Ld.blkk; exact rfl; exact rfl; assumption; (first | exact List.not_mem_nil | assumption); exact rfl)) | (apply Ok1.assign; exact rfl) | (apply Ok1.indexAddr; (iterate 5 exact rfl); omega; omega) | (apply Ok1.indexAddrA; (iterate 5 exact rfl); omega; omega))) | (apply R.is0; first | fail) | (apply R.isG; first | (apply R.guard_run; exact rfl; exact rfl) | (apply R.guard_not; (iterate 3 exact rfl)) | (apply R.guard_not0; exact rfl; exact rfl) | (apply R.guard_un; (iterate 3 exact rfl)) | (apply R.guard_un0; exact rfl; exact rfl) | (apply R.guard rfl rfl ?_ (fun h => ⟨rfl, ?_⟩) <;> try intro)) | apply R.nil | (apply T.is; first | apply T.seq | apply T.region | apply T.block | apply T.scope | apply T.label | apply T.skip | apply T.exit | apply T.ret | (apply T.cond_t; exact rfl) | (apply T.cond_f; exact rfl) | (apply T.cond_h; exact rfl; assumption) | (apply T.cond_n; exact rfl; assumption) | (apply T.cond rfl <;> intro)) | apply Rnd.step)
          (apply RetOk.t; exact rfl)
          exact ⟨_, by (focus ((repeat' (first | exact Keep.nil _ | exact Ext.one _ _ | exact Ext.here _ _ | exact Ext.all _ | apply Keep.cons | apply Keep.app | apply Keep.last | apply Ext.cons | apply Ext.app)); done)), ov, hov, rfl, rfl⟩
end Go.Proofs.YtplhnkmmhndkjaaGreat
set_option linter.unusedSimpArgs false
set_option linter.unusedVariables false
namespace Go.Proofs.YtplhnkmmhndkjaaGreat
open Go.RowKit Go.Shelf
set_option maxRecDepth 100000
/-- A running digest: on, its words; what is left of it lies in a slice of one's own, from k on. -/
structure RS where
  on : Bool
  s : H8
  ov : Ov
  xs : List Int
  p : Option Addr
  cap : Nat
  k : Nat
  lf : List Int
  n : Nat
structure RuI (st : RS) (b : List Int) : Prop where
  ov : OvOk 1 st.ov st.xs.length (u8s st.xs)
  sfx : Sfx (ovp st.ov) st.p st.xs.length st.k
  lf : st.lf = st.xs.drop st.k
  cap : st.lf.length ≤ st.cap
  n : st.n = b.length
  left : st.lf = leftI b
  byt : Byt b
  words : st.on = true → st.s = wordsI b
  off : st.on = false → b = []
theorem CallM.imp {P : Program} {f : FuncId} {vs : List Value} {L : Lst} {w : World} {R R' : Value → Lst → Prop} (h : CallM P f vs L w R) (hr : ∀ v L, R v L → R' v L) : CallM P f vs L w R' :=
  ⟨fun hw => (h.run hw).mono fun e w' ⟨v, L', h1, h2, h3⟩ => ⟨v, L', h1, hr _ _ h2, h3⟩⟩
end Go.Proofs.YtplhnkmmhndkjaaGreat
set_option linter.unusedSimpArgs false
set_option linter.unusedVariables false
namespace Go.Proofs.YtplhnkmmhndkjaaGreat
open Go.RowKit Go.Shelf
set_option maxRecDepth 100000
theorem rdown {ov : Ov} {xs : List Int} {e : Nat} (hov : OvOk 1 ov xs.length (u8s xs)) {w0 w : World} {S : List Nat} {L : Lst} (hw : Hp w0 S L w) (hin : ∀ x ∈ blkL e ov (u8s xs), x ∈ L) : RdSl w (ovp ov) u8V xs := by
  rw [← fl_u8] at hov hin
  exact RdSl.own' hw hin hov u8V_len
theorem RuI.rd {st : RS} {b : List Int} (hI : RuI st b) {w0 w : World} {S : List Nat} {L : Lst} (hw : Hp w0 S L w) (hin : ∀ x ∈ blkL 5 st.ov (u8s st.xs), x ∈ L) : RdSl w st.p u8V st.lf := by
  rw [hI.lf]
  exact hI.sfx.rd _ _ rfl (rdown hI.ov hw hin)
end Go.Proofs.YtplhnkmmhndkjaaGreat
set_option linter.unusedSimpArgs false
set_option linter.unusedVariables false
set_option linter.unusedSectionVars false
namespace Go.Proofs.YtplhnkmmhndkjaaGreat
open Go.RowKit Go.Shelf
theorem Hp.new {w0 w w' : World} {S : List Nat} {L : Lst} {o : Obj} (h : Hp w0 S L w) (hc : Chg [] w w') (ho : w'.heap[w.heap.size]? = some o) : Hp w0 S ((w.heap.size, o) :: L) w' := by
  have h1 := h.step hc
  refine ⟨h1.chg, ?_, ?_, ?_⟩
  · intro b o' hm
    rcases List.mem_cons.1 hm with e | hm
    · cases e; exact ho
    · exact h1.get b o' hm
  · simp only [List.map_cons, List.nodup_cons]
    refine ⟨fun hm => ?_, h.nod⟩
    obtain ⟨⟨b, o'⟩, hm, e⟩ := List.mem_map.1 hm
    have := h.lt hm
    simp at e; omega
  · intro b o' hm
    rcases List.mem_cons.1 hm with e | hm
    · cases e; exact .inl h.chg.size
    · exact h.own b o' hm
section
variable {X : Cx} {σ : Env} {L L' Li Lr : Lst} {d : Option Nat} {dd c : Nat} {ty : TypeId} {pos : String} {af : Array Edge} {g : Option (Nat × Bool)} {x y : Operand} {t t2 e : TypeId} {r r2 re : TRow}
variable {all : Array Oper} {rest : List Oper} {K : Env → Lst → Prop} {p : Option Addr} {n m cap i b : Nat}
/-- An array's variable, cut to a slice of all of it. -/
theorem Ok1.sliceArr {o : Nat} (ht : X.tb.row t = some r) (hk : r.k = .arr n e) (he : X.tb.row e = some re) (hx : ev σ x = some (.pointer (some ⟨b, o, none⟩))) :
    Ok1 X ⟨d, .slice t x none none none, ty, pos, af, g⟩ σ L (.slice (some ⟨b, o, none⟩) n n) := .mk fun a w ha hw => by
  have h2 := (X.tb.get ht).is
  rw [hk] at h2
  simp only [TK.is] at h2
  simp [execOp, Instr.sliceAt, run_underlying h2, ha.ev hx, Instr.sureAddr, Instr.sliceBounds, (X.tb.get he).size, Addr.add_none]
end
end Go.Proofs.YtplhnkmmhndkjaaGreat
set_option linter.unusedSimpArgs false
set_option linter.unusedVariables false
namespace Go.Proofs.YtplhnkmmhndkjaaGreat
open Go.RowKit Go.Shelf
section
variable {X : Cx} {all : Array Oper} {C L L' : Lst} {fuel fuel' : Nat} {listed listed' : Array Bool} {K : Env → Lst → Prop} {σ σ' : Env}
theorem A.weak (h : A X all C fuel listed K σ' L') (hs : Sub σ' σ) (hk : Keep L L') : A X all C fuel listed K σ L := ⟨fun a w ha hw hC => h.run a w (ha.sub hs) (hw.keep hk) hC⟩
theorem A.merge (P : Env → Lst → Prop) (fuel' : Nat) (listed' : Array Bool) (h1 : ∀ σ L, P σ L → A X all C fuel' listed' K σ L) (h2 : (∀ σ L, P σ L → A X all C fuel' listed' K σ L) → A X all C fuel listed K σ L) : A X all C fuel listed K σ L := h2 h1
/-- Those of a list, one by one. -/
def AllOf (X : Cx) (all : Array Oper) (C : Lst) (fuel : Nat) (listed : Array Bool) (K : Env → Lst → Prop) (σ : Env) (L : Lst) : List Nat → Prop
  | [] => True
  | i :: is => (∃ o, all[i]? = some o ∧ R X all [o] (fun σ' L' => SubL C L' ∧ A X all C fuel (listed.setIfInBounds i true) K σ' L') σ L) ∧ AllOf X all C fuel listed K σ L is
theorem AllOf.get : ∀ {rs : List Nat}, AllOf X all C fuel listed K σ L rs → ∀ i ∈ rs, ∃ o, all[i]? = some o ∧ R X all [o] (fun σ' L' => SubL C L' ∧ A X all C fuel (listed.setIfInBounds i true) K σ' L') σ L
  | [], _, i, hi => by cases hi
  | j :: js, h, i, hi => by
    rcases List.mem_cons.1 hi with rfl | hi
    · exact h.1
    · exact AllOf.get h.2 i hi
theorem A.multi (rs : List Nat) (hr : Region.ready .any all listed = rs) (hne : rs ≠ []) (h : AllOf X all C fuel listed K σ L rs) : A X all C (fuel + 1) listed K σ L :=
  ⟨fun a w ha hw hC => wpAnyC_all hr hne fun w' hc i hi => by
    obtain ⟨o, ho, h2⟩ := h.get i hi
    exact A.step ho h2 ha (hw.step hc) (hC.step hc)⟩
end
section
variable {X : Cx} {σ : Env} {L L' : Lst} {d : Option Nat} {dd b : Nat} {ty : TypeId} {pos : String} {af : Array Edge} {g : Option (Nat × Bool)} {x : Operand} {t e : TypeId} {r re : TRow}
variable {all : Array Oper} {rest : List Oper} {K : Env → Lst → Prop}
end
end Go.Proofs.YtplhnkmmhndkjaaGreat
