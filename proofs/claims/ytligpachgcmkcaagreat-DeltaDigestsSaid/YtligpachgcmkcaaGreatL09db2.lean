/- Texts of the proof: Eng21, Eng24, Eng26, Tab, Dg1, Dg2, Dg3, Dg4, Dg5, Dg6. -/
import Derived.Test.YtligpachgcmkcaaGreatL09db1
import Derived.Test.YtligpachgcmkcaaGreatProg
set_option linter.unusedSimpArgs false
set_option linter.unusedVariables false
set_option linter.unusedSectionVars false
namespace Go.Proofs.YtligpachgcmkcaaGreat
open Go.RowKit Go.Shelf
theorem Holds.ov {w0 w : World} {S : List Nat} {L : Lst} {e2 sz m : Nat} {ov2 : Ov} {xs : List Value} (hok : OvOk sz ov2 m xs) (hb : ∀ x ∈ blkL e2 ov2 xs, x ∈ L) (hw : Hp w0 S L w) : Holds w (slV ov2 m) xs := by
  cases ov2 with
  | none =>
    have h2 : m = 0 := hok.2
    have h1 := hok.1
    subst h2
    have : xs = [] := by cases xs; rfl; simp at h1
    subst this
    exact rfl
  | some x =>
    obtain ⟨b, j, junk⟩ := x
    have := hw.get b _ (hb _ List.mem_cons_self)
    intro i hi
    simp only [World.cell?, this, Nat.zero_add]
    simp [List.getElem?_append_left, hi]
section
variable {X : Cx} {σ : Env} {L Lr : Lst} {dd : Nat} {ty : TypeId} {pos : String} {af : Array Edge} {x y : Operand} {t t2 e : TypeId} {r r2 re : TRow}
variable {all : Array Oper} {rest : List Oper} {K : Env → Lst → Prop}
theorem append_none {P : Program} (tb : Tb P) {w : World} {ov : Ov} {n cap2 e2 : Nat} {p2 : Option Addr} (ht : tb.row t = some r) (hk : r.k = .slice e) (he : tb.row e = some re) (ht2 : tb.row t2 = some r2) (hk2 : r2.k = .slice e2) (hn : ov = none → n = 0) :
    (Builtin.append_ #[t, t2] ty #[slV ov n, .slice p2 0 cap2]).run P w = .ok (slV ov n) w := by
  have hu : P.underlying t = some (.slice e) := by have := (tb.get ht).is; rw [hk] at this; exact this
  have hu2 : P.underlying t2 = some (.slice e2) := by have := (tb.get ht2).is; rw [hk2] at this; exact this
  have hf : (Builtin.firstCells re.size 0 (.slice p2 0 cap2)).run P w = .ok #[] w := by
    cases p2 <;> simp [Builtin.firstCells, loadCells, loadCellsFrom]
  unfold Builtin.append_
  cases ov with
  | none =>
    simp [slV, run_underlying hu, run_underlying hu2, (tb.get he).size, Builtin.lenOf, hf]
  | some q =>
    obtain ⟨b, j, junk⟩ := q
    simp [slV, run_underlying hu, run_underlying hu2, (tb.get he).size, Builtin.lenOf, hf, storeCells]
/-- append(s, y...): s a slice of one's own, y one that is read. -/
theorem R.appendSl {ov ov2 : Ov} {n m e2 e3 : Nat} {old news zc : List Value} (hn : Nat.blt dd X.n = true) (ht : X.tb.row t = some r) (hk : r.k = .slice e) (he : X.tb.row e = some re) (hz : cellsE re.zero = some zc) (hzl : zc.length = re.size) (ht2 : X.tb.row t2 = some r2) (hk2 : r2.k = .slice e2) (hb1 : Nat.ble 1 re.bytes = true) (hb2 : Nat.ble re.bytes 65536 = true)
    (hx : ev σ x = some (slV ov n)) (hy : ev σ y = some (slV ov2 m)) (hok : OvOk re.size ov n old) (hok2 : OvOk re.size ov2 m news) (hp : Ext L (blkL e ov old) Lr) (hin : ∀ x ∈ blkL e3 ov2 news, x ∈ L)
    (h1 : news.all Value.oneCell' = true) (hbig : n + m ≤ 1073741824)
    (h : ∀ ov', OvOk re.size ov' (n + m) (old ++ news) → R X all rest K ((dd, slV ov' (n + m)) :: σ) (blkL e ov' (old ++ news) ++ Lr)) :
    R X all (⟨some dd, .call { callee := .builtin .append, args := #[x, y], argTypes := #[t, t2] }, ty, pos, af, none⟩ :: rest) K σ L :=
  R.value rfl rfl hn fun a w ha hw => by
    have hw2 := hw.perm hp.perm
    rcases Nat.eq_zero_or_pos m with h0 | h0
    · subst h0
      have hnews : news = [] := by have := hok2.1; cases news; rfl; simp at this
      subst hnews
      have hs2 : slV ov2 0 = .slice (ovp ov2) 0 (ovc ov2 0) := slV_eq hok2
      have hrun := append_none X.tb (w := w) (ty := ty) (n := n) (p2 := ovp ov2) (cap2 := ovc ov2 0) (ov := ov) ht hk he ht2 hk2 (fun e => by subst e; exact hok.2)
      refine ⟨slV ov n, w, blkL e ov (old ++ []) ++ Lr, ?_, by rw [List.append_nil]; exact hw2, h ov (by rw [List.append_nil]; exact hok)⟩
      simp [execOp, resolve, ha.ev hx, ha.ev hy, hs2, invoke, builtin, hrun]
    · have hlen : news.length = m * re.size := hok2.1
      have h3 := Nat.le_of_ble_eq_true hb2
      have hbig' : (2 * (n + m) + 768) * re.bytes ≤ 281474976710656 := by
        have := Nat.mul_le_mul (show 2 * (n + m) + 768 ≤ 2147484416 by omega) h3
        omega
      have hl : Builtin.lenOf (slV ov2 m) = Pure.pure m := by
        cases ov2 with
        | none => have : m = 0 := hok2.2; omega
        | some q => rfl
      obtain ⟨b', j', junk', w', g1, g2, g3⟩ := append_run X.tb (ty := ty) ht hk he hz hzl ht2 hk2 hw2 (OwnAt.mid hok) hl (Holds.ov hok2 hin hw) hlen h1 h0 hbig' (Nat.le_of_ble_eq_true hb1)
      refine ⟨slV (some (b', j', junk')) (n + m), w', _, ?_, g3, h (some (b', j', junk')) ⟨by rw [List.length_append, hok.1, hlen, Nat.add_mul], g1⟩⟩
      simp [execOp, resolve, ha.ev hx, ha.ev hy, invoke, builtin, g2]
      rfl
theorem append_none' {P : Program} (tb : Tb P) {w : World} {ov : Ov} {n e2 : Nat} {s2 : Value} (ht : tb.row t = some r) (hk : r.k = .slice e) (he : tb.row e = some re) (ht2 : tb.row t2 = some r2) (hk2 : r2.k = .slice e2) (hn : ov = none → n = 0) (hs2 : Builtin.lenOf s2 = Pure.pure 0) (hh : Holds w s2 []) :
    (Builtin.append_ #[t, t2] ty #[slV ov n, s2]).run P w = .ok (slV ov n) w := by
  have hu : P.underlying t = some (.slice e) := by have := (tb.get ht).is; rw [hk] at this; exact this
  have hu2 : P.underlying t2 = some (.slice e2) := by have := (tb.get ht2).is; rw [hk2] at this; exact this
  have hf : (Builtin.firstCells re.size 0 s2).run P w = .ok #[] w := first_run hh (by simp)
  unfold Builtin.append_
  cases ov with
  | none =>
    simp [slV, run_underlying hu, run_underlying hu2, (tb.get he).size, hs2, hf]
  | some q =>
    obtain ⟨b, j, junk⟩ := q
    simp [slV, run_underlying hu, run_underlying hu2, (tb.get he).size, hs2, hf, storeCells]
/-- append(s, y...): s a slice of one's own, y any slice of which is known what it holds. -/
theorem R.appendH {ov : Ov} {n m e2 : Nat} {old news zc : List Value} {s2 : Value} (hn : Nat.blt dd X.n = true) (ht : X.tb.row t = some r) (hk : r.k = .slice e) (he : X.tb.row e = some re) (hz : cellsE re.zero = some zc) (hzl : zc.length = re.size) (ht2 : X.tb.row t2 = some r2) (hk2 : r2.k = .slice e2) (hb1 : Nat.ble 1 re.bytes = true) (hb2 : Nat.ble re.bytes 65536 = true)
    (hx : ev σ x = some (slV ov n)) (hy : ev σ y = some s2) (hs2 : Builtin.lenOf s2 = Pure.pure m) (hok : OvOk re.size ov n old) (hp : Ext L (blkL e ov old) Lr) (hh : ∀ w, Hp X.w0 X.S L w → Holds w s2 news) (hlen : news.length = m * re.size)
    (h1 : news.all Value.oneCell' = true) (hbig : n + m ≤ 1073741824)
    (h : ∀ ov', OvOk re.size ov' (n + m) (old ++ news) → R X all rest K ((dd, slV ov' (n + m)) :: σ) (blkL e ov' (old ++ news) ++ Lr)) :
    R X all (⟨some dd, .call { callee := .builtin .append, args := #[x, y], argTypes := #[t, t2] }, ty, pos, af, none⟩ :: rest) K σ L :=
  R.value rfl rfl hn fun a w ha hw => by
    have hw2 := hw.perm hp.perm
    rcases Nat.eq_zero_or_pos m with h0 | h0
    · subst h0
      have hnews : news = [] := by cases news; rfl; simp at hlen
      subst hnews
      have hrun := append_none' X.tb (w := w) (ty := ty) (n := n) (ov := ov) ht hk he ht2 hk2 (fun e => by subst e; exact hok.2) hs2 (hh w hw)
      refine ⟨slV ov n, w, blkL e ov (old ++ []) ++ Lr, ?_, by rw [List.append_nil]; exact hw2, h ov (by rw [List.append_nil]; exact hok)⟩
      simp [execOp, resolve, ha.ev hx, ha.ev hy, invoke, builtin, hrun]
    · have h3 := Nat.le_of_ble_eq_true hb2
      have hbig' : (2 * (n + m) + 768) * re.bytes ≤ 281474976710656 := by
        have := Nat.mul_le_mul (show 2 * (n + m) + 768 ≤ 2147484416 by omega) h3
        omega
      obtain ⟨b', j', junk', w', g1, g2, g3⟩ := append_run X.tb (ty := ty) ht hk he hz hzl ht2 hk2 hw2 (OwnAt.mid hok) hs2 (hh w hw) hlen h1 h0 hbig' (Nat.le_of_ble_eq_true hb1)
      refine ⟨slV (some (b', j', junk')) (n + m), w', _, ?_, g3, h (some (b', j', junk')) ⟨by rw [List.length_append, hok.1, hlen, Nat.add_mul], g1⟩⟩
      simp [execOp, resolve, ha.ev hx, ha.ev hy, invoke, builtin, g2]
      rfl
theorem R.buildSlice0 (hn : Nat.blt dd X.n = true) (ht : X.tb.row t = some r) (hk : r.k = .slice e) (he : X.tb.row e = some re)
    (h : ∀ b, R X all rest K ((dd, slV (some (b, 0, [])) 0) :: σ) ((b, .cells ⟨[]⟩ e (0, 0)) :: L)) : R X all (⟨some dd, .buildSlice t 0 #[], ty, pos, af, none⟩ :: rest) K σ L :=
  R.value rfl rfl hn fun a w ha hw => by
    refine ⟨.slice (some ⟨w.heap.size, 0, none⟩) 0 0, w.alloc (.cells ⟨[]⟩ e (0, 0)), _, ?_, hw.alloc _, h _⟩
    have h2 := (X.tb.get ht).is
    rw [hk] at h2
    simp only [TK.is] at h2
    have h3 : Array.range 0 = #[] := by apply Array.toList_inj.1; simp
    simp [execOp, Instr.buildSlice, run_underlying h2, (X.tb.get he).size, Instr.fill, newRow, run_newObj, h3]
theorem Ok1.neqB {d : Option Nat} {g : Option (Nat × Bool)} {ty2 : TypeId} {b : Bool} (ht : X.tb.row t = some r) (hk : r.k = .bool) (hx : ev σ x = some (.bool b)) (hy : ev σ y = some (.bool b)) : Ok1 X ⟨d, .binOp .neq t x y ty2, ty, pos, af, g⟩ σ L (.bool false) := .mk fun a w ha hw => by
  have hu : X.P.underlying t = some .bool := by have := (X.tb.get ht).is; rw [hk] at this; exact this
  have hE : ∀ n, (Op.equalIn (n + 1) t (.bool b) (.bool b)).run X.P w = .ok true w := by
    intro n
    rw [Op.equalIn]
    simp [run_underlying hu]
  obtain ⟨n, hm⟩ : ∃ n, Op.maxDepth = n + 1 := ⟨_, rfl⟩
  simp [execOp, ha.ev hx, ha.ev hy, eqGuard, binOp, Op.equal, hm, hE]
theorem R.make1 {n : Nat} {k k' : IntKind} {z' : Value} (hn : Nat.blt dd X.n = true) (ht : X.tb.row t = some r) (hk : r.k = .slice e) (he : X.tb.row e = some re) (hz : cellsE re.zero = some [z']) (hs : Nat.beq re.size 1 = true) (hb : Nat.ble re.bytes 65536 = true)
    (hx : ev σ x = some (.int k n)) (hy : ev σ y = some (.int k' n)) (hle : n ≤ 1073741824)
    (h : ∀ b, R X all rest K ((dd, .slice (some ⟨b, 0, none⟩) n n) :: σ) ((b, .cells ⟨List.replicate n z'⟩ e (0, 0)) :: L)) : R X all (⟨some dd, .makeSlice t x y, ty, pos, af, none⟩ :: rest) K σ L :=
  R.value rfl rfl hn fun a w ha hw => by
    have hu : X.P.underlying t = some (.slice e) := by have := (X.tb.get ht).is; rw [hk] at this; exact this
    obtain ⟨i, hi, hib⟩ : ∃ i, X.P.info? e = some i ∧ i.bytes = re.bytes := by
      have := (X.tb.get he).bytes
      cases h : X.P.info? e with
      | none => rw [h] at this; cases this
      | some i => rw [h] at this; exact ⟨i, rfl, by simpa using this⟩
    have hti : ∀ w, (typeInfo e).run X.P w = .ok i w := fun w => by simp [typeInfo, hi]
    have hzc := cellsE_eq hz
    have hs1 := Nat.eq_of_beq_eq_true hs
    have hb1 := Nat.le_of_ble_eq_true hb
    have hwr : IntKind.i64.wrap (n : Int) = n := IntWalk.i64_in _ ⟨by omega, by omega⟩
    have hlt : ¬ ((re.bytes : Int) * (n : Int) > 2 ^ 48) := by
      have : re.bytes * n ≤ 65536 * 1073741824 := Nat.mul_le_mul hb1 hle
      have h9 : ((re.bytes * n : Nat) : Int) = (re.bytes : Int) * (n : Int) := by simp
      have h10 : (2 : Int) ^ 48 = 281474976710656 := by decide
      omega
    have hcells : (Array.range (n * 1)).map (fun i => (Array.mk [z'])[i % (Array.mk [z']).size]!) = (⟨List.replicate n z'⟩ : Array Value) := by
      apply Array.ext_getElem?
      intro j
      by_cases hj : j < n <;> simp [Array.getElem?_map, Array.getElem?_range, List.getElem?_replicate, hj, Nat.mod_one]
    refine ⟨.slice (some ⟨w.heap.size, 0, none⟩) n n, w.alloc (.cells ⟨List.replicate n z'⟩ e (0, 0)), _, ?_, hw.alloc _, h _⟩
    have hai : ∀ (k : IntKind) (w : World), (asInt (.int k n)).run X.P w = .ok (n : Int) w := fun k w => by simp [asInt, asIntOf]
    have hlt' : ¬ (2 ^ 48 < (re.bytes : Int) * (n : Int)) := hlt
    simp only [execOp, ha.ev hx, ha.ev hy, Instr.makeSlice, Sem.run_bind, run_underlying hu, Result.andThen_ok, hai, hti, hib, hwr, gt_iff_lt, hlt', show ¬ ((n : Int) < 0) by omega, Int.lt_irrefl, decide_false, Bool.or_self, Bool.false_eq_true, if_false, Sem.run_pure, run_askRoom, (X.tb.get he).size, hs1, Int.toNat_natCast, newRow, run_newObj]
    by_cases h0 : n = 0
    · subst h0
      have h3 : Array.range (0 * 1) = #[] := by apply Array.toList_inj.1; simp
      simp [h3]
    · have hne : ¬ n * 1 = 0 := by omega
      simp only [if_neg hne, Sem.run_bind, (X.tb.get he).zero, hzc, Result.andThen_ok, Sem.run_pure, run_newObj, hcells]
      rfl
end
section
variable {X : Cx} {all : Array Oper} {C : Lst} {fuel : Nat} {listed : Array Bool} {K : Env → Lst → Prop} {σ : Env}
end
end Go.Proofs.YtligpachgcmkcaaGreat
set_option linter.unusedSimpArgs false
set_option linter.unusedVariables false
namespace Go.Proofs.YtligpachgcmkcaaGreat
open Go.RowKit Go.Shelf
section
variable {α : Type} {v : α → List Value} {sz : Nat}
theorem fl_takeG (hv : ∀ a, (v a).length = sz) (l : List α) (i : Nat) : (fl v l).take (i * sz) = fl v (l.take i) := by
  induction l generalizing i with
  | nil => simp [fl]
  | cons a l ih =>
    cases i with
    | zero => simp [fl]
    | succ i =>
      have := ih i
      simp only [fl, List.map_cons, List.flatten_cons, List.take_succ_cons] at this ⊢
      rw [Nat.add_mul, List.take_append, ← this, hv, List.take_of_length_le (by rw [hv]; omega)]
      congr 2
      omega
theorem fl_dropG (hv : ∀ a, (v a).length = sz) (l : List α) (i : Nat) : (fl v l).drop (i * sz) = fl v (l.drop i) := by
  induction l generalizing i with
  | nil => simp [fl]
  | cons a l ih =>
    cases i with
    | zero => simp [fl]
    | succ i =>
      have := ih i
      simp only [fl, List.map_cons, List.flatten_cons, List.drop_succ_cons] at this ⊢
      rw [Nat.add_mul, List.drop_append, ← this, hv, List.drop_of_length_le (by rw [hv]; omega), List.nil_append]
      congr 1
      omega
end
theorem setE_one {v : Value} : ∀ {cs : List Value} {o : Nat}, o < cs.length → setE cs o [v] = some (cs.set o v)
  | [], o, h => by simp at h
  | c :: cs, 0, h => by cases cs <;> simp [setE]
  | c :: cs, o + 1, h => by simp [setE, setE_one (by simpa using h)]
end Go.Proofs.YtligpachgcmkcaaGreat
set_option linter.unusedSimpArgs false
set_option linter.unusedVariables false
set_option linter.unusedSectionVars false
namespace Go.Proofs.YtligpachgcmkcaaGreat
open Go.RowKit Go.Shelf
theorem subE_app : ∀ (xs junk : List Value) {n : Nat}, xs.length = n → subE (xs ++ junk) 0 n = some xs
  | [], junk, n, h => by simp at h; subst h; cases junk <;> rfl
  | x :: xs, junk, n, h => by
    cases n with
    | zero => simp at h
    | succ n =>
      have := subE_app xs junk (n := n) (by simpa using h)
      simp only [List.cons_append, subE, this]
theorem subE_all {xs : List Value} {n : Nat} (h : xs.length = n) : subE xs 0 n = some xs := by
  have := subE_app xs [] h
  rwa [List.append_nil] at this
theorem setE_all {cs vs : List Value} (h : vs.length = cs.length) : setE cs 0 vs = some vs := by
  have := setE_mid [] (vs := vs) (junk := cs) (by omega)
  simpa [h] using this
/-- Where a slice's last ones lie. -/
def sufP (p : Option Addr) (cap i sz : Nat) : Option Addr := if cap = i then p else p.map (·.add (i * sz))
section
variable {α : Type} {v : α → List Value} {sz : Nat} {xs : List α} {w : World} {p : Option Addr}
theorem RdSl.suf (hv : ∀ a, (v a).length = sz) (h : RdSl w p v xs) {cap i : Nat} (h1 : i ≤ xs.length) (h2 : xs.length ≤ cap) : RdSl w (sufP p cap i sz) v (xs.drop i) := by
  by_cases hc : cap = i
  · left; exact List.drop_eq_nil_of_le (by omega)
  · rcases h with h | ⟨b, o, rfl, h⟩
    · left; rw [h]; exact List.drop_nil
    · right
      refine ⟨b, o + i * sz, by simp [sufP, hc, Addr.add_none], fun k hk => ?_⟩
      rw [← fl_dropG hv] at hk ⊢
      rw [List.length_drop] at hk
      rw [List.getElem?_drop, ← h (i * sz + k) (by omega), Nat.add_assoc]
theorem RdSl.pre (hv : ∀ a, (v a).length = sz) (h : RdSl w p v xs) (i : Nat) : RdSl w p v (xs.take i) := by
  rcases h with h | ⟨b, o, rfl, h⟩
  · left; rw [h]; exact List.take_nil
  · right
    refine ⟨b, o, rfl, fun k hk => ?_⟩
    rw [← fl_takeG hv] at hk ⊢
    rw [List.length_take] at hk
    rw [List.getElem?_take, if_pos (by omega)]
    exact h k (by omega)
theorem Off.suf {S : List Nat} (h : Off p S) (cap i sz : Nat) : Off (sufP p cap i sz) S := by
  intro a ha
  unfold sufP at ha
  split at ha
  · exact h a ha
  · cases p with
    | none => cases ha
    | some a0 =>
      simp only [Option.map_some, Option.some.injEq] at ha
      subst ha
      have := h a0 rfl
      unfold Addr.add
      split <;> exact this
theorem RdSl.chg' {w' : World} {S : List Nat} (h : RdSl w p v xs) (hc : Chg S w w') (ho : xs ≠ [] → Off p S) : RdSl w' p v xs := by
  by_cases hx : xs = []
  · exact .inl hx
  · exact h.chg hc (ho hx)
/-- What is old lies in none of the blocks that are one's own. -/
theorem RdSl.old {w' : World} {S : List Nat} {L Li Lr : Lst} (hv : ∀ a, (v a).length = sz) (hs : 1 ≤ sz) (h : RdSl w p v xs) (ho : xs ≠ [] → Off p S) (hw : Hp w S L w') (he : Ext L Li Lr) : xs ≠ [] → Off p (blks Li) := by
  intro hx a ha hm
  rcases h with h | ⟨b, o, hp, h⟩
  · exact hx h
  · rw [hp] at ha
    cases ha
    obtain ⟨⟨b', ob⟩, hmem, hb'⟩ := List.mem_map.1 hm
    simp only at hb'
    subst hb'
    rcases hw.own b' ob (he.mem _ hmem) with h1 | h1
    · have h2 : 0 < (fl v xs).length := by
        rw [fl_len hv]
        have : 0 < xs.length := List.length_pos_iff.2 hx
        exact Nat.mul_pos this hs
      have h3 := h 0 h2
      rw [List.getElem?_eq_getElem h2] at h3
      simp only [World.cell?] at h3
      have h4 : w.heap[b']? = none := Array.getElem?_eq_none h1
      rw [h4] at h3
      simp at h3
    · exact ho hx _ hp h1
theorem RdSl.holds {n cap : Nat} (h : RdSl w p v xs) (hne : xs ≠ []) : Holds w (.slice p n cap) (fl v xs) := by
  rcases h with h | ⟨b, o, rfl, h⟩
  · exact absurd h hne
  · exact fun i hi => h i hi
end
section
variable {X : Cx} {σ : Env} {L Lr : Lst} {d : Option Nat} {dd : Nat} {ty : TypeId} {pos : String} {af : Array Edge} {g : Option (Nat × Bool)} {x y : Operand} {t t2 e : TypeId} {r r2 re : TRow}
variable {all : Array Oper} {rest : List Oper} {K : Env → Lst → Prop} {p : Option Addr} {n cap i : Nat}
theorem Ok1.sufR {lo : Operand} {sz : Nat} (ht : X.tb.row t = some r) (hk : r.k = .slice e) (he : X.tb.row e = some re) (hsz : re.size = sz) (hx : ev σ x = some (.slice p n cap)) (hh : ev σ lo = some (.int .i64 i)) (h1 : i ≤ n) (h2 : n ≤ cap) :
    Ok1 X ⟨d, .slice t x (some lo) none none, ty, pos, af, g⟩ σ L (.slice (sufP p cap i sz) (n - i) (cap - i)) := .mk fun a w ha hw => by
  subst hsz
  rw [slice_run (l := (i : Int)) (h := (n : Int)) (m := (cap : Int)) X.tb ht hk he ha hx rfl rfl (by simp [bd, hh]) (by omega) (by omega) (by omega) (by omega) (.inl rfl)]
  simp [sufP]
theorem Ok1.preR {hi : Operand} (ht : X.tb.row t = some r) (hk : r.k = .slice e) (he : X.tb.row e = some re) (hx : ev σ x = some (.slice p n cap)) (hh : ev σ hi = some (.int .i64 i)) (h1 : i ≤ cap) :
    Ok1 X ⟨d, .slice t x none (some hi) none, ty, pos, af, g⟩ σ L (.slice p i cap) := .mk fun a w ha hw => by
  rw [slice_run (l := 0) (h := (i : Int)) (m := (cap : Int)) X.tb ht hk he ha hx rfl (by simp [bd, hh]) rfl (by omega) (by omega) (by omega) (by omega) (.inl rfl)]
  have : p.map (·.add (0 * re.size)) = p := by cases p <;> simp [Addr.add]
  simp only [Int.toNat_zero, this, ite_self, Int.toNat_natCast, Nat.sub_zero]
theorem Ok1.capS (ht : X.tb.row t = some r) (hk : r.k = .slice e) (hx : ev σ x = some (.slice p n cap)) : Ok1 X ⟨d, .call { callee := .builtin .cap, args := #[x], argTypes := #[t] }, ty, pos, af, g⟩ σ L (.int .i64 cap) := .mk fun a w ha hw => by
  have h2 := (X.tb.get ht).is
  rw [hk] at h2
  simp only [TK.is] at h2
  simp [execOp, resolve, ha.ev hx, invoke, builtin, Builtin.cap_, run_underlying h2, goInt]
/-- append(s, y...): s a slice of one's own, y one that is read. -/
theorem R.appendRd {α : Type} {v : α → List Value} {xs : List α} {sz : Nat} {ov : Ov} {m cap2 e2 : Nat} {old zc : List Value} (hn : Nat.blt dd X.n = true) (ht : X.tb.row t = some r) (hk : r.k = .slice e) (he : X.tb.row e = some re) (hz : cellsE re.zero = some zc) (hzl : zc.length = re.size) (ht2 : X.tb.row t2 = some r2) (hk2 : r2.k = .slice e2) (hb1 : Nat.ble 1 re.bytes = true) (hb2 : Nat.ble re.bytes 65536 = true)
    (hx : ev σ x = some (slV ov n)) (hy : ev σ y = some (.slice p m cap2)) (hok : OvOk re.size ov n old) (hp : Ext L (blkL e ov old) Lr) (hm : m = xs.length) (hv : ∀ a, (v a).length = sz) (hs : re.size = sz) (hh : ∀ w, Hp X.w0 X.S L w → RdSl w p v xs)
    (h1 : (fl v xs).all Value.oneCell' = true) (hbig : n + m ≤ 1073741824)
    (h : ∀ ov', OvOk re.size ov' (n + m) (old ++ fl v xs) → (ov.isSome = true → ov'.isSome = true) → R X all rest K ((dd, slV ov' (n + m)) :: σ) (blkL e ov' (old ++ fl v xs) ++ Lr)) :
    R X all (⟨some dd, .call { callee := .builtin .append, args := #[x, y], argTypes := #[t, t2] }, ty, pos, af, none⟩ :: rest) K σ L := by
  subst hm
  cases xs with
  | nil =>
    refine R.value rfl rfl hn fun a w ha hw => ?_
    have hw2 := hw.perm hp.perm
    have hrun := append_none X.tb (w := w) (ty := ty) (n := n) (p2 := p) (cap2 := cap2) (ov := ov) ht hk he ht2 hk2 (fun e => by subst e; exact hok.2)
    refine ⟨slV ov n, w, blkL e ov (old ++ []) ++ Lr, ?_, by rw [List.append_nil]; exact hw2, h ov (by simpa [fl] using hok) id⟩
    simp [execOp, resolve, ha.ev hx, ha.ev hy, invoke, builtin, hrun]
  | cons x0 xs =>
    refine R.appendH hn ht hk he hz hzl ht2 hk2 hb1 hb2 hx hy rfl hok hp (fun w hw => (hh w hw).holds (by simp)) ?_ h1 hbig fun ov' h2 => h ov' h2 fun _ => by
      cases ov' with
      | none => have := h2.2; simp at this
      | some _ => rfl
    rw [fl_len hv, hs]
/-- Room for n, made ahead of any: append(nil, make(.., n)...). -/
theorem grow_run {P : Program} (tb : Tb P) (ht : tb.row t = some r) (hk : r.k = .slice e) (he : tb.row e = some re) {z : Value} (hz : cellsE re.zero = some [z]) (hsz : re.size = 1) (ht2 : tb.row t2 = some r2) (hk2 : r2.k = .int .i64)
    {w0 w : World} {S : List Nat} {n : Nat} (hw : Hp w0 S L w) (hm : 1 ≤ n) (hbig : (2 * n + 768) * re.bytes ≤ 281474976710656) (hb1 : 1 ≤ re.bytes) :
    ∃ b' j' w', (Builtin.append_ #[t, t2] ty #[.slice none 0 0, .int .i64 n]).run P w = .ok (.slice (some ⟨b', 0, none⟩) n (n + j')) w' ∧ Hp w0 S ((b', .cells ⟨List.replicate (n + j') z⟩ e (0, 0)) :: L) w' := by
  have hu : P.underlying t = some (.slice e) := by have := (tb.get ht).is; rw [hk] at this; exact this
  have hu2 : P.underlying t2 = some (.int .i64) := by have := (tb.get ht2).is; rw [hk2] at this; exact this
  obtain ⟨i, hi, hib⟩ : ∃ i, P.info? e = some i ∧ i.bytes = re.bytes := by
    have := (tb.get he).bytes
    cases h : P.info? e with
    | none => rw [h] at this; cases this
    | some i => rw [h] at this; exact ⟨i, rfl, by simpa using this⟩
  have hti : ∀ w, (typeInfo e).run P w = .ok i w := fun w => by simp [typeInfo, hi]
  have hzc := cellsE_eq hz
  have hnx := nextcap_le n 0 (by omega)
  have h48 : (2 : Nat) ^ 48 = 281474976710656 := by decide
  have hnb : ¬ Builtin.nextslicecap n 0 * re.bytes > 2 ^ 48 := by
    have := Nat.mul_le_mul_right re.bytes hnx
    omega
  have hn2 : n * 1 ≤ n * re.bytes := Nat.mul_le_mul_left _ hb1
  have hn3 : (2 * n + 768) * re.bytes = 2 * (n * re.bytes) + 768 * re.bytes := by rw [Nat.add_mul, Nat.mul_assoc]
  have hwn : IntKind.i64.wrap (n : Int) = n := wrap_in (by omega) (by omega)
  have hnn : ¬ (n : Int) < 0 := by omega
  have hlb : ¬ ((n : Int) * (re.bytes : Int) > 2 ^ 48) := by
    have h1 : n * re.bytes ≤ 2 ^ 48 := by omega
    have h2 : ((n * re.bytes : Nat) : Int) ≤ ((2 ^ 48 : Nat) : Int) := Int.ofNat_le.2 h1
    have h3 : ((2 ^ 48 : Nat) : Int) = 2 ^ 48 := by decide
    rw [Int.natCast_mul] at h2
    omega
  have hzr : ∀ k, (Builtin.zeroCells re.zero.cells k).toList = List.replicate k z := by
    intro k
    have hc : re.zero.cells = #[z] := by apply Array.toList_inj.1; rw [hzc]
    rw [hc]
    refine List.eq_replicate_iff.2 ⟨by simp [Builtin.zeroCells], fun x hx => ?_⟩
    simp only [Builtin.zeroCells, Array.toList_map, List.mem_map, List.size_toArray, List.length_singleton, Nat.mod_one] at hx
    obtain ⟨_, _, rfl⟩ := hx
    rfl
  obtain ⟨q, hq⟩ : ∃ q, (Question.appendCap n 0 e).cut (w.tape w.drawn (.appendCap n 0 e)) = n + q := ⟨_, rfl⟩
  refine ⟨w.heap.size, q, w.drew.alloc (.cells ⟨List.replicate (n + q) z⟩ e (0, 0)), ?_, (hw.step (Chg.drew [] w)).alloc _⟩
  have harr : ((#[] : Array Value) ++ Builtin.zeroCells re.zero.cells n ++ Builtin.zeroCells re.zero.cells (n + q - n) : Array Value) = ⟨List.replicate (n + q) z⟩ := by
    apply Array.toList_inj.1
    rw [Array.toList_append, Array.toList_append, hzr, hzr, Nat.add_sub_cancel_left, List.nil_append, List.replicate_append_replicate]
  have hai : ∀ w, (asInt (.int .i64 (n : Int))).run P w = .ok (n : Int) w := fun w => by simp [asInt, asIntOf]
  have hmx : ¬ (n : Int) > IntKind.i64.max := by have : IntKind.i64.max = 9223372036854775807 := by decide
                                                 omega
  unfold Builtin.append_
  simp only [hmx, false_and, List.getElem?_toArray, List.getElem?_cons_zero, List.getElem?_cons_succ, Sem.run_bind, run_underlying hu, run_underlying hu2, Result.andThen_ok, (tb.get he).size, Sem.run_pure, if_true, hai, hwn, hnn, if_false, Nat.zero_add, Nat.not_le.2 (show 0 < n by omega), hti, hib, Sem.run_ite, hlb, Int.toNat_natCast, Bool.not_true, Bool.false_eq_true,
    show ¬ re.bytes = 0 by omega, or_false, and_false, false_or, hnb, run_choose, Question.forced, hq, run_askRoom, World.drew_eq, Builtin.firstCells, hsz, Nat.mul_one, show ¬ n = 0 by omega, (tb.get he).zero, newRow, run_newObj, harr]
  rfl
theorem R.growMk {z : Value} (hn : Nat.blt dd X.n = true) (ht : X.tb.row t = some r) (hk : r.k = .slice e) (he : X.tb.row e = some re) (hz : cellsE re.zero = some [z]) (hsz : Nat.beq re.size 1 = true) (ht2 : X.tb.row t2 = some r2) (hk2 : r2.k = .int .i64) (hb1 : Nat.ble 1 re.bytes = true) (hb2 : Nat.ble re.bytes 65536 = true)
    (hx : ev σ x = some (.slice none 0 0)) (hy : ev σ y = some (.int .i64 n)) (hm : 1 ≤ n) (hbig : n ≤ 1073741824)
    (h : ∀ b' j', R X all rest K ((dd, .slice (some ⟨b', 0, none⟩) n (n + j')) :: σ) ((b', .cells ⟨List.replicate (n + j') z⟩ e (0, 0)) :: L)) :
    R X all (⟨some dd, .call { callee := .builtin .append, args := #[x, y], argTypes := #[t, t2] }, ty, pos, af, none⟩ :: rest) K σ L :=
  R.value rfl rfl hn fun a w ha hw => by
    have h3 := Nat.le_of_ble_eq_true hb2
    have hbig' : (2 * n + 768) * re.bytes ≤ 281474976710656 := by
      have := Nat.mul_le_mul (show 2 * n + 768 ≤ 2147484416 by omega) h3
      omega
    obtain ⟨b', j', w', g1, g2⟩ := grow_run X.tb (ty := ty) ht hk he hz (Nat.eq_of_beq_eq_true hsz) ht2 hk2 hw hm hbig' (Nat.le_of_ble_eq_true hb1)
    refine ⟨_, w', _, ?_, g2, h b' j'⟩
    simp [execOp, resolve, ha.ev hx, ha.ev hy, invoke, builtin, g1]
end
end Go.Proofs.YtligpachgcmkcaaGreat
namespace Go.Proofs.YtligpachgcmkcaaGreat
open Go.RowKit Go.Shelf
def rowsTab : List (Option TRow) := [
  none,
  some { k := .fn, size := 1, bytes := 8, zero := .nilFunc },
  some { k := .int .i64, size := 1, bytes := 8, zero := .int .i64 0 },
  some { k := .int .i64, size := 1, bytes := 8, zero := .int .i64 0 },
  some { k := .bool, size := 1, bytes := 1, zero := .bool false },
  some { k := .int .u8, size := 1, bytes := 1, zero := .int .u8 0 },
  some { k := .int .u8, size := 1, bytes := 1, zero := .int .u8 0 },
  none,
  none,
  some { k := .string, size := 1, bytes := 16, zero := .string ByteArray.empty },
  some { k := .string, size := 1, bytes := 16, zero := .string ByteArray.empty },
  some { k := .string, size := 1, bytes := 16, zero := .string ByteArray.empty },
  some { k := .int .u64, size := 1, bytes := 8, zero := .int .u64 0 },
  none,
  none,
  some { k := .ptr 163, size := 1, bytes := 8, zero := .pointer none },
  some { k := .ptr 166, size := 1, bytes := 8, zero := .pointer none },
  some { k := .ptr 174, size := 1, bytes := 8, zero := .pointer none },
  none,
  none,
  none,
  some { k := .int .i32, size := 1, bytes := 4, zero := .int .i32 0 },
  some { k := .slice 3, size := 1, bytes := 24, zero := .slice none 0 0 },
  some { k := .arr 4 22, size := 4, bytes := 96, zero := .agg #[.slice none 0 0, .slice none 0 0, .slice none 0 0, .slice none 0 0] },
  some { k := .arr 4 3, size := 4, bytes := 32, zero := .agg #[.int .i64 0, .int .i64 0, .int .i64 0, .int .i64 0] },
  some { k := .arr 8 5, size := 8, bytes := 8, zero := .agg #[.int .u8 0, .int .u8 0, .int .u8 0, .int .u8 0, .int .u8 0, .int .u8 0, .int .u8 0, .int .u8 0] },
  some { k := .strct [(24, 0, 4), (25, 4, 8)], size := 12, bytes := 40, zero := .agg #[.int .i64 0, .int .i64 0, .int .i64 0, .int .i64 0, .int .u8 0, .int .u8 0, .int .u8 0, .int .u8 0, .int .u8 0, .int .u8 0, .int .u8 0, .int .u8 0] },
  some { k := .strct [(24, 0, 4), (25, 4, 8)], size := 12, bytes := 40, zero := .agg #[.int .i64 0, .int .i64 0, .int .i64 0, .int .i64 0, .int .u8 0, .int .u8 0, .int .u8 0, .int .u8 0, .int .u8 0, .int .u8 0, .int .u8 0, .int .u8 0] },
  some { k := .slice 5, size := 1, bytes := 24, zero := .slice none 0 0 },
  some { k := .ptr 88, size := 1, bytes := 8, zero := .pointer none },
  some { k := .ptr 62, size := 1, bytes := 8, zero := .pointer none },
  none,
  some { k := .fn, size := 1, bytes := 8, zero := .nilFunc },
  some { k := .int .u32, size := 1, bytes := 4, zero := .int .u32 0 },
  some { k := .arr 64 33, size := 64, bytes := 256, zero := .agg #[.int .u32 0, .int .u32 0, .int .u32 0, .int .u32 0, .int .u32 0, .int .u32 0, .int .u32 0, .int .u32 0, .int .u32 0, .int .u32 0, .int .u32 0, .int .u32 0, .int .u32 0, .int .u32 0, .int .u32 0, .int .u32 0, .int .u32 0, .int .u32 0, .int .u32 0, .int .u32 0, .int .u32 0, .int .u32 0, .int .u32 0, .int .u32 0, .int .u32 0, .int .u32 0, .int .u32 0, .int .u32 0, .int .u32 0, .int .u32 0, .int .u32 0, .int .u32 0, .int .u32 0, .int .u32 0, .int .u32 0, .int .u32 0, .int .u32 0, .int .u32 0, .int .u32 0, .int .u32 0, .int .u32 0, .int .u32 0, .int .u32 0, .int .u32 0, .int .u32 0, .int .u32 0, .int .u32 0, .int .u32 0, .int .u32 0, .int .u32 0, .int .u32 0, .int .u32 0, .int .u32 0, .int .u32 0, .int .u32 0, .int .u32 0, .int .u32 0, .int .u32 0, .int .u32 0, .int .u32 0, .int .u32 0, .int .u32 0, .int .u32 0, .int .u32 0] },
  some { k := .arr 8 33, size := 8, bytes := 32, zero := .agg #[.int .u32 0, .int .u32 0, .int .u32 0, .int .u32 0, .int .u32 0, .int .u32 0, .int .u32 0, .int .u32 0] },
  some { k := .strct [(34, 0, 64), (35, 64, 8)], size := 72, bytes := 288, zero := .agg #[.int .u32 0, .int .u32 0, .int .u32 0, .int .u32 0, .int .u32 0, .int .u32 0, .int .u32 0, .int .u32 0, .int .u32 0, .int .u32 0, .int .u32 0, .int .u32 0, .int .u32 0, .int .u32 0, .int .u32 0, .int .u32 0, .int .u32 0, .int .u32 0, .int .u32 0, .int .u32 0, .int .u32 0, .int .u32 0, .int .u32 0, .int .u32 0, .int .u32 0, .int .u32 0, .int .u32 0, .int .u32 0, .int .u32 0, .int .u32 0, .int .u32 0, .int .u32 0, .int .u32 0, .int .u32 0, .int .u32 0, .int .u32 0, .int .u32 0, .int .u32 0, .int .u32 0, .int .u32 0, .int .u32 0, .int .u32 0, .int .u32 0, .int .u32 0, .int .u32 0, .int .u32 0, .int .u32 0, .int .u32 0, .int .u32 0, .int .u32 0, .int .u32 0, .int .u32 0, .int .u32 0, .int .u32 0, .int .u32 0, .int .u32 0, .int .u32 0, .int .u32 0, .int .u32 0, .int .u32 0, .int .u32 0, .int .u32 0, .int .u32 0, .int .u32 0, .int .u32 0, .int .u32 0, .int .u32 0, .int .u32 0, .int .u32 0, .int .u32 0, .int .u32 0, .int .u32 0] },
  some { k := .strct [(34, 0, 64), (35, 64, 8)], size := 72, bytes := 288, zero := .agg #[.int .u32 0, .int .u32 0, .int .u32 0, .int .u32 0, .int .u32 0, .int .u32 0, .int .u32 0, .int .u32 0, .int .u32 0, .int .u32 0, .int .u32 0, .int .u32 0, .int .u32 0, .int .u32 0, .int .u32 0, .int .u32 0, .int .u32 0, .int .u32 0, .int .u32 0, .int .u32 0, .int .u32 0, .int .u32 0, .int .u32 0, .int .u32 0, .int .u32 0, .int .u32 0, .int .u32 0, .int .u32 0, .int .u32 0, .int .u32 0, .int .u32 0, .int .u32 0, .int .u32 0, .int .u32 0, .int .u32 0, .int .u32 0, .int .u32 0, .int .u32 0, .int .u32 0, .int .u32 0, .int .u32 0, .int .u32 0, .int .u32 0, .int .u32 0, .int .u32 0, .int .u32 0, .int .u32 0, .int .u32 0, .int .u32 0, .int .u32 0, .int .u32 0, .int .u32 0, .int .u32 0, .int .u32 0, .int .u32 0, .int .u32 0, .int .u32 0, .int .u32 0, .int .u32 0, .int .u32 0, .int .u32 0, .int .u32 0, .int .u32 0, .int .u32 0, .int .u32 0, .int .u32 0, .int .u32 0, .int .u32 0, .int .u32 0, .int .u32 0, .int .u32 0, .int .u32 0] },
  some { k := .fn, size := 1, bytes := 8, zero := .nilFunc },
  some { k := .arr 4 3, size := 4, bytes := 32, zero := .agg #[.int .i64 0, .int .i64 0, .int .i64 0, .int .i64 0] },
  some { k := .strct [(39, 0, 4), (25, 4, 8)], size := 12, bytes := 40, zero := .agg #[.int .i64 0, .int .i64 0, .int .i64 0, .int .i64 0, .int .u8 0, .int .u8 0, .int .u8 0, .int .u8 0, .int .u8 0, .int .u8 0, .int .u8 0, .int .u8 0] },
  some { k := .strct [(39, 0, 4), (25, 4, 8)], size := 12, bytes := 40, zero := .agg #[.int .i64 0, .int .i64 0, .int .i64 0, .int .i64 0, .int .u8 0, .int .u8 0, .int .u8 0, .int .u8 0, .int .u8 0, .int .u8 0, .int .u8 0, .int .u8 0] },
  some { k := .fn, size := 1, bytes := 8, zero := .nilFunc },
  some { k := .fn, size := 1, bytes := 8, zero := .nilFunc },
  some { k := .fn, size := 1, bytes := 8, zero := .nilFunc },
  some { k := .fn, size := 1, bytes := 8, zero := .nilFunc },
  some { k := .fn, size := 1, bytes := 8, zero := .nilFunc },
  some { k := .int .i64, size := 1, bytes := 8, zero := .int .i64 0 },
  none,
  some { k := .fn, size := 1, bytes := 8, zero := .nilFunc },
  some { k := .fn, size := 1, bytes := 8, zero := .nilFunc },
  some { k := .ptr 80, size := 1, bytes := 8, zero := .pointer none },
  some { k := .fn, size := 1, bytes := 8, zero := .nilFunc },
  none,
  some { k := .fn, size := 1, bytes := 8, zero := .nilFunc },
  some { k := .fn, size := 1, bytes := 8, zero := .nilFunc },
  some { k := .fn, size := 1, bytes := 8, zero := .nilFunc },
  some { k := .fn, size := 1, bytes := 8, zero := .nilFunc },
  some { k := .fn, size := 1, bytes := 8, zero := .nilFunc },
  some { k := .fn, size := 1, bytes := 8, zero := .nilFunc },
  some { k := .fn, size := 1, bytes := 8, zero := .nilFunc },
  some { k := .strct [(23, 0, 4)], size := 4, bytes := 96, zero := .agg #[.slice none 0 0, .slice none 0 0, .slice none 0 0, .slice none 0 0] },
  some { k := .strct [(23, 0, 4)], size := 4, bytes := 96, zero := .agg #[.slice none 0 0, .slice none 0 0, .slice none 0 0, .slice none 0 0] },
  some { k := .fn, size := 1, bytes := 8, zero := .nilFunc },
  some { k := .fn, size := 1, bytes := 8, zero := .nilFunc },
  some { k := .int .u64, size := 1, bytes := 8, zero := .int .u64 0 },
  some { k := .fn, size := 1, bytes := 8, zero := .nilFunc },
  some { k := .arr 32 5, size := 32, bytes := 32, zero := .agg #[.int .u8 0, .int .u8 0, .int .u8 0, .int .u8 0, .int .u8 0, .int .u8 0, .int .u8 0, .int .u8 0, .int .u8 0, .int .u8 0, .int .u8 0, .int .u8 0, .int .u8 0, .int .u8 0, .int .u8 0, .int .u8 0, .int .u8 0, .int .u8 0, .int .u8 0, .int .u8 0, .int .u8 0, .int .u8 0, .int .u8 0, .int .u8 0, .int .u8 0, .int .u8 0, .int .u8 0, .int .u8 0, .int .u8 0, .int .u8 0, .int .u8 0, .int .u8 0] },
  some { k := .fn, size := 1, bytes := 8, zero := .nilFunc },
  some { k := .fn, size := 1, bytes := 8, zero := .nilFunc },
  some { k := .fn, size := 1, bytes := 8, zero := .nilFunc },
  some { k := .fn, size := 1, bytes := 8, zero := .nilFunc },
  some { k := .strct [(28, 0, 1), (47, 1, 1)], size := 2, bytes := 32, zero := .agg #[.slice none 0 0, .int .i64 0] },
  some { k := .strct [(28, 0, 1), (47, 1, 1)], size := 2, bytes := 32, zero := .agg #[.slice none 0 0, .int .i64 0] },
  some { k := .ptr 73, size := 1, bytes := 8, zero := .pointer none },
  some { k := .fn, size := 1, bytes := 8, zero := .nilFunc },
  some { k := .fn, size := 1, bytes := 8, zero := .nilFunc },
  some { k := .fn, size := 1, bytes := 8, zero := .nilFunc },
  some { k := .strct [(28, 0, 1), (47, 1, 1)], size := 2, bytes := 32, zero := .agg #[.slice none 0 0, .int .i64 0] },
  some { k := .strct [(78, 0, 2)], size := 2, bytes := 32, zero := .agg #[.slice none 0 0, .int .i64 0] },
  some { k := .strct [(78, 0, 2)], size := 2, bytes := 32, zero := .agg #[.slice none 0 0, .int .i64 0] },
  some { k := .fn, size := 1, bytes := 8, zero := .nilFunc },
  some { k := .fn, size := 1, bytes := 8, zero := .nilFunc },
  some { k := .fn, size := 1, bytes := 8, zero := .nilFunc },
  some { k := .fn, size := 1, bytes := 8, zero := .nilFunc },
  some { k := .strct [(3, 0, 1), (3, 1, 1), (28, 2, 1)], size := 3, bytes := 40, zero := .agg #[.int .i64 0, .int .i64 0, .slice none 0 0] },
  some { k := .strct [(3, 0, 1), (3, 1, 1), (28, 2, 1)], size := 3, bytes := 40, zero := .agg #[.int .i64 0, .int .i64 0, .slice none 0 0] },
  some { k := .strct [(23, 0, 4)], size := 4, bytes := 96, zero := .agg #[.slice none 0 0, .slice none 0 0, .slice none 0 0, .slice none 0 0] },
  some { k := .strct [(23, 0, 4)], size := 4, bytes := 96, zero := .agg #[.slice none 0 0, .slice none 0 0, .slice none 0 0, .slice none 0 0] },
  some { k := .fn, size := 1, bytes := 8, zero := .nilFunc },
  some { k := .fn, size := 1, bytes := 8, zero := .nilFunc },
  some { k := .fn, size := 1, bytes := 8, zero := .nilFunc },
  some { k := .strct [(35, 0, 8)], size := 8, bytes := 32, zero := .agg #[.int .u32 0, .int .u32 0, .int .u32 0, .int .u32 0, .int .u32 0, .int .u32 0, .int .u32 0, .int .u32 0] },
  some { k := .strct [(35, 0, 8)], size := 8, bytes := 32, zero := .agg #[.int .u32 0, .int .u32 0, .int .u32 0, .int .u32 0, .int .u32 0, .int .u32 0, .int .u32 0, .int .u32 0] },
  some { k := .strct [(93, 0, 8), (4, 8, 1), (28, 9, 1), (3, 10, 1)], size := 11, bytes := 72, zero := .agg #[.int .u32 0, .int .u32 0, .int .u32 0, .int .u32 0, .int .u32 0, .int .u32 0, .int .u32 0, .int .u32 0, .bool false, .slice none 0 0, .int .i64 0] },
  some { k := .strct [(93, 0, 8), (4, 8, 1), (28, 9, 1), (3, 10, 1)], size := 11, bytes := 72, zero := .agg #[.int .u32 0, .int .u32 0, .int .u32 0, .int .u32 0, .int .u32 0, .int .u32 0, .int .u32 0, .int .u32 0, .bool false, .slice none 0 0, .int .i64 0] },
  some { k := .fn, size := 1, bytes := 8, zero := .nilFunc },
  some { k := .ptr 95, size := 1, bytes := 8, zero := .pointer none },
  some { k := .fn, size := 1, bytes := 8, zero := .nilFunc },
  some { k := .int .u64, size := 1, bytes := 8, zero := .int .u64 0 },
  some { k := .fn, size := 1, bytes := 8, zero := .nilFunc },
  some { k := .fn, size := 1, bytes := 8, zero := .nilFunc },
  some { k := .fn, size := 1, bytes := 8, zero := .nilFunc },
  some { k := .fn, size := 1, bytes := 8, zero := .nilFunc },
  some { k := .strct [(3, 0, 1), (3, 1, 1), (28, 2, 1)], size := 3, bytes := 40, zero := .agg #[.int .i64 0, .int .i64 0, .slice none 0 0] },
  some { k := .ptr 78, size := 1, bytes := 8, zero := .pointer none },
  some { k := .fn, size := 1, bytes := 8, zero := .nilFunc },
  some { k := .slice 22, size := 1, bytes := 24, zero := .slice none 0 0 },
  some { k := .fn, size := 1, bytes := 8, zero := .nilFunc },
  some { k := .fn, size := 1, bytes := 8, zero := .nilFunc },
  some { k := .fn, size := 1, bytes := 8, zero := .nilFunc },
  some { k := .fn, size := 1, bytes := 8, zero := .nilFunc },
  some { k := .fn, size := 1, bytes := 8, zero := .nilFunc },
  some { k := .fn, size := 1, bytes := 8, zero := .nilFunc },
  some { k := .arr 12 65, size := 12, bytes := 96, zero := .agg #[.int .u64 0, .int .u64 0, .int .u64 0, .int .u64 0, .int .u64 0, .int .u64 0, .int .u64 0, .int .u64 0, .int .u64 0, .int .u64 0, .int .u64 0, .int .u64 0] },
  some { k := .fn, size := 1, bytes := 8, zero := .nilFunc },
  some { k := .fn, size := 1, bytes := 8, zero := .nilFunc },
  some { k := .slice 28, size := 1, bytes := 24, zero := .slice none 0 0 },
  some { k := .fn, size := 1, bytes := 8, zero := .nilFunc },
  some { k := .fn, size := 1, bytes := 8, zero := .nilFunc },
  some { k := .fn, size := 1, bytes := 8, zero := .nilFunc },
  some { k := .fn, size := 1, bytes := 8, zero := .nilFunc },
  some { k := .fn, size := 1, bytes := 8, zero := .nilFunc },
  some { k := .fn, size := 1, bytes := 8, zero := .nilFunc },
  some { k := .slice 104, size := 1, bytes := 24, zero := .slice none 0 0 },
  some { k := .fn, size := 1, bytes := 8, zero := .nilFunc },
  some { k := .fn, size := 1, bytes := 8, zero := .nilFunc },
  none,
  some { k := .fn, size := 1, bytes := 8, zero := .nilFunc },
  some { k := .fn, size := 1, bytes := 8, zero := .nilFunc },
  some { k := .fn, size := 1, bytes := 8, zero := .nilFunc },
  some { k := .ptr 93, size := 1, bytes := 8, zero := .pointer none },
  some { k := .fn, size := 1, bytes := 8, zero := .nilFunc },
  some { k := .fn, size := 1, bytes := 8, zero := .nilFunc },
  some { k := .fn, size := 1, bytes := 8, zero := .nilFunc },
  some { k := .fn, size := 1, bytes := 8, zero := .nilFunc },
  some { k := .fn, size := 1, bytes := 8, zero := .nilFunc },
  some { k := .fn, size := 1, bytes := 8, zero := .nilFunc },
  some { k := .fn, size := 1, bytes := 8, zero := .nilFunc },
  some { k := .fn, size := 1, bytes := 8, zero := .nilFunc },
  some { k := .fn, size := 1, bytes := 8, zero := .nilFunc },
  some { k := .fn, size := 1, bytes := 8, zero := .nilFunc },
  some { k := .int .i64, size := 1, bytes := 8, zero := .int .i64 0 },
  none,
  some { k := .fn, size := 1, bytes := 8, zero := .nilFunc },
  some { k := .fn, size := 1, bytes := 8, zero := .nilFunc },
  some { k := .fn, size := 1, bytes := 8, zero := .nilFunc },
  some { k := .fn, size := 1, bytes := 8, zero := .nilFunc },
  some { k := .fn, size := 1, bytes := 8, zero := .nilFunc },
  some { k := .fn, size := 1, bytes := 8, zero := .nilFunc },
  some { k := .fn, size := 1, bytes := 8, zero := .nilFunc },
  some { k := .fn, size := 1, bytes := 8, zero := .nilFunc },
  some { k := .int .u64, size := 1, bytes := 8, zero := .int .u64 0 },
  some { k := .fn, size := 1, bytes := 8, zero := .nilFunc },
  some { k := .fn, size := 1, bytes := 8, zero := .nilFunc },
  some { k := .fn, size := 1, bytes := 8, zero := .nilFunc },
  some { k := .ptr 3, size := 1, bytes := 8, zero := .pointer none },
  some { k := .fn, size := 1, bytes := 8, zero := .nilFunc },
  some { k := .ptr 152, size := 1, bytes := 8, zero := .pointer none },
  none,
  some { k := .fn, size := 1, bytes := 8, zero := .nilFunc },
  some { k := .fn, size := 1, bytes := 8, zero := .nilFunc },
  none,
  none,
  none,
  none,
  none,
  some { k := .int .u8, size := 1, bytes := 1, zero := .int .u8 0 },
  some { k := .int .u8, size := 1, bytes := 1, zero := .int .u8 0 },
  some { k := .fn, size := 1, bytes := 8, zero := .nilFunc },
  some { k := .ptr 5, size := 1, bytes := 8, zero := .pointer none },
  some { k := .int .i32, size := 1, bytes := 4, zero := .int .i32 0 },
  some { k := .int .i32, size := 1, bytes := 4, zero := .int .i32 0 },
  none,
  none,
  some { k := .fn, size := 1, bytes := 8, zero := .nilFunc },
  none]
set_option maxRecDepth 100000 in
theorem rowsGood : TGoods Tryz.prog 0 rowsTab :=
  ⟨⟨⟨_, _, _, Tryz.underlying1⟩, Tryz.sizeOf1, Tryz.zeroValue1, trivial, by kernel_rfl⟩,
   ⟨Tryz.underlying2, Tryz.sizeOf2, Tryz.zeroValue2, trivial, by kernel_rfl⟩,
   ⟨Tryz.underlying3, Tryz.sizeOf3, Tryz.zeroValue3, trivial, by kernel_rfl⟩,
   ⟨Tryz.underlying4, Tryz.sizeOf4, Tryz.zeroValue4, trivial, by kernel_rfl⟩,
   ⟨Tryz.underlying5, Tryz.sizeOf5, Tryz.zeroValue5, trivial, by kernel_rfl⟩,
   ⟨Tryz.underlying6, Tryz.sizeOf6, Tryz.zeroValue6, trivial, by kernel_rfl⟩,
   ⟨Tryz.underlying9, Tryz.sizeOf9, Tryz.zeroValue9, trivial, by kernel_rfl⟩,
   ⟨Tryz.underlying10, Tryz.sizeOf10, Tryz.zeroValue10, trivial, by kernel_rfl⟩,
   ⟨Tryz.underlying11, Tryz.sizeOf11, Tryz.zeroValue11, trivial, by kernel_rfl⟩,
   ⟨Tryz.underlying12, Tryz.sizeOf12, Tryz.zeroValue12, trivial, by kernel_rfl⟩,
   ⟨Tryz.underlying15, Tryz.sizeOf15, Tryz.zeroValue15, trivial, by kernel_rfl⟩,
   ⟨Tryz.underlying16, Tryz.sizeOf16, Tryz.zeroValue16, trivial, by kernel_rfl⟩,
   ⟨Tryz.underlying17, Tryz.sizeOf17, Tryz.zeroValue17, trivial, by kernel_rfl⟩,
   ⟨Tryz.underlying21, Tryz.sizeOf21, Tryz.zeroValue21, trivial, by kernel_rfl⟩,
   ⟨Tryz.underlying22, Tryz.sizeOf22, Tryz.zeroValue22, trivial, by kernel_rfl⟩,
   ⟨Tryz.underlying23, Tryz.sizeOf23, Tryz.zeroValue23, trivial, by kernel_rfl⟩,
   ⟨Tryz.underlying24, Tryz.sizeOf24, Tryz.zeroValue24, trivial, by kernel_rfl⟩,
   ⟨Tryz.underlying25, Tryz.sizeOf25, Tryz.zeroValue25, trivial, by kernel_rfl⟩,
   ⟨⟨_, Tryz.underlying26, rfl, rfl, Tryz.sizeOf24, rfl, rfl, rfl, Tryz.sizeOf25, rfl, trivial⟩, Tryz.sizeOf26, Tryz.zeroValue26, (by show Tryz.prog.stoodInHeld 26 = false; kernel_rfl), by kernel_rfl⟩,
   ⟨⟨_, Tryz.underlying27, rfl, rfl, Tryz.sizeOf24, rfl, rfl, rfl, Tryz.sizeOf25, rfl, trivial⟩, Tryz.sizeOf27, Tryz.zeroValue27, (by show Tryz.prog.stoodInHeld 27 = false; kernel_rfl), by kernel_rfl⟩,
   ⟨Tryz.underlying28, Tryz.sizeOf28, Tryz.zeroValue28, trivial, by kernel_rfl⟩,
   ⟨Tryz.underlying29, Tryz.sizeOf29, Tryz.zeroValue29, trivial, by kernel_rfl⟩,
   ⟨Tryz.underlying30, Tryz.sizeOf30, Tryz.zeroValue30, trivial, by kernel_rfl⟩,
   ⟨⟨_, _, _, Tryz.underlying32⟩, Tryz.sizeOf32, Tryz.zeroValue32, trivial, by kernel_rfl⟩,
   ⟨Tryz.underlying33, Tryz.sizeOf33, Tryz.zeroValue33, trivial, by kernel_rfl⟩,
   ⟨Tryz.underlying34, Tryz.sizeOf34, Tryz.zeroValue34, trivial, by kernel_rfl⟩,
   ⟨Tryz.underlying35, Tryz.sizeOf35, Tryz.zeroValue35, trivial, by kernel_rfl⟩,
   ⟨⟨_, Tryz.underlying36, rfl, rfl, Tryz.sizeOf34, rfl, rfl, rfl, Tryz.sizeOf35, rfl, trivial⟩, Tryz.sizeOf36, Tryz.zeroValue36, (by show Tryz.prog.stoodInHeld 36 = false; kernel_rfl), by kernel_rfl⟩,
   ⟨⟨_, Tryz.underlying37, rfl, rfl, Tryz.sizeOf34, rfl, rfl, rfl, Tryz.sizeOf35, rfl, trivial⟩, Tryz.sizeOf37, Tryz.zeroValue37, (by show Tryz.prog.stoodInHeld 37 = false; kernel_rfl), by kernel_rfl⟩,
   ⟨⟨_, _, _, Tryz.underlying38⟩, Tryz.sizeOf38, Tryz.zeroValue38, trivial, by kernel_rfl⟩,
   ⟨Tryz.underlying39, Tryz.sizeOf39, Tryz.zeroValue39, trivial, by kernel_rfl⟩,
   ⟨⟨_, Tryz.underlying40, rfl, rfl, Tryz.sizeOf39, rfl, rfl, rfl, Tryz.sizeOf25, rfl, trivial⟩, Tryz.sizeOf40, Tryz.zeroValue40, (by show Tryz.prog.stoodInHeld 40 = false; kernel_rfl), by kernel_rfl⟩,
   ⟨⟨_, Tryz.underlying41, rfl, rfl, Tryz.sizeOf39, rfl, rfl, rfl, Tryz.sizeOf25, rfl, trivial⟩, Tryz.sizeOf41, Tryz.zeroValue41, (by show Tryz.prog.stoodInHeld 41 = false; kernel_rfl), by kernel_rfl⟩,
   ⟨⟨_, _, _, Tryz.underlying42⟩, Tryz.sizeOf42, Tryz.zeroValue42, trivial, by kernel_rfl⟩,
   ⟨⟨_, _, _, Tryz.underlying43⟩, Tryz.sizeOf43, Tryz.zeroValue43, trivial, by kernel_rfl⟩,
   ⟨⟨_, _, _, Tryz.underlying44⟩, Tryz.sizeOf44, Tryz.zeroValue44, trivial, by kernel_rfl⟩,
   ⟨⟨_, _, _, Tryz.underlying45⟩, Tryz.sizeOf45, Tryz.zeroValue45, trivial, by kernel_rfl⟩,
   ⟨⟨_, _, _, Tryz.underlying46⟩, Tryz.sizeOf46, Tryz.zeroValue46, trivial, by kernel_rfl⟩,
   ⟨Tryz.underlying47, Tryz.sizeOf47, Tryz.zeroValue47, trivial, by kernel_rfl⟩,
   ⟨⟨_, _, _, Tryz.underlying49⟩, Tryz.sizeOf49, Tryz.zeroValue49, trivial, by kernel_rfl⟩,
   ⟨⟨_, _, _, Tryz.underlying50⟩, Tryz.sizeOf50, Tryz.zeroValue50, trivial, by kernel_rfl⟩,
   ⟨Tryz.underlying51, Tryz.sizeOf51, Tryz.zeroValue51, trivial, by kernel_rfl⟩,
   ⟨⟨_, _, _, Tryz.underlying52⟩, Tryz.sizeOf52, Tryz.zeroValue52, trivial, by kernel_rfl⟩,
   ⟨⟨_, _, _, Tryz.underlying54⟩, Tryz.sizeOf54, Tryz.zeroValue54, trivial, by kernel_rfl⟩,
   ⟨⟨_, _, _, Tryz.underlying55⟩, Tryz.sizeOf55, Tryz.zeroValue55, trivial, by kernel_rfl⟩,
   ⟨⟨_, _, _, Tryz.underlying56⟩, Tryz.sizeOf56, Tryz.zeroValue56, trivial, by kernel_rfl⟩,
   ⟨⟨_, _, _, Tryz.underlying57⟩, Tryz.sizeOf57, Tryz.zeroValue57, trivial, by kernel_rfl⟩,
   ⟨⟨_, _, _, Tryz.underlying58⟩, Tryz.sizeOf58, Tryz.zeroValue58, trivial, by kernel_rfl⟩,
   ⟨⟨_, _, _, Tryz.underlying59⟩, Tryz.sizeOf59, Tryz.zeroValue59, trivial, by kernel_rfl⟩,
   ⟨⟨_, _, _, Tryz.underlying60⟩, Tryz.sizeOf60, Tryz.zeroValue60, trivial, by kernel_rfl⟩,
   ⟨⟨_, Tryz.underlying61, rfl, rfl, Tryz.sizeOf23, rfl, trivial⟩, Tryz.sizeOf61, Tryz.zeroValue61, (by show Tryz.prog.stoodInHeld 61 = false; kernel_rfl), by kernel_rfl⟩,
   ⟨⟨_, Tryz.underlying62, rfl, rfl, Tryz.sizeOf23, rfl, trivial⟩, Tryz.sizeOf62, Tryz.zeroValue62, (by show Tryz.prog.stoodInHeld 62 = false; kernel_rfl), by kernel_rfl⟩,
   ⟨⟨_, _, _, Tryz.underlying63⟩, Tryz.sizeOf63, Tryz.zeroValue63, trivial, by kernel_rfl⟩,
   ⟨⟨_, _, _, Tryz.underlying64⟩, Tryz.sizeOf64, Tryz.zeroValue64, trivial, by kernel_rfl⟩,
   ⟨Tryz.underlying65, Tryz.sizeOf65, Tryz.zeroValue65, trivial, by kernel_rfl⟩,
   ⟨⟨_, _, _, Tryz.underlying66⟩, Tryz.sizeOf66, Tryz.zeroValue66, trivial, by kernel_rfl⟩,
   ⟨Tryz.underlying67, Tryz.sizeOf67, Tryz.zeroValue67, trivial, by kernel_rfl⟩,
   ⟨⟨_, _, _, Tryz.underlying68⟩, Tryz.sizeOf68, Tryz.zeroValue68, trivial, by kernel_rfl⟩,
   ⟨⟨_, _, _, Tryz.underlying69⟩, Tryz.sizeOf69, Tryz.zeroValue69, trivial, by kernel_rfl⟩,
   ⟨⟨_, _, _, Tryz.underlying70⟩, Tryz.sizeOf70, Tryz.zeroValue70, trivial, by kernel_rfl⟩,
   ⟨⟨_, _, _, Tryz.underlying71⟩, Tryz.sizeOf71, Tryz.zeroValue71, trivial, by kernel_rfl⟩,
   ⟨⟨_, Tryz.underlying72, rfl, rfl, Tryz.sizeOf28, rfl, rfl, rfl, Tryz.sizeOf47, rfl, trivial⟩, Tryz.sizeOf72, Tryz.zeroValue72, (by show Tryz.prog.stoodInHeld 72 = false; kernel_rfl), by kernel_rfl⟩,
   ⟨⟨_, Tryz.underlying73, rfl, rfl, Tryz.sizeOf28, rfl, rfl, rfl, Tryz.sizeOf47, rfl, trivial⟩, Tryz.sizeOf73, Tryz.zeroValue73, (by show Tryz.prog.stoodInHeld 73 = false; kernel_rfl), by kernel_rfl⟩,
   ⟨Tryz.underlying74, Tryz.sizeOf74, Tryz.zeroValue74, trivial, by kernel_rfl⟩,
   ⟨⟨_, _, _, Tryz.underlying75⟩, Tryz.sizeOf75, Tryz.zeroValue75, trivial, by kernel_rfl⟩,
   ⟨⟨_, _, _, Tryz.underlying76⟩, Tryz.sizeOf76, Tryz.zeroValue76, trivial, by kernel_rfl⟩,
   ⟨⟨_, _, _, Tryz.underlying77⟩, Tryz.sizeOf77, Tryz.zeroValue77, trivial, by kernel_rfl⟩,
   ⟨⟨_, Tryz.underlying78, rfl, rfl, Tryz.sizeOf28, rfl, rfl, rfl, Tryz.sizeOf47, rfl, trivial⟩, Tryz.sizeOf78, Tryz.zeroValue78, (by show Tryz.prog.stoodInHeld 78 = false; kernel_rfl), by kernel_rfl⟩,
   ⟨⟨_, Tryz.underlying79, rfl, rfl, Tryz.sizeOf78, rfl, trivial⟩, Tryz.sizeOf79, Tryz.zeroValue79, (by show Tryz.prog.stoodInHeld 79 = false; kernel_rfl), by kernel_rfl⟩,
   ⟨⟨_, Tryz.underlying80, rfl, rfl, Tryz.sizeOf78, rfl, trivial⟩, Tryz.sizeOf80, Tryz.zeroValue80, (by show Tryz.prog.stoodInHeld 80 = false; kernel_rfl), by kernel_rfl⟩,
   ⟨⟨_, _, _, Tryz.underlying81⟩, Tryz.sizeOf81, Tryz.zeroValue81, trivial, by kernel_rfl⟩,
   ⟨⟨_, _, _, Tryz.underlying82⟩, Tryz.sizeOf82, Tryz.zeroValue82, trivial, by kernel_rfl⟩,
   ⟨⟨_, _, _, Tryz.underlying83⟩, Tryz.sizeOf83, Tryz.zeroValue83, trivial, by kernel_rfl⟩,
   ⟨⟨_, _, _, Tryz.underlying84⟩, Tryz.sizeOf84, Tryz.zeroValue84, trivial, by kernel_rfl⟩,
   ⟨⟨_, Tryz.underlying85, rfl, rfl, Tryz.sizeOf3, rfl, rfl, rfl, Tryz.sizeOf3, rfl, rfl, rfl, Tryz.sizeOf28, rfl, trivial⟩, Tryz.sizeOf85, Tryz.zeroValue85, (by show Tryz.prog.stoodInHeld 85 = false; kernel_rfl), by kernel_rfl⟩,
   ⟨⟨_, Tryz.underlying86, rfl, rfl, Tryz.sizeOf3, rfl, rfl, rfl, Tryz.sizeOf3, rfl, rfl, rfl, Tryz.sizeOf28, rfl, trivial⟩, Tryz.sizeOf86, Tryz.zeroValue86, (by show Tryz.prog.stoodInHeld 86 = false; kernel_rfl), by kernel_rfl⟩,
   ⟨⟨_, Tryz.underlying87, rfl, rfl, Tryz.sizeOf23, rfl, trivial⟩, Tryz.sizeOf87, Tryz.zeroValue87, (by show Tryz.prog.stoodInHeld 87 = false; kernel_rfl), by kernel_rfl⟩,
   ⟨⟨_, Tryz.underlying88, rfl, rfl, Tryz.sizeOf23, rfl, trivial⟩, Tryz.sizeOf88, Tryz.zeroValue88, (by show Tryz.prog.stoodInHeld 88 = false; kernel_rfl), by kernel_rfl⟩,
   ⟨⟨_, _, _, Tryz.underlying89⟩, Tryz.sizeOf89, Tryz.zeroValue89, trivial, by kernel_rfl⟩,
   ⟨⟨_, _, _, Tryz.underlying90⟩, Tryz.sizeOf90, Tryz.zeroValue90, trivial, by kernel_rfl⟩,
   ⟨⟨_, _, _, Tryz.underlying91⟩, Tryz.sizeOf91, Tryz.zeroValue91, trivial, by kernel_rfl⟩,
   ⟨⟨_, Tryz.underlying92, rfl, rfl, Tryz.sizeOf35, rfl, trivial⟩, Tryz.sizeOf92, Tryz.zeroValue92, (by show Tryz.prog.stoodInHeld 92 = false; kernel_rfl), by kernel_rfl⟩,
   ⟨⟨_, Tryz.underlying93, rfl, rfl, Tryz.sizeOf35, rfl, trivial⟩, Tryz.sizeOf93, Tryz.zeroValue93, (by show Tryz.prog.stoodInHeld 93 = false; kernel_rfl), by kernel_rfl⟩,
   ⟨⟨_, Tryz.underlying94, rfl, rfl, Tryz.sizeOf93, rfl, rfl, rfl, Tryz.sizeOf4, rfl, rfl, rfl, Tryz.sizeOf28, rfl, rfl, rfl, Tryz.sizeOf3, rfl, trivial⟩, Tryz.sizeOf94, Tryz.zeroValue94, (by show Tryz.prog.stoodInHeld 94 = false; kernel_rfl), by kernel_rfl⟩,
   ⟨⟨_, Tryz.underlying95, rfl, rfl, Tryz.sizeOf93, rfl, rfl, rfl, Tryz.sizeOf4, rfl, rfl, rfl, Tryz.sizeOf28, rfl, rfl, rfl, Tryz.sizeOf3, rfl, trivial⟩, Tryz.sizeOf95, Tryz.zeroValue95, (by show Tryz.prog.stoodInHeld 95 = false; kernel_rfl), by kernel_rfl⟩,
   ⟨⟨_, _, _, Tryz.underlying96⟩, Tryz.sizeOf96, Tryz.zeroValue96, trivial, by kernel_rfl⟩,
   ⟨Tryz.underlying97, Tryz.sizeOf97, Tryz.zeroValue97, trivial, by kernel_rfl⟩,
   ⟨⟨_, _, _, Tryz.underlying98⟩, Tryz.sizeOf98, Tryz.zeroValue98, trivial, by kernel_rfl⟩,
   ⟨Tryz.underlying99, Tryz.sizeOf99, Tryz.zeroValue99, trivial, by kernel_rfl⟩,
   ⟨⟨_, _, _, Tryz.underlying100⟩, Tryz.sizeOf100, Tryz.zeroValue100, trivial, by kernel_rfl⟩,
   ⟨⟨_, _, _, Tryz.underlying101⟩, Tryz.sizeOf101, Tryz.zeroValue101, trivial, by kernel_rfl⟩,
   ⟨⟨_, _, _, Tryz.underlying102⟩, Tryz.sizeOf102, Tryz.zeroValue102, trivial, by kernel_rfl⟩,
   ⟨⟨_, _, _, Tryz.underlying103⟩, Tryz.sizeOf103, Tryz.zeroValue103, trivial, by kernel_rfl⟩,
   ⟨⟨_, Tryz.underlying104, rfl, rfl, Tryz.sizeOf3, rfl, rfl, rfl, Tryz.sizeOf3, rfl, rfl, rfl, Tryz.sizeOf28, rfl, trivial⟩, Tryz.sizeOf104, Tryz.zeroValue104, (by show Tryz.prog.stoodInHeld 104 = false; kernel_rfl), by kernel_rfl⟩,
   ⟨Tryz.underlying105, Tryz.sizeOf105, Tryz.zeroValue105, trivial, by kernel_rfl⟩,
   ⟨⟨_, _, _, Tryz.underlying106⟩, Tryz.sizeOf106, Tryz.zeroValue106, trivial, by kernel_rfl⟩,
   ⟨Tryz.underlying107, Tryz.sizeOf107, Tryz.zeroValue107, trivial, by kernel_rfl⟩,
   ⟨⟨_, _, _, Tryz.underlying108⟩, Tryz.sizeOf108, Tryz.zeroValue108, trivial, by kernel_rfl⟩,
   ⟨⟨_, _, _, Tryz.underlying109⟩, Tryz.sizeOf109, Tryz.zeroValue109, trivial, by kernel_rfl⟩,
   ⟨⟨_, _, _, Tryz.underlying110⟩, Tryz.sizeOf110, Tryz.zeroValue110, trivial, by kernel_rfl⟩,
   ⟨⟨_, _, _, Tryz.underlying111⟩, Tryz.sizeOf111, Tryz.zeroValue111, trivial, by kernel_rfl⟩,
   ⟨⟨_, _, _, Tryz.underlying112⟩, Tryz.sizeOf112, Tryz.zeroValue112, trivial, by kernel_rfl⟩,
   ⟨⟨_, _, _, Tryz.underlying113⟩, Tryz.sizeOf113, Tryz.zeroValue113, trivial, by kernel_rfl⟩,
   ⟨Tryz.underlying114, Tryz.sizeOf114, Tryz.zeroValue114, trivial, by kernel_rfl⟩,
   ⟨⟨_, _, _, Tryz.underlying115⟩, Tryz.sizeOf115, Tryz.zeroValue115, trivial, by kernel_rfl⟩,
   ⟨⟨_, _, _, Tryz.underlying116⟩, Tryz.sizeOf116, Tryz.zeroValue116, trivial, by kernel_rfl⟩,
   ⟨Tryz.underlying117, Tryz.sizeOf117, Tryz.zeroValue117, trivial, by kernel_rfl⟩,
   ⟨⟨_, _, _, Tryz.underlying118⟩, Tryz.sizeOf118, Tryz.zeroValue118, trivial, by kernel_rfl⟩,
   ⟨⟨_, _, _, Tryz.underlying119⟩, Tryz.sizeOf119, Tryz.zeroValue119, trivial, by kernel_rfl⟩,
   ⟨⟨_, _, _, Tryz.underlying120⟩, Tryz.sizeOf120, Tryz.zeroValue120, trivial, by kernel_rfl⟩,
   ⟨⟨_, _, _, Tryz.underlying121⟩, Tryz.sizeOf121, Tryz.zeroValue121, trivial, by kernel_rfl⟩,
   ⟨⟨_, _, _, Tryz.underlying122⟩, Tryz.sizeOf122, Tryz.zeroValue122, trivial, by kernel_rfl⟩,
   ⟨⟨_, _, _, Tryz.underlying123⟩, Tryz.sizeOf123, Tryz.zeroValue123, trivial, by kernel_rfl⟩,
   ⟨Tryz.underlying124, Tryz.sizeOf124, Tryz.zeroValue124, trivial, by kernel_rfl⟩,
   ⟨⟨_, _, _, Tryz.underlying125⟩, Tryz.sizeOf125, Tryz.zeroValue125, trivial, by kernel_rfl⟩,
   ⟨⟨_, _, _, Tryz.underlying126⟩, Tryz.sizeOf126, Tryz.zeroValue126, trivial, by kernel_rfl⟩,
   ⟨⟨_, _, _, Tryz.underlying128⟩, Tryz.sizeOf128, Tryz.zeroValue128, trivial, by kernel_rfl⟩,
   ⟨⟨_, _, _, Tryz.underlying129⟩, Tryz.sizeOf129, Tryz.zeroValue129, trivial, by kernel_rfl⟩,
   ⟨⟨_, _, _, Tryz.underlying130⟩, Tryz.sizeOf130, Tryz.zeroValue130, trivial, by kernel_rfl⟩,
   ⟨Tryz.underlying131, Tryz.sizeOf131, Tryz.zeroValue131, trivial, by kernel_rfl⟩,
   ⟨⟨_, _, _, Tryz.underlying132⟩, Tryz.sizeOf132, Tryz.zeroValue132, trivial, by kernel_rfl⟩,
   ⟨⟨_, _, _, Tryz.underlying133⟩, Tryz.sizeOf133, Tryz.zeroValue133, trivial, by kernel_rfl⟩,
   ⟨⟨_, _, _, Tryz.underlying134⟩, Tryz.sizeOf134, Tryz.zeroValue134, trivial, by kernel_rfl⟩,
   ⟨⟨_, _, _, Tryz.underlying135⟩, Tryz.sizeOf135, Tryz.zeroValue135, trivial, by kernel_rfl⟩,
   ⟨⟨_, _, _, Tryz.underlying136⟩, Tryz.sizeOf136, Tryz.zeroValue136, trivial, by kernel_rfl⟩,
   ⟨⟨_, _, _, Tryz.underlying137⟩, Tryz.sizeOf137, Tryz.zeroValue137, trivial, by kernel_rfl⟩,
   ⟨⟨_, _, _, Tryz.underlying138⟩, Tryz.sizeOf138, Tryz.zeroValue138, trivial, by kernel_rfl⟩,
   ⟨⟨_, _, _, Tryz.underlying139⟩, Tryz.sizeOf139, Tryz.zeroValue139, trivial, by kernel_rfl⟩,
   ⟨⟨_, _, _, Tryz.underlying140⟩, Tryz.sizeOf140, Tryz.zeroValue140, trivial, by kernel_rfl⟩,
   ⟨⟨_, _, _, Tryz.underlying141⟩, Tryz.sizeOf141, Tryz.zeroValue141, trivial, by kernel_rfl⟩,
   ⟨Tryz.underlying142, Tryz.sizeOf142, Tryz.zeroValue142, trivial, by kernel_rfl⟩,
   ⟨⟨_, _, _, Tryz.underlying144⟩, Tryz.sizeOf144, Tryz.zeroValue144, trivial, by kernel_rfl⟩,
   ⟨⟨_, _, _, Tryz.underlying145⟩, Tryz.sizeOf145, Tryz.zeroValue145, trivial, by kernel_rfl⟩,
   ⟨⟨_, _, _, Tryz.underlying146⟩, Tryz.sizeOf146, Tryz.zeroValue146, trivial, by kernel_rfl⟩,
   ⟨⟨_, _, _, Tryz.underlying147⟩, Tryz.sizeOf147, Tryz.zeroValue147, trivial, by kernel_rfl⟩,
   ⟨⟨_, _, _, Tryz.underlying148⟩, Tryz.sizeOf148, Tryz.zeroValue148, trivial, by kernel_rfl⟩,
   ⟨⟨_, _, _, Tryz.underlying149⟩, Tryz.sizeOf149, Tryz.zeroValue149, trivial, by kernel_rfl⟩,
   ⟨⟨_, _, _, Tryz.underlying150⟩, Tryz.sizeOf150, Tryz.zeroValue150, trivial, by kernel_rfl⟩,
   ⟨⟨_, _, _, Tryz.underlying151⟩, Tryz.sizeOf151, Tryz.zeroValue151, trivial, by kernel_rfl⟩,
   ⟨Tryz.underlying152, Tryz.sizeOf152, Tryz.zeroValue152, trivial, by kernel_rfl⟩,
   ⟨⟨_, _, _, Tryz.underlying153⟩, Tryz.sizeOf153, Tryz.zeroValue153, trivial, by kernel_rfl⟩,
   ⟨⟨_, _, _, Tryz.underlying154⟩, Tryz.sizeOf154, Tryz.zeroValue154, trivial, by kernel_rfl⟩,
   ⟨⟨_, _, _, Tryz.underlying155⟩, Tryz.sizeOf155, Tryz.zeroValue155, trivial, by kernel_rfl⟩,
   ⟨Tryz.underlying156, Tryz.sizeOf156, Tryz.zeroValue156, trivial, by kernel_rfl⟩,
   ⟨⟨_, _, _, Tryz.underlying157⟩, Tryz.sizeOf157, Tryz.zeroValue157, trivial, by kernel_rfl⟩,
   ⟨Tryz.underlying158, Tryz.sizeOf158, Tryz.zeroValue158, trivial, by kernel_rfl⟩,
   ⟨⟨_, _, _, Tryz.underlying160⟩, Tryz.sizeOf160, Tryz.zeroValue160, trivial, by kernel_rfl⟩,
   ⟨⟨_, _, _, Tryz.underlying161⟩, Tryz.sizeOf161, Tryz.zeroValue161, trivial, by kernel_rfl⟩,
   ⟨Tryz.underlying167, Tryz.sizeOf167, Tryz.zeroValue167, trivial, by kernel_rfl⟩,
   ⟨Tryz.underlying168, Tryz.sizeOf168, Tryz.zeroValue168, trivial, by kernel_rfl⟩,
   ⟨⟨_, _, _, Tryz.underlying169⟩, Tryz.sizeOf169, Tryz.zeroValue169, trivial, by kernel_rfl⟩,
   ⟨Tryz.underlying170, Tryz.sizeOf170, Tryz.zeroValue170, trivial, by kernel_rfl⟩,
   ⟨Tryz.underlying171, Tryz.sizeOf171, Tryz.zeroValue171, trivial, by kernel_rfl⟩,
   ⟨Tryz.underlying172, Tryz.sizeOf172, Tryz.zeroValue172, trivial, by kernel_rfl⟩,
   ⟨⟨_, _, _, Tryz.underlying175⟩, Tryz.sizeOf175, Tryz.zeroValue175, trivial, by kernel_rfl⟩,
   trivial⟩
theorem fnsGood : FGoods Tryz.prog [3, 4, 5, 6, 7, 8, 9, 10, 11, 12, 13, 14, 15, 16, 17, 18, 19, 20, 21, 22, 23, 24, 25, 26, 27, 28, 29, 30, 31, 32, 33, 34, 35, 36, 37, 38, 39, 40, 41, 42, 43, 44, 45, 46, 47, 48, 49, 50, 51, 52, 53, 54, 55, 56, 57, 58, 59, 60, 61, 62, 63, 64, 65, 66, 67, 68, 69, 70, 71, 72, 73, 74, 75, 76, 77, 78, 79, 80, 81, 82, 83, 84, 85, 86, 87, 88, 89, 90, 91, 92, 93, 94, 95, 96, 97, 98, 99, 100, 101] :=
  ⟨enters_of Tryz.func3 (by kernel_rfl) rfl,
   enters_of Tryz.func4 (by kernel_rfl) rfl,
   enters_of Tryz.func5 (by kernel_rfl) rfl,
   enters_of Tryz.func6 (by kernel_rfl) rfl,
   enters_of Tryz.func7 (by kernel_rfl) rfl,
   enters_of Tryz.func8 (by kernel_rfl) rfl,
   enters_of Tryz.func9 (by kernel_rfl) rfl,
   enters_of Tryz.func10 (by kernel_rfl) rfl,
   enters_of Tryz.func11 (by kernel_rfl) rfl,
   enters_of Tryz.func12 (by kernel_rfl) rfl,
   enters_of Tryz.func13 (by kernel_rfl) rfl,
   enters_of Tryz.func14 (by kernel_rfl) rfl,
   enters_of Tryz.func15 (by kernel_rfl) rfl,
   enters_of Tryz.func16 (by kernel_rfl) rfl,
   enters_of Tryz.func17 (by kernel_rfl) rfl,
   enters_of Tryz.func18 (by kernel_rfl) rfl,
   enters_of Tryz.func19 (by kernel_rfl) rfl,
   enters_of Tryz.func20 (by kernel_rfl) rfl,
   enters_of Tryz.func21 (by kernel_rfl) rfl,
   enters_of Tryz.func22 (by kernel_rfl) rfl,
   enters_of Tryz.func23 (by kernel_rfl) rfl,
   enters_of Tryz.func24 (by kernel_rfl) rfl,
   enters_of Tryz.func25 (by kernel_rfl) rfl,
   enters_of Tryz.func26 (by kernel_rfl) rfl,
   enters_of Tryz.func27 (by kernel_rfl) rfl,
   enters_of Tryz.func28 (by kernel_rfl) rfl,
   enters_of Tryz.func29 (by kernel_rfl) rfl,
   enters_of Tryz.func30 (by kernel_rfl) rfl,
   enters_of Tryz.func31 (by kernel_rfl) rfl,
   enters_of Tryz.func32 (by kernel_rfl) rfl,
   enters_of Tryz.func33 (by kernel_rfl) rfl,
   enters_of Tryz.func34 (by kernel_rfl) rfl,
   enters_of Tryz.func35 (by kernel_rfl) rfl,
   enters_of Tryz.func36 (by kernel_rfl) rfl,
   enters_of Tryz.func37 (by kernel_rfl) rfl,
   enters_of Tryz.func38 (by kernel_rfl) rfl,
   enters_of Tryz.func39 (by kernel_rfl) rfl,
   enters_of Tryz.func40 (by kernel_rfl) rfl,
   enters_of Tryz.func41 (by kernel_rfl) rfl,
   enters_of Tryz.func42 (by kernel_rfl) rfl,
   enters_of Tryz.func43 (by kernel_rfl) rfl,
   enters_of Tryz.func44 (by kernel_rfl) rfl,
   enters_of Tryz.func45 (by kernel_rfl) rfl,
   enters_of Tryz.func46 (by kernel_rfl) rfl,
   enters_of Tryz.func47 (by kernel_rfl) rfl,
   enters_of Tryz.func48 (by kernel_rfl) rfl,
   enters_of Tryz.func49 (by kernel_rfl) rfl,
   enters_of Tryz.func50 (by kernel_rfl) rfl,
   enters_of Tryz.func51 (by kernel_rfl) rfl,
   enters_of Tryz.func52 (by kernel_rfl) rfl,
   enters_of Tryz.func53 (by kernel_rfl) rfl,
   enters_of Tryz.func54 (by kernel_rfl) rfl,
   enters_of Tryz.func55 (by kernel_rfl) rfl,
   enters_of Tryz.func56 (by kernel_rfl) rfl,
   enters_of Tryz.func57 (by kernel_rfl) rfl,
   enters_of Tryz.func58 (by kernel_rfl) rfl,
   enters_of Tryz.func59 (by kernel_rfl) rfl,
   enters_of Tryz.func60 (by kernel_rfl) rfl,
   enters_of Tryz.func61 (by kernel_rfl) rfl,
   enters_of Tryz.func62 (by kernel_rfl) rfl,
   enters_of Tryz.func63 (by kernel_rfl) rfl,
   enters_of Tryz.func64 (by kernel_rfl) rfl,
   enters_of Tryz.func65 (by kernel_rfl) rfl,
   enters_of Tryz.func66 (by kernel_rfl) rfl,
   enters_of Tryz.func67 (by kernel_rfl) rfl,
   enters_of Tryz.func68 (by kernel_rfl) rfl,
   enters_of Tryz.func69 (by kernel_rfl) rfl,
   enters_of Tryz.func70 (by kernel_rfl) rfl,
   enters_of Tryz.func71 (by kernel_rfl) rfl,
   enters_of Tryz.func72 (by kernel_rfl) rfl,
   enters_of Tryz.func73 (by kernel_rfl) rfl,
   enters_of Tryz.func74 (by kernel_rfl) rfl,
   enters_of Tryz.func75 (by kernel_rfl) rfl,
   enters_of Tryz.func76 (by kernel_rfl) rfl,
   enters_of Tryz.func77 (by kernel_rfl) rfl,
   enters_of Tryz.func78 (by kernel_rfl) rfl,
   enters_of Tryz.func79 (by kernel_rfl) rfl,
   enters_of Tryz.func80 (by kernel_rfl) rfl,
   enters_of Tryz.func81 (by kernel_rfl) rfl,
   enters_of Tryz.func82 (by kernel_rfl) rfl,
   enters_of Tryz.func83 (by kernel_rfl) rfl,
   enters_of Tryz.func84 (by kernel_rfl) rfl,
   enters_of Tryz.func85 (by kernel_rfl) rfl,
   enters_of Tryz.func86 (by kernel_rfl) rfl,
   enters_of Tryz.func87 (by kernel_rfl) rfl,
   enters_of Tryz.func88 (by kernel_rfl) rfl,
   enters_of Tryz.func89 (by kernel_rfl) rfl,
   enters_of Tryz.func90 (by kernel_rfl) rfl,
   enters_of Tryz.func91 (by kernel_rfl) rfl,
   enters_of Tryz.func92 (by kernel_rfl) rfl,
   enters_of Tryz.func93 (by kernel_rfl) rfl,
   enters_of Tryz.func94 (by kernel_rfl) rfl,
   enters_of Tryz.func95 (by kernel_rfl) rfl,
   enters_of Tryz.func96 (by kernel_rfl) rfl,
   enters_of Tryz.func97 (by kernel_rfl) rfl,
   enters_of Tryz.func98 (by kernel_rfl) rfl,
   enters_of Tryz.func99 (by kernel_rfl) rfl,
   enters_of Tryz.func100 (by kernel_rfl) rfl,
   enters_of Tryz.func101 (by kernel_rfl) rfl, trivial⟩
theorem mixGood : Tryz.prog.follows .mixedOrders = true := by kernel_rfl
def tb : Tb Tryz.prog := { rows := rowsTab, good := rowsGood, fns := [3, 4, 5, 6, 7, 8, 9, 10, 11, 12, 13, 14, 15, 16, 17, 18, 19, 20, 21, 22, 23, 24, 25, 26, 27, 28, 29, 30, 31, 32, 33, 34, 35, 36, 37, 38, 39, 40, 41, 42, 43, 44, 45, 46, 47, 48, 49, 50, 51, 52, 53, 54, 55, 56, 57, 58, 59, 60, 61, 62, 63, 64, 65, 66, 67, 68, 69, 70, 71, 72, 73, 74, 75, 76, 77, 78, 79, 80, 81, 82, 83, 84, 85, 86, 87, 88, 89, 90, 91, 92, 93, 94, 95, 96, 97, 98, 99, 100, 101], fgood := fnsGood, mix := mixGood, deep := Nat.le_of_ble_eq_true (by kernel_rfl) }
end Go.Proofs.YtligpachgcmkcaaGreat
set_option linter.unusedSimpArgs false
set_option linter.unusedVariables false
namespace Go.Proofs.YtligpachgcmkcaaGreat
open Go.RowKit Go.Shelf
set_option maxRecDepth 100000
def u8V (x : Int) : List Value := [.int .u8 x]
theorem u8V_len (x : Int) : (u8V x).length = 1 := rfl
theorem fl_u8 (bs : List Int) : fl u8V bs = u8s bs := by
  unfold fl u8s
  induction bs with
  | nil => rfl
  | cons a l ih => simp only [List.map_cons, List.flatten_cons, ih]; rfl
def Byt (bs : List Int) : Prop := ∀ x ∈ bs, 0 ≤ x ∧ x ≤ 255
theorem rot_ok (x k s p q : Int) (h : andI .u64 (IntKind.u64.wrap k) 31 = s) (h0 : 0 < s) (h1 : s < 32) (hq : pw s.toNat = q) (hp : pw (32 - s).toNat = p) : CallP Tryz.prog 82 [.int .u32 x, .int .i64 k] (.int .u32 (rotr x p q)) := by
  refine enterP (tb := tb) Tryz.func82 rfl Tryz.ntmps82 rfl fun w => ?_
  have hs32 : s.toNat ≤ IntKind.u32.bits := by show s.toNat ≤ 32; omega
  have hs33 : (32 - s).toNat ≤ IntKind.u32.bits := by show (32 - s).toNat ≤ 32; omega
  repeat' (first | (apply R.is1; first | (apply R.isBin; first | (apply R.pure; exact rfl; first | (apply Ok1.andE; exact rfl; exact rfl; exact h) | (apply Ok1.subU; exact rfl; exact rfl; omega; omega) | (apply Ok1.shl; exact rfl; exact rfl; omega; exact hs32; exact hq) | (apply Ok1.shr; exact rfl; exact rfl; omega; exact hs33; exact hp) | (apply Ok1.orK; exact rfl; exact rfl) | (apply Ok1.sub64; exact rfl; exact rfl; omega; omega) | (apply Ok1.shr; exact rfl; exact rfl; omega; exact Nat.le_of_ble_eq_true rfl; (first | exact pwE1 | exact pwE2 | exact pwE3 | exact pwE4 | exact pwE5 | exact pwE6 | exact pwE7 | exact pwE8 | exact pwE16 | exact pwE24 | exact pwE32 | exact rfl)))) | (apply R.pure; exact rfl; first | (apply Ok1.move; exact rfl) | (apply Ok1.assign; exact rfl) | (apply Ok1.convI64; (iterate 5 exact rfl); omega; omega) | (apply Ok1.convU64; (iterate 5 exact rfl); omega; omega) | (apply Ok1.convU32; (iterate 5 exact rfl); omega; omega) | (apply Ok1.convU8; (iterate 5 exact rfl); omega; omega) | (apply Ok1.conv; (iterate 5 exact rfl)))) | (apply R.is0; first | fail) | (apply R.isG; first | (apply R.guard_run; exact rfl; exact rfl) | (apply R.guard_not; (iterate 3 exact rfl)) | (apply R.guard_not0; exact rfl; exact rfl) | (apply R.guard_un; (iterate 3 exact rfl)) | (apply R.guard_un0; exact rfl; exact rfl) | (apply R.guard rfl rfl ?_ (fun h => ⟨rfl, ?_⟩) <;> try intro)) | apply R.nil | (apply T.is; first | apply T.seq | apply T.region | apply T.block | apply T.scope | apply T.label | apply T.skip | apply T.exit | apply T.ret | (apply T.cond_t; exact rfl) | (apply T.cond_f; exact rfl) | (apply T.cond_h; exact rfl; assumption) | (apply T.cond_n; exact rfl; assumption) | (apply T.cond rfl <;> intro)) | apply Rnd.step)
  (apply RetOk.t; exact rfl)
  rfl
theorem turnedA_ok (x : Int) : CallP Tryz.prog 81 [.int .u32 x, .int .i64 6, .int .i64 11, .int .i64 25] (.int .u32 (turned x 64 67108864 2048 2097152 33554432 128)) := by
  refine enterP (tb := tb) Tryz.func81 rfl Tryz.ntmps81 rfl fun w => ?_
  repeat' (first | (apply R.is1; first | (apply R.isBin; first | (apply R.pure; exact rfl; first | (apply Ok1.xorK; exact rfl; exact rfl))) | (apply R.isCall; first | apply R.callP rfl rfl rfl (rot_ok x (IntKind.i64.wrap (0 - 6)) 26 64 67108864 (by decide +kernel) (by decide) (by decide) rfl rfl) | apply R.callP rfl rfl rfl (rot_ok x (IntKind.i64.wrap (0 - 11)) 21 2048 2097152 (by decide +kernel) (by decide) (by decide) rfl rfl) | apply R.callP rfl rfl rfl (rot_ok x (IntKind.i64.wrap (0 - 25)) 7 33554432 128 (by decide +kernel) (by decide) (by decide) rfl rfl)) | (apply R.pure; exact rfl; first | (apply Ok1.move; exact rfl) | (apply Ok1.assign; exact rfl) | (apply Ok1.not_t; exact rfl) | (apply Ok1.not_f; exact rfl) | (apply Ok1.not; exact rfl) | (apply Ok1.neg; exact rfl))) | (apply R.is0; first | fail) | (apply R.isG; first | (apply R.guard_run; exact rfl; exact rfl) | (apply R.guard_not; (iterate 3 exact rfl)) | (apply R.guard_not0; exact rfl; exact rfl) | (apply R.guard_un; (iterate 3 exact rfl)) | (apply R.guard_un0; exact rfl; exact rfl) | (apply R.guard rfl rfl ?_ (fun h => ⟨rfl, ?_⟩) <;> try intro)) | apply R.nil | (apply T.is; first | apply T.seq | apply T.region | apply T.block | apply T.scope | apply T.label | apply T.skip | apply T.exit | apply T.ret | (apply T.cond_t; exact rfl) | (apply T.cond_f; exact rfl) | (apply T.cond_h; exact rfl; assumption) | (apply T.cond_n; exact rfl; assumption) | (apply T.cond rfl <;> intro)) | apply Rnd.step)
  (apply RetOk.t; exact rfl)
  rfl
theorem turnedB_ok (x : Int) : CallP Tryz.prog 81 [.int .u32 x, .int .i64 2, .int .i64 13, .int .i64 22] (.int .u32 (turned x 4 1073741824 8192 524288 4194304 1024)) := by
  refine enterP (tb := tb) Tryz.func81 rfl Tryz.ntmps81 rfl fun w => ?_
  repeat' (first | (apply R.is1; first | (apply R.isBin; first | (apply R.pure; exact rfl; first | (apply Ok1.xorK; exact rfl; exact rfl))) | (apply R.isCall; first | apply R.callP rfl rfl rfl (rot_ok x (IntKind.i64.wrap (0 - 2)) 30 4 1073741824 (by decide +kernel) (by decide) (by decide) rfl rfl) | apply R.callP rfl rfl rfl (rot_ok x (IntKind.i64.wrap (0 - 13)) 19 8192 524288 (by decide +kernel) (by decide) (by decide) rfl rfl) | apply R.callP rfl rfl rfl (rot_ok x (IntKind.i64.wrap (0 - 22)) 10 4194304 1024 (by decide +kernel) (by decide) (by decide) rfl rfl)) | (apply R.pure; exact rfl; first | (apply Ok1.move; exact rfl) | (apply Ok1.assign; exact rfl) | (apply Ok1.not_t; exact rfl) | (apply Ok1.not_f; exact rfl) | (apply Ok1.not; exact rfl) | (apply Ok1.neg; exact rfl))) | (apply R.is0; first | fail) | (apply R.isG; first | (apply R.guard_run; exact rfl; exact rfl) | (apply R.guard_not; (iterate 3 exact rfl)) | (apply R.guard_not0; exact rfl; exact rfl) | (apply R.guard_un; (iterate 3 exact rfl)) | (apply R.guard_un0; exact rfl; exact rfl) | (apply R.guard rfl rfl ?_ (fun h => ⟨rfl, ?_⟩) <;> try intro)) | apply R.nil | (apply T.is; first | apply T.seq | apply T.region | apply T.block | apply T.scope | apply T.label | apply T.skip | apply T.exit | apply T.ret | (apply T.cond_t; exact rfl) | (apply T.cond_f; exact rfl) | (apply T.cond_h; exact rfl; assumption) | (apply T.cond_n; exact rfl; assumption) | (apply T.cond rfl <;> intro)) | apply Rnd.step)
  (apply RetOk.t; exact rfl)
  rfl
theorem table_ok : CallP Tryz.prog 80 [] (.agg ⟨u32s kI⟩) := by
  refine enterP (tb := tb) Tryz.func80 rfl Tryz.ntmps80 rfl fun w => ?_
  repeat' (first | (apply R.is1; first | (apply R.pure; exact rfl; first | (apply Ok1.build; (iterate 5 exact rfl)) | (apply Ok1.buildA; (iterate 6 exact rfl))) | (apply R.alloc; (iterate 3 exact rfl); intro)) | (apply R.is0; first | (apply R.store; (iterate 6 exact rfl); (focus ((repeat' (first | exact Upd.head | apply Upd.tail | apply Upd.right)); done)); exact rfl) | fail) | (apply R.isG; first | (apply R.guard_run; exact rfl; exact rfl) | (apply R.guard_not; (iterate 3 exact rfl)) | (apply R.guard_not0; exact rfl; exact rfl) | (apply R.guard_un; (iterate 3 exact rfl)) | (apply R.guard_un0; exact rfl; exact rfl) | (apply R.guard rfl rfl ?_ (fun h => ⟨rfl, ?_⟩) <;> try intro)) | apply R.nil | (apply T.is; first | apply T.seq | apply T.region | apply T.block | apply T.scope | apply T.label | apply T.skip | apply T.exit | apply T.ret | (apply T.cond_t; exact rfl) | (apply T.cond_f; exact rfl) | (apply T.cond_h; exact rfl; assumption) | (apply T.cond_n; exact rfl; assumption) | (apply T.cond rfl <;> intro)) | apply Rnd.step)
  (apply RetOk.c; exact rfl; (first | (apply Ld.ownk; exact rfl; exact rfl; (focus ((repeat' (first | exact At.head | apply At.tail | apply At.right)); done)); exact rfl) | (apply Ld.own1; exact rfl; exact rfl; (focus ((repeat' (first | exact At.head | apply At.tail | apply At.right)); done)); exact rfl)))
  rfl
theorem begun_ok : CallP Tryz.prog 57 [] (.agg ⟨h0I.v⟩) := by
  refine enterP (tb := tb) Tryz.func57 rfl Tryz.ntmps57 rfl fun w => ?_
  repeat' (first | (apply R.is1; first | (apply R.pure; exact rfl; first | (apply Ok1.build; (iterate 5 exact rfl)) | (apply Ok1.buildA; (iterate 6 exact rfl))) | (apply R.alloc; (iterate 3 exact rfl); intro)) | (apply R.is0; first | (apply R.store; (iterate 6 exact rfl); (focus ((repeat' (first | exact Upd.head | apply Upd.tail | apply Upd.right)); done)); exact rfl) | fail) | (apply R.isG; first | (apply R.guard_run; exact rfl; exact rfl) | (apply R.guard_not; (iterate 3 exact rfl)) | (apply R.guard_not0; exact rfl; exact rfl) | (apply R.guard_un; (iterate 3 exact rfl)) | (apply R.guard_un0; exact rfl; exact rfl) | (apply R.guard rfl rfl ?_ (fun h => ⟨rfl, ?_⟩) <;> try intro)) | apply R.nil | (apply T.is; first | apply T.seq | apply T.region | apply T.block | apply T.scope | apply T.label | apply T.skip | apply T.exit | apply T.ret | (apply T.cond_t; exact rfl) | (apply T.cond_f; exact rfl) | (apply T.cond_h; exact rfl; assumption) | (apply T.cond_n; exact rfl; assumption) | (apply T.cond rfl <;> intro)) | apply Rnd.step)
  (apply RetOk.c; exact rfl; (first | (apply Ld.ownk; exact rfl; exact rfl; (focus ((repeat' (first | exact At.head | apply At.tail | apply At.right)); done)); exact rfl) | (apply Ld.own1; exact rfl; exact rfl; (focus ((repeat' (first | exact At.head | apply At.tail | apply At.right)); done)); exact rfl)))
  rfl
theorem byt_get {bs : List Int} (hb : Byt bs) {i : Nat} (h : i < bs.length) : ∃ x, bs[i]? = some x ∧ bs.getD i 0 = x ∧ 0 ≤ x ∧ x ≤ 255 := ⟨bs[i], List.getElem?_eq_getElem h, by simp [h], hb _ (List.getElem_mem h)⟩
theorem word_ok (p : Option Addr) (n cap : Nat) (bs : List Int) (hn : n = bs.length) (hl : 4 ≤ bs.length) (hb : Byt bs) (w : World) (hp : RdSl w p u8V bs) : CallW Tryz.prog 94 [.slice p n cap] w fun v _ => v = .int .u32 (wordI (bs.getD 0 0) (bs.getD 1 0) (bs.getD 2 0) (bs.getD 3 0)) := by
  subst hn
  obtain ⟨x0, h0, g0, l0, u0⟩ := byt_get hb (i := 0) (by omega)
  obtain ⟨x1, h1, g1, l1, u1⟩ := byt_get hb (i := 1) (by omega)
  obtain ⟨x2, h2, g2, l2, u2⟩ := byt_get hb (i := 2) (by omega)
  obtain ⟨x3, h3, g3, l3, u3⟩ := byt_get hb (i := 3) (by omega)
  rw [g0, g1, g2, g3]
  obtain ⟨b, o, hpe, H0⟩ := hp.at h0
  replace H0 := H0 1 u8V_len
  obtain ⟨b', o', hpe1, H1⟩ := hp.at h1
  replace H1 := H1 1 u8V_len
  rw [hpe] at hpe1; cases hpe1
  obtain ⟨b', o', hpe1, H2⟩ := hp.at h2
  replace H2 := H2 1 u8V_len
  rw [hpe] at hpe1; cases hpe1
  obtain ⟨b', o', hpe1, H3⟩ := hp.at h3
  replace H3 := H3 1 u8V_len
  rw [hpe] at hpe1; cases hpe1
  refine enterW (tb := tb) Tryz.func94 rfl Tryz.ntmps94 rfl ?_
  repeat' (first | (apply R.is1; first | (apply R.isBin; first | (apply R.pure; exact rfl; first | (apply Ok1.shl; exact rfl; exact rfl; omega; exact Nat.le_of_ble_eq_true rfl; exact rfl) | (apply Ok1.orK; exact rfl; exact rfl))) | (apply R.pure; exact rfl; first | (apply Ok1.indexAddrP; (iterate 4 exact rfl); exact hpe; exact rfl; omega; omega) | (apply Ok1.load; exact rfl; apply Ld.row0 H0; exact rfl; exact List.not_mem_nil; (iterate 3 exact rfl)) | (apply Ok1.load; exact rfl; apply Ld.row0 H1; exact rfl; exact List.not_mem_nil; (iterate 3 exact rfl)) | (apply Ok1.load; exact rfl; apply Ld.row0 H2; exact rfl; exact List.not_mem_nil; (iterate 3 exact rfl)) | (apply Ok1.load; exact rfl; apply Ld.row0 H3; exact rfl; exact List.not_mem_nil; (iterate 3 exact rfl)) | (apply Ok1.move; exact rfl) | (apply Ok1.load; exact rfl; first | (apply Ld.own1; exact rfl; exact rfl; (focus ((repeat' (first | exact At.head | apply At.tail | apply At.right)); done)); exact rfl) | (apply Ld.ownk; exact rfl; exact rfl; (focus ((repeat' (first | exact At.head | apply At.tail | apply At.right)); done)); exact rfl) | (apply Ld.old1; exact rfl; exact rfl; assumption; (first | exact List.not_mem_nil | assumption)) | (apply Ld.blk1; exact rfl; exact rfl; assumption; (first | exact List.not_mem_nil | assumption); exact rfl) | (apply Ld.blkk; exact rfl; exact rfl; assumption; (first | exact List.not_mem_nil | assumption); exact rfl)) | (apply Ok1.assign; exact rfl) | (apply Ok1.indexAddr; (iterate 5 exact rfl); omega; omega) | (apply Ok1.indexAddrA; (iterate 5 exact rfl); omega; omega) | (apply Ok1.convI64; (iterate 5 exact rfl); omega; omega) | (apply Ok1.convU64; (iterate 5 exact rfl); omega; omega) | (apply Ok1.convU32; (iterate 5 exact rfl); omega; omega) | (apply Ok1.convU8; (iterate 5 exact rfl); omega; omega) | (apply Ok1.conv; (iterate 5 exact rfl)))) | (apply R.is0; first | fail) | (apply R.isG; first | (apply R.guard_run; exact rfl; exact rfl) | (apply R.guard_not; (iterate 3 exact rfl)) | (apply R.guard_not0; exact rfl; exact rfl) | (apply R.guard_un; (iterate 3 exact rfl)) | (apply R.guard_un0; exact rfl; exact rfl) | (apply R.guard rfl rfl ?_ (fun h => ⟨rfl, ?_⟩) <;> try intro)) | apply R.nil | (apply T.is; first | (apply T.drawC (id := 1) [] (by decide); ((apply A.take 0; exact rfl; exact rfl; kernel_rfl; kernel_rfl; kernel_rfl; first | (apply Ok1.move; exact rfl)) <;> (apply A.take 1; exact rfl; exact rfl; kernel_rfl; kernel_rfl; kernel_rfl; first | (apply Ok1.indexAddrP; (iterate 4 exact rfl); exact hpe; exact rfl; omega; omega) | (apply Ok1.indexAddr; (iterate 5 exact rfl); omega; omega) | (apply Ok1.indexAddrA; (iterate 5 exact rfl); omega; omega)) <;> (apply A.take 2; exact rfl; exact rfl; kernel_rfl; kernel_rfl; kernel_rfl; first | (apply Ok1.load; exact rfl; apply Ld.row0 H0; exact rfl; exact List.not_mem_nil; (iterate 3 exact rfl)) | (apply Ok1.load; exact rfl; apply Ld.row0 H1; exact rfl; exact List.not_mem_nil; (iterate 3 exact rfl)) | (apply Ok1.load; exact rfl; apply Ld.row0 H2; exact rfl; exact List.not_mem_nil; (iterate 3 exact rfl)) | (apply Ok1.load; exact rfl; apply Ld.row0 H3; exact rfl; exact List.not_mem_nil; (iterate 3 exact rfl)) | (apply Ok1.load; exact rfl; first | (apply Ld.own1; exact rfl; exact rfl; (focus ((repeat' (first | exact At.head | apply At.tail | apply At.right)); done)); exact rfl) | (apply Ld.ownk; exact rfl; exact rfl; (focus ((repeat' (first | exact At.head | apply At.tail | apply At.right)); done)); exact rfl) | (apply Ld.old1; exact rfl; exact rfl; assumption; (first | exact List.not_mem_nil | assumption)) | (apply Ld.blk1; exact rfl; exact rfl; assumption; (first | exact List.not_mem_nil | assumption); exact rfl) | (apply Ld.blkk; exact rfl; exact rfl; assumption; (first | exact List.not_mem_nil | assumption); exact rfl))) <;> (apply A.take 3; exact rfl; exact rfl; kernel_rfl; kernel_rfl; kernel_rfl; first | (apply Ok1.convI64; (iterate 5 exact rfl); omega; omega) | (apply Ok1.convU64; (iterate 5 exact rfl); omega; omega) | (apply Ok1.convU32; (iterate 5 exact rfl); omega; omega) | (apply Ok1.convU8; (iterate 5 exact rfl); omega; omega) | (apply Ok1.conv; (iterate 5 exact rfl))) <;> (apply A.take 4; exact rfl; exact rfl; kernel_rfl; kernel_rfl; kernel_rfl; first | (apply Ok1.shl; exact rfl; exact rfl; omega; exact Nat.le_of_ble_eq_true rfl; exact rfl)) <;> (apply A.take 5; exact rfl; exact rfl; kernel_rfl; kernel_rfl; kernel_rfl; first | (apply Ok1.move; exact rfl)) <;> (apply A.take 6; exact rfl; exact rfl; kernel_rfl; kernel_rfl; kernel_rfl; first | (apply Ok1.indexAddrP; (iterate 4 exact rfl); exact hpe; exact rfl; omega; omega) | (apply Ok1.indexAddr; (iterate 5 exact rfl); omega; omega) | (apply Ok1.indexAddrA; (iterate 5 exact rfl); omega; omega)) <;> (apply A.take 7; exact rfl; exact rfl; kernel_rfl; kernel_rfl; kernel_rfl; first | (apply Ok1.load; exact rfl; apply Ld.row0 H0; exact rfl; exact List.not_mem_nil; (iterate 3 exact rfl)) | (apply Ok1.load; exact rfl; apply Ld.row0 H1; exact rfl; exact List.not_mem_nil; (iterate 3 exact rfl)) | (apply Ok1.load; exact rfl; apply Ld.row0 H2; exact rfl; exact List.not_mem_nil; (iterate 3 exact rfl)) | (apply Ok1.load; exact rfl; apply Ld.row0 H3; exact rfl; exact List.not_mem_nil; (iterate 3 exact rfl)) | (apply Ok1.load; exact rfl; first | (apply Ld.own1; exact rfl; exact rfl; (focus ((repeat' (first | exact At.head | apply At.tail | apply At.right)); done)); exact rfl) | (apply Ld.ownk; exact rfl; exact rfl; (focus ((repeat' (first | exact At.head | apply At.tail | apply At.right)); done)); exact rfl) | (apply Ld.old1; exact rfl; exact rfl; assumption; (first | exact List.not_mem_nil | assumption)) | (apply Ld.blk1; exact rfl; exact rfl; assumption; (first | exact List.not_mem_nil | assumption); exact rfl) | (apply Ld.blkk; exact rfl; exact rfl; assumption; (first | exact List.not_mem_nil | assumption); exact rfl))) <;> (apply A.take 8; exact rfl; exact rfl; kernel_rfl; kernel_rfl; kernel_rfl; first | (apply Ok1.convI64; (iterate 5 exact rfl); omega; omega) | (apply Ok1.convU64; (iterate 5 exact rfl); omega; omega) | (apply Ok1.convU32; (iterate 5 exact rfl); omega; omega) | (apply Ok1.convU8; (iterate 5 exact rfl); omega; omega) | (apply Ok1.conv; (iterate 5 exact rfl))) <;> (apply A.take 9; exact rfl; exact rfl; kernel_rfl; kernel_rfl; kernel_rfl; first | (apply Ok1.shl; exact rfl; exact rfl; omega; exact Nat.le_of_ble_eq_true rfl; exact rfl)) <;> (apply A.take 10; exact rfl; exact rfl; kernel_rfl; kernel_rfl; kernel_rfl; first | (apply Ok1.orK; exact rfl; exact rfl)) <;> (apply A.take 11; exact rfl; exact rfl; kernel_rfl; kernel_rfl; kernel_rfl; first | (apply Ok1.move; exact rfl)) <;> (apply A.take 12; exact rfl; exact rfl; kernel_rfl; kernel_rfl; kernel_rfl; first | (apply Ok1.indexAddrP; (iterate 4 exact rfl); exact hpe; exact rfl; omega; omega) | (apply Ok1.indexAddr; (iterate 5 exact rfl); omega; omega) | (apply Ok1.indexAddrA; (iterate 5 exact rfl); omega; omega)) <;> (apply A.take 13; exact rfl; exact rfl; kernel_rfl; kernel_rfl; kernel_rfl; first | (apply Ok1.load; exact rfl; apply Ld.row0 H0; exact rfl; exact List.not_mem_nil; (iterate 3 exact rfl)) | (apply Ok1.load; exact rfl; apply Ld.row0 H1; exact rfl; exact List.not_mem_nil; (iterate 3 exact rfl)) | (apply Ok1.load; exact rfl; apply Ld.row0 H2; exact rfl; exact List.not_mem_nil; (iterate 3 exact rfl)) | (apply Ok1.load; exact rfl; apply Ld.row0 H3; exact rfl; exact List.not_mem_nil; (iterate 3 exact rfl)) | (apply Ok1.load; exact rfl; first | (apply Ld.own1; exact rfl; exact rfl; (focus ((repeat' (first | exact At.head | apply At.tail | apply At.right)); done)); exact rfl) | (apply Ld.ownk; exact rfl; exact rfl; (focus ((repeat' (first | exact At.head | apply At.tail | apply At.right)); done)); exact rfl) | (apply Ld.old1; exact rfl; exact rfl; assumption; (first | exact List.not_mem_nil | assumption)) | (apply Ld.blk1; exact rfl; exact rfl; assumption; (first | exact List.not_mem_nil | assumption); exact rfl) | (apply Ld.blkk; exact rfl; exact rfl; assumption; (first | exact List.not_mem_nil | assumption); exact rfl))) <;> (apply A.take 14; exact rfl; exact rfl; kernel_rfl; kernel_rfl; kernel_rfl; first | (apply Ok1.convI64; (iterate 5 exact rfl); omega; omega) | (apply Ok1.convU64; (iterate 5 exact rfl); omega; omega) | (apply Ok1.convU32; (iterate 5 exact rfl); omega; omega) | (apply Ok1.convU8; (iterate 5 exact rfl); omega; omega) | (apply Ok1.conv; (iterate 5 exact rfl))) <;> (apply A.take 15; exact rfl; exact rfl; kernel_rfl; kernel_rfl; kernel_rfl; first | (apply Ok1.shl; exact rfl; exact rfl; omega; exact Nat.le_of_ble_eq_true rfl; exact rfl)) <;> (apply A.take 16; exact rfl; exact rfl; kernel_rfl; kernel_rfl; kernel_rfl; first | (apply Ok1.orK; exact rfl; exact rfl)) <;> (apply A.take 17; exact rfl; exact rfl; kernel_rfl; kernel_rfl; kernel_rfl; first | (apply Ok1.move; exact rfl)) <;> (apply A.take 18; exact rfl; exact rfl; kernel_rfl; kernel_rfl; kernel_rfl; first | (apply Ok1.indexAddrP; (iterate 4 exact rfl); exact hpe; exact rfl; omega; omega) | (apply Ok1.indexAddr; (iterate 5 exact rfl); omega; omega) | (apply Ok1.indexAddrA; (iterate 5 exact rfl); omega; omega)) <;> (apply A.take 19; exact rfl; exact rfl; kernel_rfl; kernel_rfl; kernel_rfl; first | (apply Ok1.load; exact rfl; apply Ld.row0 H0; exact rfl; exact List.not_mem_nil; (iterate 3 exact rfl)) | (apply Ok1.load; exact rfl; apply Ld.row0 H1; exact rfl; exact List.not_mem_nil; (iterate 3 exact rfl)) | (apply Ok1.load; exact rfl; apply Ld.row0 H2; exact rfl; exact List.not_mem_nil; (iterate 3 exact rfl)) | (apply Ok1.load; exact rfl; apply Ld.row0 H3; exact rfl; exact List.not_mem_nil; (iterate 3 exact rfl)) | (apply Ok1.load; exact rfl; first | (apply Ld.own1; exact rfl; exact rfl; (focus ((repeat' (first | exact At.head | apply At.tail | apply At.right)); done)); exact rfl) | (apply Ld.ownk; exact rfl; exact rfl; (focus ((repeat' (first | exact At.head | apply At.tail | apply At.right)); done)); exact rfl) | (apply Ld.old1; exact rfl; exact rfl; assumption; (first | exact List.not_mem_nil | assumption)) | (apply Ld.blk1; exact rfl; exact rfl; assumption; (first | exact List.not_mem_nil | assumption); exact rfl) | (apply Ld.blkk; exact rfl; exact rfl; assumption; (first | exact List.not_mem_nil | assumption); exact rfl))) <;> (apply A.take 20; exact rfl; exact rfl; kernel_rfl; kernel_rfl; kernel_rfl; first | (apply Ok1.convI64; (iterate 5 exact rfl); omega; omega) | (apply Ok1.convU64; (iterate 5 exact rfl); omega; omega) | (apply Ok1.convU32; (iterate 5 exact rfl); omega; omega) | (apply Ok1.convU8; (iterate 5 exact rfl); omega; omega) | (apply Ok1.conv; (iterate 5 exact rfl))) <;> (apply A.take 21; exact rfl; exact rfl; kernel_rfl; kernel_rfl; kernel_rfl; first | (apply Ok1.orK; exact rfl; exact rfl)) <;> (apply A.take 22; exact rfl; exact rfl; kernel_rfl; kernel_rfl; kernel_rfl; first | (apply Ok1.assign; exact rfl)) <;> (apply A.done; kernel_rfl))) | apply T.seq | apply T.region | apply T.block | apply T.scope | apply T.label | apply T.skip | apply T.exit | apply T.ret | (apply T.cond_t; exact rfl) | (apply T.cond_f; exact rfl) | (apply T.cond_h; exact rfl; assumption) | (apply T.cond_n; exact rfl; assumption) | (apply T.cond rfl <;> intro)) | apply Rnd.step)
  (apply RetOk.t; exact rfl)
  exact congrArg _ (word_or ⟨l0, u0⟩ ⟨l1, u1⟩ ⟨l2, u2⟩ ⟨l3, u3⟩)
end Go.Proofs.YtligpachgcmkcaaGreat
set_option linter.unusedSimpArgs false
set_option linter.unusedVariables false
namespace Go.Proofs.YtligpachgcmkcaaGreat
open Go.RowKit Go.Shelf
set_option maxRecDepth 100000
theorem u32s_app (a b : List Int) : u32s (a ++ b) = u32s a ++ u32s b := by simp [u32s]
theorem u32s_one (a : List Int) : (u32s a).all Value.oneCell' = true := by rw [List.all_eq_true]; intro x hx; obtain ⟨y, _, rfl⟩ := List.mem_map.1 hx; rfl
theorem u32s_len (a : List Int) : (u32s a).length = a.length := by simp [u32s]
theorem arr_get {l : List Int} {zs : List Value} {k : Nat} (h : k < l.length) : (u32s l ++ zs)[0 + k * 1]? = some (.int .u32 (l.getD k 0)) := by
  rw [Nat.zero_add, Nat.mul_one, List.getElem?_append_left (by rw [u32s_len]; exact h)]
  simp [u32s, h]
theorem arr_put (l : List Int) (x : Int) (z : Value) {k : Nat} : setE (u32s l ++ List.replicate (k + 1) z) (0 + l.length * 1) [.int .u32 x] = some (u32s (l ++ [x]) ++ List.replicate k z) := by
  have := setE_mid (u32s l) (vs := [.int .u32 x]) (junk := List.replicate (k + 1) z) (by simp)
  rw [u32s_len] at this
  rw [Nat.zero_add, Nat.mul_one, this, u32s_app]
  rfl
theorem spread_ok (p : Option Addr) (n cap : Nat) (b : List Int) (hn : n = b.length) (hl : b.length = 64) (hcap : n ≤ cap) (hb : Byt b) (w : World) (hp : RdSl w p u8V b) : CallW Tryz.prog 79 [.slice p n cap] w fun v _ => v = .agg ⟨u32s (schedI b 64)⟩ := by
  refine enterW (tb := tb) Tryz.func79 rfl Tryz.ntmps79 rfl ?_
  repeat' (first | (apply R.is1; first | (apply R.isBin; first | (apply R.pure; exact rfl; first | (apply Ok1.add64; exact rfl; exact rfl; omega; omega) | (apply Ok1.sub64; exact rfl; exact rfl; omega; omega) | (apply Ok1.lss_t; exact rfl; exact rfl; omega) | (apply Ok1.lss_f; exact rfl; exact rfl; omega) | (apply Ok1.mul64; exact rfl; exact rfl; omega; omega) | (apply Ok1.shr; exact rfl; exact rfl; omega; exact Nat.le_of_ble_eq_true rfl; (first | exact pwE1 | exact pwE2 | exact pwE3 | exact pwE4 | exact pwE5 | exact pwE6 | exact pwE7 | exact pwE8 | exact pwE16 | exact pwE24 | exact pwE32 | exact rfl))) | (apply R.lss rfl rfl rfl <;> intro)) | (apply R.pure; exact rfl; first | (apply Ok1.move; exact rfl) | (apply Ok1.load; exact rfl; first | (apply Ld.own1; exact rfl; exact rfl; (focus ((repeat' (first | exact At.head | apply At.tail | apply At.right)); done)); exact rfl) | (apply Ld.ownk; exact rfl; exact rfl; (focus ((repeat' (first | exact At.head | apply At.tail | apply At.right)); done)); exact rfl) | (apply Ld.old1; exact rfl; exact rfl; assumption; (first | exact List.not_mem_nil | assumption)) | (apply Ld.blk1; exact rfl; exact rfl; assumption; (first | exact List.not_mem_nil | assumption); exact rfl) | (apply Ld.blkk; exact rfl; exact rfl; assumption; (first | exact List.not_mem_nil | assumption); exact rfl)) | (apply Ok1.assign; exact rfl) | (apply Ok1.indexAddr; (iterate 5 exact rfl); omega; omega) | (apply Ok1.indexAddrA; (iterate 5 exact rfl); omega; omega) | (apply Ok1.slice0; (iterate 7 exact rfl); (refine ⟨?_, ?_, ?_⟩ <;> omega); (first | exact Or.inl rfl | exact Or.inr (fun e => by cases e))) | (apply Ok1.sliceTo; (iterate 6 exact rfl); omega; omega; omega; (first | exact Or.inl rfl | exact Or.inr (fun e => by cases e))) | (apply Ok1.sliceFrom; (iterate 7 exact rfl); omega; omega; omega; omega; omega; (first | exact Or.inl rfl | exact Or.inr (fun e => by cases e)))) | (apply R.alloc; (iterate 3 exact rfl); intro)) | (apply R.is0; first | (apply R.store; (iterate 6 exact rfl); (focus ((repeat' (first | exact Upd.head | apply Upd.tail | apply Upd.right)); done)); exact rfl) | fail) | (apply R.isG; first | (apply R.guard_run; exact rfl; exact rfl) | (apply R.guard_not; (iterate 3 exact rfl)) | (apply R.guard_not0; exact rfl; exact rfl) | (apply R.guard_un; (iterate 3 exact rfl)) | (apply R.guard_un0; exact rfl; exact rfl) | (apply R.guard rfl rfl ?_ (fun h => ⟨rfl, ?_⟩) <;> try intro)) | apply R.nil | (apply T.is; first | apply T.seq | apply T.region | apply T.block | apply T.scope | apply T.label | apply T.skip | apply T.exit | apply T.ret | (apply T.cond_t; exact rfl) | (apply T.cond_f; exact rfl) | (apply T.cond_h; exact rfl; assumption) | (apply T.cond_n; exact rfl; assumption) | (apply T.cond rfl <;> intro)) | apply Rnd.step)
  rename_i b2 b3
  apply T.loopK (α := Nat) (I := fun i => i ≤ 64) (σi := fun i => [(0, .slice p n cap), (2, .pointer (some ⟨b2, 0, none⟩)), (3, .pointer (some ⟨b3, 0, none⟩)), (9, .int .i64 i)]) (Li := fun i => [(b3, .cells ⟨u32s (schedI b i) ++ List.replicate (64 - i) (.int .u32 0)⟩ 34 (0, 0)), (b2, .cells ⟨List.replicate 64 (.int .u32 0)⟩ 34 (0, 0))]) (μ := fun i => 64 - i) (i0 := 0)
  · exact Nat.zero_le _
  · exact ⟨rfl, rfl, rfl, rfl, trivial⟩
  · (focus ((repeat' (first | exact Keep.nil _ | exact Ext.one _ _ | exact Ext.here _ _ | exact Ext.all _ | apply Keep.cons | apply Keep.app | apply Keep.last | apply Ext.cons | apply Ext.app)); done))
  · intro i hi
    have hsl := sched_len b i
    have hsn : schedI b (i + 1) = schedI b i ++ [nextI b (schedI b i)] := rfl
    have hnx : nextI b (schedI b i) = nextI b (schedI b i) := rfl
    conv at hnx => rhs; unfold nextI
    generalize hleq : schedI b i = l at *
    rcases Nat.lt_or_ge i 64 with hlt | hge
    · obtain ⟨k, hk⟩ : ∃ k, 64 - i = k + 1 := ⟨63 - i, by omega⟩
      have hput := fun x => arr_put l x (.int .u32 0) (k := k)
      rw [hsl] at hput
      rw [hk]
      rcases Nat.lt_or_ge i 16 with h16 | h16
      · rw [if_pos (by omega), hsl] at hnx
        have hwd : ∀ w1, Chg [] w w1 → CallW Tryz.prog 94 [.slice (sufP p cap (4 * i) 1) (n - 4 * i) (cap - 4 * i)] w1 fun v _ => v = .int .u32 (nextI b l) := by
          intro w1 hc
          have := word_ok (sufP p cap (4 * i) 1) (n - 4 * i) (cap - 4 * i) (b.drop (4 * i)) (by rw [List.length_drop, hn]) (by rw [List.length_drop]; omega) (fun x hx => hb x (List.mem_of_mem_drop hx)) w1 ((hp.suf u8V_len (by omega) (by omega)).chg hc (Off.nil _))
          rw [hnx]
          simpa only [List.getD_eq_getElem?_getD, List.getElem?_drop, Nat.add_zero] using this
        repeat' (first | (apply R.is1; first | (apply R.isBin; first | (apply R.pure; exact rfl; first | (apply Ok1.add64; exact rfl; exact rfl; omega; omega) | (apply Ok1.sub64; exact rfl; exact rfl; omega; omega) | (apply Ok1.lss_t; exact rfl; exact rfl; omega) | (apply Ok1.lss_f; exact rfl; exact rfl; omega) | (apply Ok1.mul64; exact rfl; exact rfl; omega; omega) | (apply Ok1.shr; exact rfl; exact rfl; omega; exact Nat.le_of_ble_eq_true rfl; (first | exact pwE1 | exact pwE2 | exact pwE3 | exact pwE4 | exact pwE5 | exact pwE6 | exact pwE7 | exact pwE8 | exact pwE16 | exact pwE24 | exact pwE32 | exact rfl))) | (apply R.lss rfl rfl rfl <;> intro)) | (apply R.isCall; first | (apply R.callV; (iterate 3 exact rfl); intro w1 hw1; exact hwd w1 hw1.chg)) | (apply R.pure; exact rfl; first | (apply Ok1.sufR (i := 4 * i) (sz := 1); (iterate 6 exact rfl); omega; omega) | (apply Ok1.move; exact rfl) | (apply Ok1.load; exact rfl; first | (apply Ld.own1; exact rfl; exact rfl; (focus ((repeat' (first | exact At.head | apply At.tail | apply At.right)); done)); exact rfl) | (apply Ld.ownk; exact rfl; exact rfl; (focus ((repeat' (first | exact At.head | apply At.tail | apply At.right)); done)); exact rfl) | (apply Ld.old1; exact rfl; exact rfl; assumption; (first | exact List.not_mem_nil | assumption)) | (apply Ld.blk1; exact rfl; exact rfl; assumption; (first | exact List.not_mem_nil | assumption); exact rfl) | (apply Ld.blkk; exact rfl; exact rfl; assumption; (first | exact List.not_mem_nil | assumption); exact rfl)) | (apply Ok1.assign; exact rfl) | (apply Ok1.indexAddr; (iterate 5 exact rfl); omega; omega) | (apply Ok1.indexAddrA; (iterate 5 exact rfl); omega; omega) | (apply Ok1.slice0; (iterate 7 exact rfl); (refine ⟨?_, ?_, ?_⟩ <;> omega); (first | exact Or.inl rfl | exact Or.inr (fun e => by cases e))) | (apply Ok1.sliceTo; (iterate 6 exact rfl); omega; omega; omega; (first | exact Or.inl rfl | exact Or.inr (fun e => by cases e))) | (apply Ok1.sliceFrom; (iterate 7 exact rfl); omega; omega; omega; omega; omega; (first | exact Or.inl rfl | exact Or.inr (fun e => by cases e)))) | (apply R.alloc; (iterate 3 exact rfl); intro)) | (apply R.is0; first | (apply R.store; (iterate 6 exact rfl); (focus ((repeat' (first | exact Upd.head | apply Upd.tail | apply Upd.right)); done)); exact hput _) | (apply R.store; (iterate 6 exact rfl); (focus ((repeat' (first | exact Upd.head | apply Upd.tail | apply Upd.right)); done)); exact rfl) | fail) | (apply R.isG; first | (apply R.guard_run; exact rfl; exact rfl) | (apply R.guard_not; (iterate 3 exact rfl)) | (apply R.guard_not0; exact rfl; exact rfl) | (apply R.guard_un; (iterate 3 exact rfl)) | (apply R.guard_un0; exact rfl; exact rfl) | (apply R.guard rfl rfl ?_ (fun h => ⟨rfl, ?_⟩) <;> try intro)) | apply R.nil | (apply T.is; first | apply T.seq | apply T.region | apply T.block | apply T.scope | apply T.label | apply T.skip | apply T.exit | apply T.ret | (apply T.cond_t; exact rfl) | (apply T.cond_f; exact rfl) | (apply T.cond_h; exact rfl; assumption) | (apply T.cond_n; exact rfl; assumption) | (apply T.cond rfl <;> intro)) | apply Rnd.step)
        refine ⟨i + 1, by omega, by omega, ⟨rfl, rfl, rfl, rfl, trivial⟩, ?_⟩
        rw [hsn, show 64 - (i + 1) = k by omega]
        (focus ((repeat' (first | exact Keep.nil _ | exact Ext.one _ _ | exact Ext.here _ _ | exact Ext.all _ | apply Keep.cons | apply Keep.app | apply Keep.last | apply Ext.cons | apply Ext.app)); done))
      · rw [if_neg (by omega), hsl] at hnx
        have e15 : ((i : Int) - 15).toNat = i - 15 := by omega
        have e2 : ((i : Int) - 2).toNat = i - 2 := by omega
        have e16 : ((i : Int) - 16).toNat = i - 16 := by omega
        have e7 : ((i : Int) - 7).toNat = i - 7 := by omega
        have g15 : (u32s l ++ List.replicate (k + 1) (.int .u32 0))[0 + ((i : Int) - 15).toNat * 1]? = some (.int .u32 (l.getD (i - 15) 0)) := by rw [e15]; exact arr_get (by omega)
        have g2 : (u32s l ++ List.replicate (k + 1) (.int .u32 0))[0 + ((i : Int) - 2).toNat * 1]? = some (.int .u32 (l.getD (i - 2) 0)) := by rw [e2]; exact arr_get (by omega)
        have g16 : (u32s l ++ List.replicate (k + 1) (.int .u32 0))[0 + ((i : Int) - 16).toNat * 1]? = some (.int .u32 (l.getD (i - 16) 0)) := by rw [e16]; exact arr_get (by omega)
        have g7 : (u32s l ++ List.replicate (k + 1) (.int .u32 0))[0 + ((i : Int) - 7).toNat * 1]? = some (.int .u32 (l.getD (i - 7) 0)) := by rw [e7]; exact arr_get (by omega)
        generalize l.getD (i - 15) 0 = x15 at *
        generalize l.getD (i - 2) 0 = x2 at *
        generalize l.getD (i - 16) 0 = x16 at *
        generalize l.getD (i - 7) 0 = x7 at *
        repeat' (first | (apply R.is1; first | (apply R.isBin; first | (apply R.pure; exact rfl; first | (apply Ok1.xorK; exact rfl; exact rfl) | (apply Ok1.add32; exact rfl; exact rfl) | (apply Ok1.add64; exact rfl; exact rfl; omega; omega) | (apply Ok1.sub64; exact rfl; exact rfl; omega; omega) | (apply Ok1.lss_t; exact rfl; exact rfl; omega) | (apply Ok1.lss_f; exact rfl; exact rfl; omega) | (apply Ok1.mul64; exact rfl; exact rfl; omega; omega) | (apply Ok1.shr; exact rfl; exact rfl; omega; exact Nat.le_of_ble_eq_true rfl; (first | exact pwE1 | exact pwE2 | exact pwE3 | exact pwE4 | exact pwE5 | exact pwE6 | exact pwE7 | exact pwE8 | exact pwE16 | exact pwE24 | exact pwE32 | exact rfl))) | (apply R.lss rfl rfl rfl <;> intro)) | (apply R.isCall; first | apply R.callP rfl rfl rfl (rot_ok x15 (-7) 25 128 33554432 (by decide +kernel) (by decide) (by decide) rfl rfl) | apply R.callP rfl rfl rfl (rot_ok x15 (-18) 14 262144 16384 (by decide +kernel) (by decide) (by decide) rfl rfl) | apply R.callP rfl rfl rfl (rot_ok x2 (-17) 15 131072 32768 (by decide +kernel) (by decide) (by decide) rfl rfl) | apply R.callP rfl rfl rfl (rot_ok x2 (-19) 13 524288 8192 (by decide +kernel) (by decide) (by decide) rfl rfl)) | (apply R.pure; exact rfl; first | (apply Ok1.load; exact rfl; apply Ld.own1; exact rfl; exact rfl; (focus ((repeat' (first | exact At.head | apply At.tail | apply At.right)); done)); with_reducible (first | exact g15 | exact g2 | exact g16 | exact g7)) | (apply Ok1.move; exact rfl) | (apply Ok1.load; exact rfl; first | (apply Ld.own1; exact rfl; exact rfl; (focus ((repeat' (first | exact At.head | apply At.tail | apply At.right)); done)); exact rfl) | (apply Ld.ownk; exact rfl; exact rfl; (focus ((repeat' (first | exact At.head | apply At.tail | apply At.right)); done)); exact rfl) | (apply Ld.old1; exact rfl; exact rfl; assumption; (first | exact List.not_mem_nil | assumption)) | (apply Ld.blk1; exact rfl; exact rfl; assumption; (first | exact List.not_mem_nil | assumption); exact rfl) | (apply Ld.blkk; exact rfl; exact rfl; assumption; (first | exact List.not_mem_nil | assumption); exact rfl)) | (apply Ok1.assign; exact rfl) | (apply Ok1.indexAddr; (iterate 5 exact rfl); omega; omega) | (apply Ok1.indexAddrA; (iterate 5 exact rfl); omega; omega) | (apply Ok1.slice0; (iterate 7 exact rfl); (refine ⟨?_, ?_, ?_⟩ <;> omega); (first | exact Or.inl rfl | exact Or.inr (fun e => by cases e))) | (apply Ok1.sliceTo; (iterate 6 exact rfl); omega; omega; omega; (first | exact Or.inl rfl | exact Or.inr (fun e => by cases e))) | (apply Ok1.sliceFrom; (iterate 7 exact rfl); omega; omega; omega; omega; omega; (first | exact Or.inl rfl | exact Or.inr (fun e => by cases e)))) | (apply R.alloc; (iterate 3 exact rfl); intro)) | (apply R.is0; first | (apply R.store; (iterate 6 exact rfl); (focus ((repeat' (first | exact Upd.head | apply Upd.tail | apply Upd.right)); done)); exact hput _) | (apply R.store; (iterate 6 exact rfl); (focus ((repeat' (first | exact Upd.head | apply Upd.tail | apply Upd.right)); done)); exact rfl) | fail) | (apply R.isG; first | (apply R.guard_run; exact rfl; exact rfl) | (apply R.guard_not; (iterate 3 exact rfl)) | (apply R.guard_not0; exact rfl; exact rfl) | (apply R.guard_un; (iterate 3 exact rfl)) | (apply R.guard_un0; exact rfl; exact rfl) | (apply R.guard rfl rfl ?_ (fun h => ⟨rfl, ?_⟩) <;> try intro)) | apply R.nil | (apply T.is; first | (apply T.drawC (id := 7) [0] (by decide); ((apply A.take 0; exact rfl; exact rfl; kernel_rfl; kernel_rfl; kernel_rfl; first | (apply Ok1.move; exact rfl)) <;> (apply A.take 1; exact rfl; exact rfl; kernel_rfl; kernel_rfl; kernel_rfl; first | (apply Ok1.sub64; exact rfl; exact rfl; omega; omega)) <;> (apply A.take 2; exact rfl; exact rfl; kernel_rfl; kernel_rfl; kernel_rfl; first | (apply Ok1.indexAddr; (iterate 5 exact rfl); omega; omega) | (apply Ok1.indexAddrA; (iterate 5 exact rfl); omega; omega)) <;> (apply A.take 3; exact rfl; exact rfl; kernel_rfl; kernel_rfl; kernel_rfl; first | (apply Ok1.load; exact rfl; apply Ld.own1; exact rfl; exact rfl; (focus ((repeat' (first | exact At.head | apply At.tail | apply At.right)); done)); with_reducible (first | exact g15 | exact g2 | exact g16 | exact g7)) | (apply Ok1.load; exact rfl; first | (apply Ld.own1; exact rfl; exact rfl; (focus ((repeat' (first | exact At.head | apply At.tail | apply At.right)); done)); exact rfl) | (apply Ld.ownk; exact rfl; exact rfl; (focus ((repeat' (first | exact At.head | apply At.tail | apply At.right)); done)); exact rfl) | (apply Ld.old1; exact rfl; exact rfl; assumption; (first | exact List.not_mem_nil | assumption)) | (apply Ld.blk1; exact rfl; exact rfl; assumption; (first | exact List.not_mem_nil | assumption); exact rfl) | (apply Ld.blkk; exact rfl; exact rfl; assumption; (first | exact List.not_mem_nil | assumption); exact rfl))) <;> (apply A.take 4; exact rfl; exact rfl; kernel_rfl; kernel_rfl; kernel_rfl; first | (apply Ok1.move; exact rfl)) <;> (apply A.take 5; exact rfl; exact rfl; kernel_rfl; kernel_rfl; kernel_rfl; first | (apply Ok1.sub64; exact rfl; exact rfl; omega; omega)) <;> (apply A.take 6; exact rfl; exact rfl; kernel_rfl; kernel_rfl; kernel_rfl; first | (apply Ok1.indexAddr; (iterate 5 exact rfl); omega; omega) | (apply Ok1.indexAddrA; (iterate 5 exact rfl); omega; omega)) <;> (apply A.take 7; exact rfl; exact rfl; kernel_rfl; kernel_rfl; kernel_rfl; first | (apply Ok1.load; exact rfl; apply Ld.own1; exact rfl; exact rfl; (focus ((repeat' (first | exact At.head | apply At.tail | apply At.right)); done)); with_reducible (first | exact g15 | exact g2 | exact g16 | exact g7)) | (apply Ok1.load; exact rfl; first | (apply Ld.own1; exact rfl; exact rfl; (focus ((repeat' (first | exact At.head | apply At.tail | apply At.right)); done)); exact rfl) | (apply Ld.ownk; exact rfl; exact rfl; (focus ((repeat' (first | exact At.head | apply At.tail | apply At.right)); done)); exact rfl) | (apply Ld.old1; exact rfl; exact rfl; assumption; (first | exact List.not_mem_nil | assumption)) | (apply Ld.blk1; exact rfl; exact rfl; assumption; (first | exact List.not_mem_nil | assumption); exact rfl) | (apply Ld.blkk; exact rfl; exact rfl; assumption; (first | exact List.not_mem_nil | assumption); exact rfl))) <;> (apply A.take 8; exact rfl; exact rfl; kernel_rfl; kernel_rfl; kernel_rfl; first | (apply Ok1.assign; exact rfl)) <;> (apply A.take 9; exact rfl; exact rfl; kernel_rfl; kernel_rfl; kernel_rfl; first | (apply Ok1.assign; exact rfl)) <;> (apply A.done; kernel_rfl))) | (apply T.drawC (id := 10) [] (by decide); ((apply A.take 0; exact rfl; exact rfl; kernel_rfl; kernel_rfl; kernel_rfl; first | (apply Ok1.move; exact rfl)) <;> (apply A.take 1; exact rfl; exact rfl; kernel_rfl; kernel_rfl; kernel_rfl; first | (apply Ok1.move; exact rfl)) <;> (apply A.take 2; exact rfl; exact rfl; kernel_rfl; kernel_rfl; kernel_rfl; first | (apply Ok1.sub64; exact rfl; exact rfl; omega; omega)) <;> (apply A.take 3; exact rfl; exact rfl; kernel_rfl; kernel_rfl; kernel_rfl; first | (apply Ok1.indexAddr; (iterate 5 exact rfl); omega; omega) | (apply Ok1.indexAddrA; (iterate 5 exact rfl); omega; omega)) <;> (apply A.take 5; exact rfl; exact rfl; kernel_rfl; kernel_rfl; kernel_rfl; first | (apply Ok1.move; exact rfl)) <;> (apply A.take 7; exact rfl; exact rfl; kernel_rfl; kernel_rfl; kernel_rfl; first | (apply Ok1.move; exact rfl)) <;> (apply A.take 8; exact rfl; exact rfl; kernel_rfl; kernel_rfl; kernel_rfl; first | (apply Ok1.sub64; exact rfl; exact rfl; omega; omega)) <;> (apply A.take 9; exact rfl; exact rfl; kernel_rfl; kernel_rfl; kernel_rfl; first | (apply Ok1.indexAddr; (iterate 5 exact rfl); omega; omega) | (apply Ok1.indexAddrA; (iterate 5 exact rfl); omega; omega)) <;> (apply A.take 12; exact rfl; exact rfl; kernel_rfl; kernel_rfl; kernel_rfl; first | (apply Ok1.move; exact rfl)) <;> (apply A.two 4 10; kernel_rfl; exact rfl; exact rfl; rotate_left 1; (focus ((((first | (apply R.pure; exact rfl; first | (apply Ok1.load; exact rfl; apply Ld.own1; exact rfl; exact rfl; (focus ((repeat' (first | exact At.head | apply At.tail | apply At.right)); done)); with_reducible (first | exact g15 | exact g2 | exact g16 | exact g7)) | (apply Ok1.load; exact rfl; first | (apply Ld.own1; exact rfl; exact rfl; (focus ((repeat' (first | exact At.head | apply At.tail | apply At.right)); done)); exact rfl) | (apply Ld.ownk; exact rfl; exact rfl; (focus ((repeat' (first | exact At.head | apply At.tail | apply At.right)); done)); exact rfl) | (apply Ld.old1; exact rfl; exact rfl; assumption; (first | exact List.not_mem_nil | assumption)) | (apply Ld.blk1; exact rfl; exact rfl; assumption; (first | exact List.not_mem_nil | assumption); exact rfl) | (apply Ld.blkk; exact rfl; exact rfl; assumption; (first | exact List.not_mem_nil | assumption); exact rfl))) | fail)); apply R.nil; refine ⟨?_, ?_⟩; (focus ((repeat' (first | exact trivial | (refine ⟨?_, ?_⟩; (focus ((repeat' (first | exact At.head | apply At.tail | apply At.right)); done)))))))) <;> (apply A.one 4; kernel_rfl; exact rfl; ((first | (apply R.pure; exact rfl; first | (apply Ok1.load; exact rfl; apply Ld.own1; exact rfl; exact rfl; (focus ((repeat' (first | exact At.head | apply At.tail | apply At.right)); done)); with_reducible (first | exact g15 | exact g2 | exact g16 | exact g7)) | (apply Ok1.load; exact rfl; first | (apply Ld.own1; exact rfl; exact rfl; (focus ((repeat' (first | exact At.head | apply At.tail | apply At.right)); done)); exact rfl) | (apply Ld.ownk; exact rfl; exact rfl; (focus ((repeat' (first | exact At.head | apply At.tail | apply At.right)); done)); exact rfl) | (apply Ld.old1; exact rfl; exact rfl; assumption; (first | exact List.not_mem_nil | assumption)) | (apply Ld.blk1; exact rfl; exact rfl; assumption; (first | exact List.not_mem_nil | assumption); exact rfl) | (apply Ld.blkk; exact rfl; exact rfl; assumption; (first | exact List.not_mem_nil | assumption); exact rfl))) | fail)); apply R.nil; refine ⟨?_, ?_⟩; (focus ((repeat' (first | exact trivial | (refine ⟨?_, ?_⟩; (focus ((repeat' (first | exact At.head | apply At.tail | apply At.right)); done)))))))) <;> (apply A.take 6; exact rfl; exact rfl; kernel_rfl; kernel_rfl; kernel_rfl; first | (apply Ok1.add32; exact rfl; exact rfl) | (apply Ok1.add64; exact rfl; exact rfl; omega; omega)) <;> (apply A.take 11; exact rfl; exact rfl; kernel_rfl; kernel_rfl; kernel_rfl; first | (apply Ok1.add32; exact rfl; exact rfl) | (apply Ok1.add64; exact rfl; exact rfl; omega; omega)) <;> (apply A.take 13; exact rfl; exact rfl; kernel_rfl; kernel_rfl; kernel_rfl; first | (apply Ok1.add32; exact rfl; exact rfl) | (apply Ok1.add64; exact rfl; exact rfl; omega; omega)) <;> (apply A.take 14; exact rfl; exact rfl; kernel_rfl; kernel_rfl; kernel_rfl; first | (apply Ok1.indexAddr; (iterate 5 exact rfl); omega; omega) | (apply Ok1.indexAddrA; (iterate 5 exact rfl); omega; omega)) <;> (apply A.one 15; kernel_rfl; exact rfl; ((first | (apply R.store; (iterate 6 exact rfl); (focus ((repeat' (first | exact Upd.head | apply Upd.tail | apply Upd.right)); done)); exact hput _) | (apply R.store; (iterate 6 exact rfl); (focus ((repeat' (first | exact Upd.head | apply Upd.tail | apply Upd.right)); done)); exact rfl) | fail)); apply R.nil; refine ⟨?_, ?_⟩; (focus ((repeat' (first | exact trivial | (refine ⟨?_, ?_⟩; (focus ((repeat' (first | exact At.head | apply At.tail | apply At.right)); done)))))))) <;> (apply A.done; kernel_rfl))); rotate_right 1; (focus ((((first | (apply R.pure; exact rfl; first | (apply Ok1.load; exact rfl; apply Ld.own1; exact rfl; exact rfl; (focus ((repeat' (first | exact At.head | apply At.tail | apply At.right)); done)); with_reducible (first | exact g15 | exact g2 | exact g16 | exact g7)) | (apply Ok1.load; exact rfl; first | (apply Ld.own1; exact rfl; exact rfl; (focus ((repeat' (first | exact At.head | apply At.tail | apply At.right)); done)); exact rfl) | (apply Ld.ownk; exact rfl; exact rfl; (focus ((repeat' (first | exact At.head | apply At.tail | apply At.right)); done)); exact rfl) | (apply Ld.old1; exact rfl; exact rfl; assumption; (first | exact List.not_mem_nil | assumption)) | (apply Ld.blk1; exact rfl; exact rfl; assumption; (first | exact List.not_mem_nil | assumption); exact rfl) | (apply Ld.blkk; exact rfl; exact rfl; assumption; (first | exact List.not_mem_nil | assumption); exact rfl))) | fail)); apply R.nil; refine ⟨?_, ?_⟩; (focus ((repeat' (first | exact trivial | (refine ⟨?_, ?_⟩; (focus ((repeat' (first | exact At.head | apply At.tail | apply At.right)); done)))))))) <;> (apply A.take 6; exact rfl; exact rfl; kernel_rfl; kernel_rfl; kernel_rfl; first | (apply Ok1.add32; exact rfl; exact rfl) | (apply Ok1.add64; exact rfl; exact rfl; omega; omega)) <;> (apply A.one 10; kernel_rfl; exact rfl; ((first | (apply R.pure; exact rfl; first | (apply Ok1.load; exact rfl; apply Ld.own1; exact rfl; exact rfl; (focus ((repeat' (first | exact At.head | apply At.tail | apply At.right)); done)); with_reducible (first | exact g15 | exact g2 | exact g16 | exact g7)) | (apply Ok1.load; exact rfl; first | (apply Ld.own1; exact rfl; exact rfl; (focus ((repeat' (first | exact At.head | apply At.tail | apply At.right)); done)); exact rfl) | (apply Ld.ownk; exact rfl; exact rfl; (focus ((repeat' (first | exact At.head | apply At.tail | apply At.right)); done)); exact rfl) | (apply Ld.old1; exact rfl; exact rfl; assumption; (first | exact List.not_mem_nil | assumption)) | (apply Ld.blk1; exact rfl; exact rfl; assumption; (first | exact List.not_mem_nil | assumption); exact rfl) | (apply Ld.blkk; exact rfl; exact rfl; assumption; (first | exact List.not_mem_nil | assumption); exact rfl))) | fail)); apply R.nil; refine ⟨?_, ?_⟩; (focus ((repeat' (first | exact trivial | (refine ⟨?_, ?_⟩; (focus ((repeat' (first | exact At.head | apply At.tail | apply At.right)); done)))))))) <;> (apply A.take 11; exact rfl; exact rfl; kernel_rfl; kernel_rfl; kernel_rfl; first | (apply Ok1.add32; exact rfl; exact rfl) | (apply Ok1.add64; exact rfl; exact rfl; omega; omega)) <;> (apply A.take 13; exact rfl; exact rfl; kernel_rfl; kernel_rfl; kernel_rfl; first | (apply Ok1.add32; exact rfl; exact rfl) | (apply Ok1.add64; exact rfl; exact rfl; omega; omega)) <;> (apply A.take 14; exact rfl; exact rfl; kernel_rfl; kernel_rfl; kernel_rfl; first | (apply Ok1.indexAddr; (iterate 5 exact rfl); omega; omega) | (apply Ok1.indexAddrA; (iterate 5 exact rfl); omega; omega)) <;> (apply A.one 15; kernel_rfl; exact rfl; ((first | (apply R.store; (iterate 6 exact rfl); (focus ((repeat' (first | exact Upd.head | apply Upd.tail | apply Upd.right)); done)); exact hput _) | (apply R.store; (iterate 6 exact rfl); (focus ((repeat' (first | exact Upd.head | apply Upd.tail | apply Upd.right)); done)); exact rfl) | fail)); apply R.nil; refine ⟨?_, ?_⟩; (focus ((repeat' (first | exact trivial | (refine ⟨?_, ?_⟩; (focus ((repeat' (first | exact At.head | apply At.tail | apply At.right)); done)))))))) <;> (apply A.done; kernel_rfl)))))) | apply T.seq | apply T.region | apply T.block | apply T.scope | apply T.label | apply T.skip | apply T.exit | apply T.ret | (apply T.cond_t; exact rfl) | (apply T.cond_f; exact rfl) | (apply T.cond_h; exact rfl; assumption) | (apply T.cond_n; exact rfl; assumption) | (apply T.cond rfl <;> intro)) | apply Rnd.step)
        all_goals refine ⟨i + 1, by omega, by omega, ⟨rfl, rfl, rfl, rfl, trivial⟩, ?_⟩
        all_goals rw [hsn, hnx, show 64 - (i + 1) = k by omega]
        all_goals (focus ((repeat' (first | exact Keep.nil _ | exact Ext.one _ _ | exact Ext.here _ _ | exact Ext.all _ | apply Keep.cons | apply Keep.app | apply Keep.last | apply Ext.cons | apply Ext.app)); done))
    · have him : i = 64 := by omega
      subst him
      rw [Nat.sub_self, List.replicate_zero, List.append_nil]
      rw [hleq]
      have hls := u32s_len l
      rw [hsl] at hls
      have hsub := subE_all hls
      have hset : ∀ cs : List Value, cs.length = 64 → setE cs 0 (u32s l) = some (u32s l) := fun cs h => setE_all (by rw [hls, h])
      have hone := u32s_one l
      generalize u32s l = us at *
      repeat' (first | (apply R.is1; first | (apply R.isBin; first | (apply R.pure; exact rfl; first | (apply Ok1.add64; exact rfl; exact rfl; omega; omega) | (apply Ok1.sub64; exact rfl; exact rfl; omega; omega) | (apply Ok1.lss_t; exact rfl; exact rfl; omega) | (apply Ok1.lss_f; exact rfl; exact rfl; omega) | (apply Ok1.mul64; exact rfl; exact rfl; omega; omega) | (apply Ok1.shr; exact rfl; exact rfl; omega; exact Nat.le_of_ble_eq_true rfl; (first | exact pwE1 | exact pwE2 | exact pwE3 | exact pwE4 | exact pwE5 | exact pwE6 | exact pwE7 | exact pwE8 | exact pwE16 | exact pwE24 | exact pwE32 | exact rfl))) | (apply R.lss rfl rfl rfl <;> intro)) | (apply R.pure; exact rfl; first | (apply Ok1.load; exact rfl; apply Ld.ownk; exact rfl; exact rfl; (focus ((repeat' (first | exact At.head | apply At.tail | apply At.right)); done)); exact hsub) | (apply Ok1.move; exact rfl) | (apply Ok1.load; exact rfl; first | (apply Ld.own1; exact rfl; exact rfl; (focus ((repeat' (first | exact At.head | apply At.tail | apply At.right)); done)); exact rfl) | (apply Ld.ownk; exact rfl; exact rfl; (focus ((repeat' (first | exact At.head | apply At.tail | apply At.right)); done)); exact rfl) | (apply Ld.old1; exact rfl; exact rfl; assumption; (first | exact List.not_mem_nil | assumption)) | (apply Ld.blk1; exact rfl; exact rfl; assumption; (first | exact List.not_mem_nil | assumption); exact rfl) | (apply Ld.blkk; exact rfl; exact rfl; assumption; (first | exact List.not_mem_nil | assumption); exact rfl)) | (apply Ok1.assign; exact rfl) | (apply Ok1.indexAddr; (iterate 5 exact rfl); omega; omega) | (apply Ok1.indexAddrA; (iterate 5 exact rfl); omega; omega) | (apply Ok1.slice0; (iterate 7 exact rfl); (refine ⟨?_, ?_, ?_⟩ <;> omega); (first | exact Or.inl rfl | exact Or.inr (fun e => by cases e))) | (apply Ok1.sliceTo; (iterate 6 exact rfl); omega; omega; omega; (first | exact Or.inl rfl | exact Or.inr (fun e => by cases e))) | (apply Ok1.sliceFrom; (iterate 7 exact rfl); omega; omega; omega; omega; omega; (first | exact Or.inl rfl | exact Or.inr (fun e => by cases e)))) | (apply R.alloc; (iterate 3 exact rfl); intro)) | (apply R.is0; first | (apply R.store; (iterate 4 exact rfl); exact hls; exact hone; (focus ((repeat' (first | exact Upd.head | apply Upd.tail | apply Upd.right)); done)); exact hset _ rfl) | (apply R.store; (iterate 6 exact rfl); (focus ((repeat' (first | exact Upd.head | apply Upd.tail | apply Upd.right)); done)); exact rfl) | fail) | (apply R.isG; first | (apply R.guard_run; exact rfl; exact rfl) | (apply R.guard_not; (iterate 3 exact rfl)) | (apply R.guard_not0; exact rfl; exact rfl) | (apply R.guard_un; (iterate 3 exact rfl)) | (apply R.guard_un0; exact rfl; exact rfl) | (apply R.guard rfl rfl ?_ (fun h => ⟨rfl, ?_⟩) <;> try intro)) | apply R.nil | (apply T.is; first | apply T.seq | apply T.region | apply T.block | apply T.scope | apply T.label | apply T.skip | apply T.exit | apply T.ret | (apply T.cond_t; exact rfl) | (apply T.cond_f; exact rfl) | (apply T.cond_h; exact rfl; assumption) | (apply T.cond_n; exact rfl; assumption) | (apply T.cond rfl <;> intro)) | apply Rnd.step)
      apply RetOk.c
      exact rfl
      apply Ld.ownk
      exact rfl
      exact rfl
      (focus ((repeat' (first | exact At.head | apply At.tail | apply At.right)); done))
      exact hsub
      rfl
end Go.Proofs.YtligpachgcmkcaaGreat
set_option linter.unusedSimpArgs false
set_option linter.unusedVariables false
namespace Go.Proofs.YtligpachgcmkcaaGreat
open Go.RowKit Go.Shelf
set_option maxRecDepth 100000
/-- What a block's rounds hold. -/
theorem mix_ok (r : Nat) (s : H8) (rest : List Value) (e : TypeId) (p : Option Addr) (n cap : Nat) (b : List Int) (hn : n = b.length) (hl : b.length = 64) (hcap : n ≤ cap) (hb : Byt b) (w : World) (hp : RdSl w p u8V b) (hoff : Off p [r]) :
    CallM Tryz.prog 72 [.pointer (some ⟨r, 0, none⟩), .slice p n cap] [(r, .cells ⟨s.v ++ rest⟩ e (0, 0))] w fun v L => v = .tuple #[] ∧ L = [(r, .cells ⟨(mixI kI b s).v ++ rest⟩ e (0, 0))] := by
  refine enterK (tb := tb) Tryz.func72 rfl Tryz.ntmps72 rfl ?_
  have hls := u32s_len (schedI b 64)
  have hsl := sched_len b 64
  rw [hsl] at hls
  have hset : ∀ cs : List Value, cs.length = 64 → setE cs 0 (u32s (schedI b 64)) = some (u32s (schedI b 64)) := fun cs h => setE_all (by rw [hls, h])
  have hgw : ∀ i, i < 64 → (u32s (schedI b 64))[0 + i * 1]? = some (.int .u32 ((schedI b 64).getD i 0)) := fun i hi => by have := arr_get (l := schedI b 64) (zs := []) (k := i) (by omega); rwa [List.append_nil] at this
  have hgk : ∀ i, i < 64 → (u32s kI)[0 + i * 1]? = some (.int .u32 (kI.getD i 0)) := fun i hi => by have := arr_get (l := kI) (zs := []) (k := i) (by rw [kI_len]; exact hi); rwa [List.append_nil] at this
  have hmix : mixI kI b s = addH s (roundsI kI (schedI b 64) s 64) := rfl
  have hr0 : roundsI kI (schedI b 64) s 0 = s := rfl
  have hrs : ∀ i, roundsI kI (schedI b 64) s (i + 1) = stepI (roundsI kI (schedI b 64) s i) (kI.getD i 0) ((schedI b 64).getD i 0) := fun _ => rfl
  have hset2 : ∀ cs : List Value, cs.length = 64 → setE cs 0 (u32s kI) = some (u32s kI) := fun cs h => setE_all (by rw [u32s_len, kI_len, h])
  have hspr : ∀ w1, Chg [r] w w1 → CallW Tryz.prog 79 [.slice p n cap] w1 fun v _ => v = .agg ⟨u32s (schedI b 64)⟩ := fun w1 hc => spread_ok p n cap b hn hl hcap hb w1 (hp.chg hc hoff)
  have htab := table_ok
  have hsv : subE (s.v ++ rest) 0 8 = some s.v := subE_app _ _ rfl
  have hset8 : ∀ cs : List Value, cs.length = 8 → setE cs 0 s.v = some s.v := fun cs h => setE_all (by rw [h]; rfl)
  have hone := u32s_one (schedI b 64)
  have hone2 := u32s_one kI
  have hkl : (u32s kI).length = 64 := by rw [u32s_len, kI_len]
  generalize hK : u32s kI = ks at *
  generalize roundsI kI (schedI b 64) s = rs at *
  generalize hW : u32s (schedI b 64) = us at *
  repeat' (first | (apply R.is1; first | (apply R.isCall; first | (apply R.callV; (iterate 3 exact rfl); intro w1 hw1; exact hspr w1 hw1.chg) | apply R.callP rfl rfl rfl htab) | (apply R.pure; exact rfl; first | (apply Ok1.load; exact rfl; apply Ld.ownk; exact rfl; exact rfl; (focus ((repeat' (first | exact At.head | apply At.tail)); done)); exact hsv) | (apply Ok1.move; exact rfl) | (apply Ok1.fieldAddr; (iterate 5 exact rfl)) | (apply Ok1.assign; exact rfl) | (apply Ok1.nilCheck; exact rfl)) | (apply R.alloc; (iterate 3 exact rfl); intro)) | (apply R.is0; first | (apply R.store; (iterate 4 exact rfl); exact hls; exact hone; (focus ((repeat' (first | exact Upd.head | apply Upd.tail)); done)); exact hset _ rfl) | (apply R.store; (iterate 4 exact rfl); exact hkl; exact hone2; exact Upd.head; exact hset2 _ rfl) | (apply R.store; (iterate 6 exact rfl); exact Upd.head; exact hset8 _ rfl)) | apply R.nil | (apply T.is; first | apply T.seq | apply T.region | apply T.block))
  rename_i b4 b5 b6
  apply T.loopK (α := Nat) (I := fun i => i ≤ 64) (σi := fun i => [(0, .pointer (some ⟨r, 0, none⟩)), (4, .pointer (some ⟨b4, 0, none⟩)), (5, .pointer (some ⟨b5, 0, none⟩)), (6, .pointer (some ⟨b6, 0, none⟩)), (7, .func (.func 81) #[] #[]), (19, .int .i64 i)])
    (Li := fun i => [(b6, .cells ⟨(rs i).v⟩ 35 (0, 0)), (b5, .cells ⟨ks⟩ 34 (0, 0)), (b4, .cells ⟨us⟩ 34 (0, 0)), (r, .cells ⟨s.v ++ rest⟩ e (0, 0))]) (μ := fun i => 64 - i) (i0 := 0)
  · exact Nat.zero_le _
  · exact ⟨rfl, rfl, rfl, rfl, rfl, rfl, trivial⟩
  · rw [hr0]; (focus ((repeat' (first | exact Keep.nil _ | exact Ext.one _ _ | apply Keep.cons)); done))
  · intro i hi
    rcases Nat.lt_or_ge i 64 with hlt | hge
    · have g1 := hgk i hlt
      have g2 := hgw i hlt
      have hst := hrs i
      generalize kI.getD i 0 = ki at *
      generalize (schedI b 64).getD i 0 = wi at *
      generalize rs i = st at *
      repeat' (first | (apply R.is1; first | (apply R.isBin; (apply R.pure; exact rfl; first | (apply Ok1.add32; exact rfl; exact rfl) | (apply Ok1.add64; exact rfl; exact rfl; omega; omega) | (apply Ok1.lss_t; exact rfl; exact rfl; omega))) | (apply R.pure; exact rfl; first | (apply Ok1.move; exact rfl) | (apply Ok1.load; exact rfl; (apply Ld.own1; exact rfl; exact rfl; exact At.head; exact rfl)) | (apply Ok1.assign; exact rfl) | (apply Ok1.indexAddrA; (iterate 5 exact rfl); omega; omega) | (apply Ok1.buildA; (iterate 6 exact rfl)))) | (apply R.is0; (apply R.store; (iterate 6 exact rfl); exact Upd.head; exact setE_all rfl)) | apply R.nil | (apply T.is; first | (apply T.drawC (id := 6) [0,1,2] (by decide); (((apply A.take 0; exact rfl; exact rfl; kernel_rfl; kernel_rfl; kernel_rfl; (apply Ok1.indexAddrA; (iterate 5 exact rfl); omega; omega)); refine A.cast (listed' := #[true, false, false, false, false, false, false, false, false, false, false, false, false, false, false, false, false, false, false, false, false, false, false, false, false, false, false, false, false]) (by kernel_rfl) ?_) <;> ((apply A.take 1; exact rfl; exact rfl; kernel_rfl; kernel_rfl; kernel_rfl; (apply Ok1.load; exact rfl; (apply Ld.own1; exact rfl; exact rfl; exact At.head; exact rfl))); refine A.cast (listed' := #[true, true, false, false, false, false, false, false, false, false, false, false, false, false, false, false, false, false, false, false, false, false, false, false, false, false, false, false, false]) (by kernel_rfl) ?_) <;> ((apply A.take 2; exact rfl; exact rfl; kernel_rfl; kernel_rfl; kernel_rfl; (apply Ok1.move; exact rfl)); refine A.cast (listed' := #[true, true, true, false, false, false, false, false, false, false, false, false, false, false, false, false, false, false, false, false, false, false, false, false, false, false, false, false, false]) (by kernel_rfl) ?_) <;> ((apply A.take 3; exact rfl; exact rfl; kernel_rfl; kernel_rfl; kernel_rfl; (apply Ok1.indexAddrA; (iterate 5 exact rfl); omega; omega)); refine A.cast (listed' := #[true, true, true, true, false, false, false, false, false, false, false, false, false, false, false, false, false, false, false, false, false, false, false, false, false, false, false, false, false]) (by kernel_rfl) ?_) <;> ((apply A.take 4; exact rfl; exact rfl; kernel_rfl; kernel_rfl; kernel_rfl; (apply Ok1.load; exact rfl; (apply Ld.own1; exact rfl; exact rfl; exact At.head; exact rfl))); refine A.cast (listed' := #[true, true, true, true, true, false, false, false, false, false, false, false, false, false, false, false, false, false, false, false, false, false, false, false, false, false, false, false, false]) (by kernel_rfl) ?_) <;> ((apply A.take 7; exact rfl; exact rfl; kernel_rfl; kernel_rfl; kernel_rfl; (apply Ok1.indexAddrA; (iterate 5 exact rfl); omega; omega)); refine A.cast (listed' := #[true, true, true, true, true, false, false, true, false, false, false, false, false, false, false, false, false, false, false, false, false, false, false, false, false, false, false, false, false]) (by kernel_rfl) ?_) <;> ((apply A.take 8; exact rfl; exact rfl; kernel_rfl; kernel_rfl; kernel_rfl; (apply Ok1.load; exact rfl; (apply Ld.own1; exact rfl; exact rfl; exact At.head; exact rfl))); refine A.cast (listed' := #[true, true, true, true, true, false, false, true, true, false, false, false, false, false, false, false, false, false, false, false, false, false, false, false, false, false, false, false, false]) (by kernel_rfl) ?_) <;> ((apply A.take 9; exact rfl; exact rfl; kernel_rfl; kernel_rfl; kernel_rfl; (apply Ok1.indexAddrA; (iterate 5 exact rfl); omega; omega)); refine A.cast (listed' := #[true, true, true, true, true, false, false, true, true, true, false, false, false, false, false, false, false, false, false, false, false, false, false, false, false, false, false, false, false]) (by kernel_rfl) ?_) <;> ((apply A.take 10; exact rfl; exact rfl; kernel_rfl; kernel_rfl; kernel_rfl; (apply Ok1.load; exact rfl; (apply Ld.own1; exact rfl; exact rfl; exact At.head; exact rfl))); refine A.cast (listed' := #[true, true, true, true, true, false, false, true, true, true, true, false, false, false, false, false, false, false, false, false, false, false, false, false, false, false, false, false, false]) (by kernel_rfl) ?_) <;> ((apply A.take 11; exact rfl; exact rfl; kernel_rfl; kernel_rfl; kernel_rfl; (apply Ok1.andK; exact rfl; exact rfl)); refine A.cast (listed' := #[true, true, true, true, true, false, false, true, true, true, true, true, false, false, false, false, false, false, false, false, false, false, false, false, false, false, false, false, false]) (by kernel_rfl) ?_) <;> ((apply A.take 12; exact rfl; exact rfl; kernel_rfl; kernel_rfl; kernel_rfl; (apply Ok1.indexAddrA; (iterate 5 exact rfl); omega; omega)); refine A.cast (listed' := #[true, true, true, true, true, false, false, true, true, true, true, true, true, false, false, false, false, false, false, false, false, false, false, false, false, false, false, false, false]) (by kernel_rfl) ?_) <;> ((apply A.take 13; exact rfl; exact rfl; kernel_rfl; kernel_rfl; kernel_rfl; (apply Ok1.load; exact rfl; (apply Ld.own1; exact rfl; exact rfl; exact At.head; exact rfl))); refine A.cast (listed' := #[true, true, true, true, true, false, false, true, true, true, true, true, true, true, false, false, false, false, false, false, false, false, false, false, false, false, false, false, false]) (by kernel_rfl) ?_) <;> ((apply A.take 14; exact rfl; exact rfl; kernel_rfl; kernel_rfl; kernel_rfl; (apply Ok1.cplK; exact rfl; exact rfl)); refine A.cast (listed' := #[true, true, true, true, true, false, false, true, true, true, true, true, true, true, true, false, false, false, false, false, false, false, false, false, false, false, false, false, false]) (by kernel_rfl) ?_) <;> ((apply A.take 15; exact rfl; exact rfl; kernel_rfl; kernel_rfl; kernel_rfl; (apply Ok1.indexAddrA; (iterate 5 exact rfl); omega; omega)); refine A.cast (listed' := #[true, true, true, true, true, false, false, true, true, true, true, true, true, true, true, true, false, false, false, false, false, false, false, false, false, false, false, false, false]) (by kernel_rfl) ?_) <;> ((apply A.take 16; exact rfl; exact rfl; kernel_rfl; kernel_rfl; kernel_rfl; (apply Ok1.load; exact rfl; (apply Ld.own1; exact rfl; exact rfl; exact At.head; exact rfl))); refine A.cast (listed' := #[true, true, true, true, true, false, false, true, true, true, true, true, true, true, true, true, true, false, false, false, false, false, false, false, false, false, false, false, false]) (by kernel_rfl) ?_) <;> ((apply A.take 17; exact rfl; exact rfl; kernel_rfl; kernel_rfl; kernel_rfl; (apply Ok1.andK; exact rfl; exact rfl)); refine A.cast (listed' := #[true, true, true, true, true, false, false, true, true, true, true, true, true, true, true, true, true, true, false, false, false, false, false, false, false, false, false, false, false]) (by kernel_rfl) ?_) <;> ((apply A.take 18; exact rfl; exact rfl; kernel_rfl; kernel_rfl; kernel_rfl; (apply Ok1.xorK; exact rfl; exact rfl)); refine A.cast (listed' := #[true, true, true, true, true, false, false, true, true, true, true, true, true, true, true, true, true, true, true, false, false, false, false, false, false, false, false, false, false]) (by kernel_rfl) ?_) <;> ((apply A.take 20; exact rfl; exact rfl; kernel_rfl; kernel_rfl; kernel_rfl; (apply Ok1.move; exact rfl)); refine A.cast (listed' := #[true, true, true, true, true, false, false, true, true, true, true, true, true, true, true, true, true, true, true, false, true, false, false, false, false, false, false, false, false]) (by kernel_rfl) ?_) <;> ((apply A.take 21; exact rfl; exact rfl; kernel_rfl; kernel_rfl; kernel_rfl; (apply Ok1.indexAddrA; (iterate 5 exact rfl); omega; omega)); refine A.cast (listed' := #[true, true, true, true, true, false, false, true, true, true, true, true, true, true, true, true, true, true, true, false, true, true, false, false, false, false, false, false, false]) (by kernel_rfl) ?_) <;> ((apply A.take 22; exact rfl; exact rfl; kernel_rfl; kernel_rfl; kernel_rfl; (apply Ok1.load; exact rfl; apply Ld.own1; exact rfl; exact rfl; (focus ((repeat' (first | exact At.head | apply At.tail)); done)); exact g1)); refine A.cast (listed' := #[true, true, true, true, true, false, false, true, true, true, true, true, true, true, true, true, true, true, true, false, true, true, true, false, false, false, false, false, false]) (by kernel_rfl) ?_) <;> ((apply A.take 24; exact rfl; exact rfl; kernel_rfl; kernel_rfl; kernel_rfl; (apply Ok1.move; exact rfl)); refine A.cast (listed' := #[true, true, true, true, true, false, false, true, true, true, true, true, true, true, true, true, true, true, true, false, true, true, true, false, true, false, false, false, false]) (by kernel_rfl) ?_) <;> ((apply A.take 25; exact rfl; exact rfl; kernel_rfl; kernel_rfl; kernel_rfl; (apply Ok1.indexAddrA; (iterate 5 exact rfl); omega; omega)); refine A.cast (listed' := #[true, true, true, true, true, false, false, true, true, true, true, true, true, true, true, true, true, true, true, false, true, true, true, false, true, true, false, false, false]) (by kernel_rfl) ?_) <;> ((apply A.take 26; exact rfl; exact rfl; kernel_rfl; kernel_rfl; kernel_rfl; (apply Ok1.load; exact rfl; apply Ld.own1; exact rfl; exact rfl; (focus ((repeat' (first | exact At.head | apply At.tail)); done)); exact g2)); refine A.cast (listed' := #[true, true, true, true, true, false, false, true, true, true, true, true, true, true, true, true, true, true, true, false, true, true, true, false, true, true, true, false, false]) (by kernel_rfl) ?_) <;> (apply A.one 5; kernel_rfl; exact rfl; (((apply R.callFP (fa := []) (cb := []); (iterate 4 exact rfl); exact turnedA_ok _))); apply R.nil; refine ⟨?_, ?_⟩; (focus ((repeat' (first | exact trivial | (refine ⟨?_, ?_⟩; (focus ((repeat' (first | exact At.head | apply At.tail)); done)))))))) <;> ((apply A.take 6; exact rfl; exact rfl; kernel_rfl; kernel_rfl; kernel_rfl; (apply Ok1.add32; exact rfl; exact rfl)); refine A.cast (listed' := #[true, true, true, true, true, true, true, true, true, true, true, true, true, true, true, true, true, true, true, false, true, true, true, false, true, true, true, false, false]) (by kernel_rfl) ?_) <;> ((apply A.take 19; exact rfl; exact rfl; kernel_rfl; kernel_rfl; kernel_rfl; (apply Ok1.add32; exact rfl; exact rfl)); refine A.cast (listed' := #[true, true, true, true, true, true, true, true, true, true, true, true, true, true, true, true, true, true, true, true, true, true, true, false, true, true, true, false, false]) (by kernel_rfl) ?_) <;> ((apply A.take 23; exact rfl; exact rfl; kernel_rfl; kernel_rfl; kernel_rfl; (apply Ok1.add32; exact rfl; exact rfl)); refine A.cast (listed' := #[true, true, true, true, true, true, true, true, true, true, true, true, true, true, true, true, true, true, true, true, true, true, true, true, true, true, true, false, false]) (by kernel_rfl) ?_) <;> ((apply A.take 27; exact rfl; exact rfl; kernel_rfl; kernel_rfl; kernel_rfl; (apply Ok1.add32; exact rfl; exact rfl)); refine A.cast (listed' := #[true, true, true, true, true, true, true, true, true, true, true, true, true, true, true, true, true, true, true, true, true, true, true, true, true, true, true, true, false]) (by kernel_rfl) ?_) <;> ((apply A.take 28; exact rfl; exact rfl; kernel_rfl; kernel_rfl; kernel_rfl; (apply Ok1.assign; exact rfl)); refine A.cast (listed' := #[true, true, true, true, true, true, true, true, true, true, true, true, true, true, true, true, true, true, true, true, true, true, true, true, true, true, true, true, true]) (by kernel_rfl) ?_) <;> (apply A.done; kernel_rfl))) | (apply T.drawC (id := 7) [0,1,2] (by decide); ((apply A.take 0; exact rfl; exact rfl; kernel_rfl; kernel_rfl; kernel_rfl; (apply Ok1.move; exact rfl)) <;> (apply A.take 1; exact rfl; exact rfl; kernel_rfl; kernel_rfl; kernel_rfl; (apply Ok1.indexAddrA; (iterate 5 exact rfl); omega; omega)) <;> (apply A.take 2; exact rfl; exact rfl; kernel_rfl; kernel_rfl; kernel_rfl; (apply Ok1.load; exact rfl; (apply Ld.own1; exact rfl; exact rfl; exact At.head; exact rfl))) <;> (apply A.take 4; exact rfl; exact rfl; kernel_rfl; kernel_rfl; kernel_rfl; (apply Ok1.indexAddrA; (iterate 5 exact rfl); omega; omega)) <;> (apply A.take 5; exact rfl; exact rfl; kernel_rfl; kernel_rfl; kernel_rfl; (apply Ok1.load; exact rfl; (apply Ld.own1; exact rfl; exact rfl; exact At.head; exact rfl))) <;> (apply A.take 6; exact rfl; exact rfl; kernel_rfl; kernel_rfl; kernel_rfl; (apply Ok1.indexAddrA; (iterate 5 exact rfl); omega; omega)) <;> (apply A.take 7; exact rfl; exact rfl; kernel_rfl; kernel_rfl; kernel_rfl; (apply Ok1.load; exact rfl; (apply Ld.own1; exact rfl; exact rfl; exact At.head; exact rfl))) <;> (apply A.take 8; exact rfl; exact rfl; kernel_rfl; kernel_rfl; kernel_rfl; (apply Ok1.andK; exact rfl; exact rfl)) <;> (apply A.take 9; exact rfl; exact rfl; kernel_rfl; kernel_rfl; kernel_rfl; (apply Ok1.indexAddrA; (iterate 5 exact rfl); omega; omega)) <;> (apply A.take 10; exact rfl; exact rfl; kernel_rfl; kernel_rfl; kernel_rfl; (apply Ok1.load; exact rfl; (apply Ld.own1; exact rfl; exact rfl; exact At.head; exact rfl))) <;> (apply A.take 11; exact rfl; exact rfl; kernel_rfl; kernel_rfl; kernel_rfl; (apply Ok1.indexAddrA; (iterate 5 exact rfl); omega; omega)) <;> (apply A.take 12; exact rfl; exact rfl; kernel_rfl; kernel_rfl; kernel_rfl; (apply Ok1.load; exact rfl; (apply Ld.own1; exact rfl; exact rfl; exact At.head; exact rfl))) <;> (apply A.take 13; exact rfl; exact rfl; kernel_rfl; kernel_rfl; kernel_rfl; (apply Ok1.andK; exact rfl; exact rfl)) <;> (apply A.take 14; exact rfl; exact rfl; kernel_rfl; kernel_rfl; kernel_rfl; (apply Ok1.xorK; exact rfl; exact rfl)) <;> (apply A.take 15; exact rfl; exact rfl; kernel_rfl; kernel_rfl; kernel_rfl; (apply Ok1.indexAddrA; (iterate 5 exact rfl); omega; omega)) <;> (apply A.take 16; exact rfl; exact rfl; kernel_rfl; kernel_rfl; kernel_rfl; (apply Ok1.load; exact rfl; (apply Ld.own1; exact rfl; exact rfl; exact At.head; exact rfl))) <;> (apply A.take 17; exact rfl; exact rfl; kernel_rfl; kernel_rfl; kernel_rfl; (apply Ok1.indexAddrA; (iterate 5 exact rfl); omega; omega)) <;> (apply A.take 18; exact rfl; exact rfl; kernel_rfl; kernel_rfl; kernel_rfl; (apply Ok1.load; exact rfl; (apply Ld.own1; exact rfl; exact rfl; exact At.head; exact rfl))) <;> (apply A.take 19; exact rfl; exact rfl; kernel_rfl; kernel_rfl; kernel_rfl; (apply Ok1.andK; exact rfl; exact rfl)) <;> (apply A.take 20; exact rfl; exact rfl; kernel_rfl; kernel_rfl; kernel_rfl; (apply Ok1.xorK; exact rfl; exact rfl)) <;> (apply A.one 3; kernel_rfl; exact rfl; (((apply R.callFP (fa := []) (cb := []); (iterate 4 exact rfl); exact turnedB_ok _))); apply R.nil; refine ⟨?_, ?_⟩; (focus ((repeat' (first | exact trivial | (refine ⟨?_, ?_⟩; (focus ((repeat' (first | exact At.head | apply At.tail)); done)))))))) <;> (apply A.take 21; exact rfl; exact rfl; kernel_rfl; kernel_rfl; kernel_rfl; (apply Ok1.add32; exact rfl; exact rfl)) <;> (apply A.take 22; exact rfl; exact rfl; kernel_rfl; kernel_rfl; kernel_rfl; (apply Ok1.assign; exact rfl)) <;> (apply A.done; kernel_rfl))) | apply T.seq | apply T.region | apply T.block | apply T.skip | (apply T.cond_t; exact rfl)))
      refine ⟨i + 1, by omega, by omega, ⟨rfl, rfl, rfl, rfl, rfl, rfl, trivial⟩, ?_⟩
      rw [hst]
      (focus ((repeat' (first | exact Keep.nil _ | exact Ext.one _ _ | apply Keep.cons)); done))
    · have him : i = 64 := by omega
      subst him
      rw [hmix]
      generalize rs 64 = t at *
      clear hset hset2 hgk hgw hspr
      simp only [H8.v, H8.l, u32s, List.map_cons, List.map_nil, List.cons_append, List.nil_append]
      repeat' (first | (apply R.is1; first | (apply R.isBin; (apply R.pure; exact rfl; first | (apply Ok1.add64; exact rfl; exact rfl; omega; omega) | (apply Ok1.lss_t; exact rfl; exact rfl; omega) | (apply Ok1.lss_f; exact rfl; exact rfl; omega))) | (apply R.pure; exact rfl; first | (apply Ok1.move; exact rfl) | (apply Ok1.assign; exact rfl))) | apply R.nil | (apply T.is; first | apply T.rounds 9 | (apply T.drawC (id := 13) [0] (by decide); ((apply A.take 0; exact rfl; exact rfl; kernel_rfl; kernel_rfl; kernel_rfl; (apply Ok1.move; exact rfl)) <;> (apply A.take 1; exact rfl; exact rfl; kernel_rfl; kernel_rfl; kernel_rfl; (apply Ok1.move; exact rfl)) <;> (apply A.take 2; exact rfl; exact rfl; kernel_rfl; kernel_rfl; kernel_rfl; (apply Ok1.nilCheck; exact rfl)) <;> (apply A.take 3; exact rfl; exact rfl; kernel_rfl; kernel_rfl; kernel_rfl; (apply Ok1.fieldAddr; (iterate 5 exact rfl))) <;> (apply A.take 4; exact rfl; exact rfl; kernel_rfl; kernel_rfl; kernel_rfl; (apply Ok1.indexAddrA; (iterate 5 exact rfl); omega; omega)) <;> (apply A.take 6; exact rfl; exact rfl; kernel_rfl; kernel_rfl; kernel_rfl; (apply Ok1.move; exact rfl)) <;> (apply A.take 7; exact rfl; exact rfl; kernel_rfl; kernel_rfl; kernel_rfl; (apply Ok1.indexAddrA; (iterate 5 exact rfl); omega; omega)) <;> (apply A.take 8; exact rfl; exact rfl; kernel_rfl; kernel_rfl; kernel_rfl; (apply Ok1.load; exact rfl; (apply Ld.own1; exact rfl; exact rfl; exact At.head; exact rfl))) <;> (apply A.take 10; exact rfl; exact rfl; kernel_rfl; kernel_rfl; kernel_rfl; (apply Ok1.nilCheck; exact rfl)) <;> (apply A.take 11; exact rfl; exact rfl; kernel_rfl; kernel_rfl; kernel_rfl; (apply Ok1.fieldAddr; (iterate 5 exact rfl))) <;> (apply A.one 5; kernel_rfl; exact rfl; (((apply R.pure; exact rfl; (apply Ok1.load; exact rfl; (apply Ld.own1; exact rfl; exact rfl; (focus ((repeat' (first | exact At.head | apply At.tail)); done)); exact rfl))))); apply R.nil; refine ⟨?_, ?_⟩; (focus ((repeat' (first | exact trivial | (refine ⟨?_, ?_⟩; exact At.head)))))) <;> (apply A.take 9; exact rfl; exact rfl; kernel_rfl; kernel_rfl; kernel_rfl; (apply Ok1.add32; exact rfl; exact rfl)) <;> (apply A.take 12; exact rfl; exact rfl; kernel_rfl; kernel_rfl; kernel_rfl; (apply Ok1.indexAddrA; (iterate 5 exact rfl); omega; omega)) <;> (apply A.one 13; kernel_rfl; exact rfl; ((first | (apply R.store; (iterate 6 exact rfl); (focus ((repeat' (first | exact Upd.head | apply Upd.tail)); done)); exact rfl) | (apply R.store; (iterate 6 exact rfl); (focus ((repeat' (first | exact Upd.head | apply Upd.tail)); done)); exact setE_one (by simp only [List.length_cons]; omega)))); apply R.nil; refine ⟨?_, ?_⟩; (focus ((repeat' (first | exact trivial | (refine ⟨?_, ?_⟩; exact At.head)))))) <;> (apply A.done; kernel_rfl))) | apply T.seq | apply T.region | apply T.block | apply T.skip | apply T.exit | (apply T.cond_t; exact rfl) | (apply T.cond_f; exact rfl)))
      all_goals (apply RetOk.n)
      all_goals refine ⟨_, ?_, rfl, rfl⟩
      all_goals (focus ((repeat' (first | exact Keep.nil _ | exact Ext.one _ _ | apply Keep.cons | apply Ext.cons)); done))
end Go.Proofs.YtligpachgcmkcaaGreat
set_option linter.unusedSimpArgs false
set_option linter.unusedVariables false
namespace Go.Proofs.YtligpachgcmkcaaGreat
open Go.RowKit Go.Shelf
set_option maxRecDepth 100000
theorem u8s_app (a b : List Int) : u8s (a ++ b) = u8s a ++ u8s b := by simp [u8s]
theorem u8s_len (a : List Int) : (u8s a).length = a.length := by simp [u8s]
theorem u8s_one (a : List Int) : (u8s a).all Value.oneCell' = true := by rw [List.all_eq_true]; intro x hx; obtain ⟨y, _, rfl⟩ := List.mem_map.1 hx; rfl
theorem Byt.app {a b : List Int} (h1 : Byt a) (h2 : Byt b) : Byt (a ++ b) := fun x hx => by rcases List.mem_append.1 hx with h | h; exact h1 x h; exact h2 x h
theorem Byt.drop {a : List Int} (h : Byt a) (i : Nat) : Byt (a.drop i) := fun x hx => h x (List.mem_of_mem_drop hx)
theorem Byt.take {a : List Int} (h : Byt a) (i : Nat) : Byt (a.take i) := fun x hx => h x (List.mem_of_mem_take hx)
/-- p' reads as p does, from k on. -/
structure Sfx (p p' : Option Addr) (n k : Nat) : Prop where
  rd : ∀ (W : World) (xs : List Int), xs.length = n → RdSl W p u8V xs → RdSl W p' u8V (xs.drop k)
  off : ∀ S, Off p S → Off p' S
theorem Sfx.refl (p : Option Addr) (n : Nat) : Sfx p p n 0 := ⟨fun W xs _ h => h, fun _ h => h⟩
theorem Sfx.suf {p p' : Option Addr} {n k c i : Nat} (h : Sfx p p' n k) (h1 : k + i ≤ n) (h2 : n - k ≤ c) : Sfx p (sufP p' c i 1) n (k + i) :=
  ⟨fun W xs hl hp => by
    have := (h.rd W xs hl hp).suf u8V_len (cap := c) (i := i) (by rw [List.length_drop]; omega) (by rw [List.length_drop]; omega)
    rwa [List.drop_drop] at this, fun S ho => (h.off S ho).suf _ _ _⟩
theorem allI_step (b : List Int) (s : H8) {i : Nat} (h : 64 * i + 64 ≤ b.length) : allI kI (i + 1) b s = mixI kI ((b.drop (64 * i)).take 64) (allI kI i b s) := by
  induction i generalizing b s with
  | zero => rfl
  | succ i ih =>
    rw [allI, ih (b.drop 64) (mixI kI (b.take 64) s) (by rw [List.length_drop]; omega), List.drop_drop, show 64 + 64 * i = 64 * (i + 1) by omega]
    rfl
theorem all_ok (r : Nat) (s : H8) (rest : List Value) (e : TypeId) (p : Option Addr) (n cap : Nat) (b : List Int) (hn : n = b.length) (hcap : n ≤ cap) (hbig : n ≤ 1073741824) (hb : Byt b) (w : World) (hp : RdSl w p u8V b) (hoff : Off p [r]) :
    CallM Tryz.prog 58 [.pointer (some ⟨r, 0, none⟩), .slice p n cap] [(r, .cells ⟨s.v ++ rest⟩ e (0, 0))] w fun v L => ∃ p' cap', v = .slice p' (n - 64 * (n / 64)) cap' ∧ n - 64 * (n / 64) ≤ cap' ∧ Sfx p p' n (64 * (n / 64)) ∧ L = [(r, .cells ⟨(allI kI (n / 64) b s).v ++ rest⟩ e (0, 0))] := by
  refine enterK (tb := tb) Tryz.func58 rfl Tryz.ntmps58 rfl ?_
  repeat' (first | (apply R.is1; first | (apply R.isBin; first | (apply R.pure; exact rfl; first | (apply Ok1.geq_t; exact rfl; exact rfl; omega) | (apply Ok1.geq_f; exact rfl; exact rfl; omega)) | (apply R.geq rfl rfl rfl <;> intro)) | (apply R.isCall; first | (apply R.pure; exact rfl; first | (apply Ok1.lenS; (iterate 3 exact rfl)) | (apply Ok1.lenStr; (iterate 3 exact rfl)) | (apply Ok1.lenMm; (iterate 3 exact rfl); (focus ((repeat' (first | exact At.head | apply At.tail | apply At.right)); done))) | (apply Ok1.lenM_nil; (iterate 3 exact rfl)))) | (apply R.pure; exact rfl; first | (apply Ok1.move; exact rfl) | (apply Ok1.assign; exact rfl) | (apply Ok1.slice0; (iterate 7 exact rfl); (refine ⟨?_, ?_, ?_⟩ <;> omega); (first | exact Or.inl rfl | exact Or.inr (fun e => by cases e))) | (apply Ok1.sliceTo; (iterate 6 exact rfl); omega; omega; omega; (first | exact Or.inl rfl | exact Or.inr (fun e => by cases e))) | (apply Ok1.sliceFrom; (iterate 7 exact rfl); omega; omega; omega; omega; omega; (first | exact Or.inl rfl | exact Or.inr (fun e => by cases e))))) | (apply R.is0; first | fail) | (apply R.isG; first | (apply R.guard_run; exact rfl; exact rfl) | (apply R.guard_not; (iterate 3 exact rfl)) | (apply R.guard_not0; exact rfl; exact rfl) | (apply R.guard_un; (iterate 3 exact rfl)) | (apply R.guard_un0; exact rfl; exact rfl) | (apply R.guard rfl rfl ?_ (fun h => ⟨rfl, ?_⟩) <;> try intro)) | apply R.nil | (apply T.is; first | apply T.seq | apply T.region | apply T.block | apply T.scope | apply T.label | apply T.skip | apply T.exit | apply T.ret | (apply T.cond_t; exact rfl) | (apply T.cond_f; exact rfl) | (apply T.cond_h; exact rfl; assumption) | (apply T.cond_n; exact rfl; assumption) | (apply T.cond rfl <;> intro)) | apply Rnd.step)
  apply T.loopK (α := Nat × Option Addr × Nat) (I := fun x => 64 * x.1 ≤ n ∧ n - 64 * x.1 ≤ x.2.2 ∧ Sfx p x.2.1 n (64 * x.1)) (σi := fun x => [(0, .pointer (some ⟨r, 0, none⟩)), (1, .slice x.2.1 (n - 64 * x.1) x.2.2)]) (Li := fun x => [(r, .cells ⟨(allI kI x.1 b s).v ++ rest⟩ e (0, 0))]) (μ := fun x => n - 64 * x.1) (i0 := (0, p, cap))
  · exact ⟨by omega, by simpa using hcap, Sfx.refl p n⟩
  · exact ⟨rfl, rfl, trivial⟩
  · (focus ((repeat' (first | exact Keep.nil _ | exact Ext.one _ _ | exact Ext.here _ _ | exact Ext.all _ | apply Keep.cons | apply Keep.app | apply Keep.last | apply Ext.cons | apply Ext.app)); done))
  · rintro ⟨i, p1, c1⟩ ⟨hi, hc, hs⟩
    simp only at hi hc hs ⊢
    by_cases hlt : 64 * i + 64 ≤ n
    · have hst := allI_step b s (i := i) (by omega)
      have hmix : ∀ w1, Chg [r] w w1 → CallM Tryz.prog 72 [.pointer (some ⟨r, 0, none⟩), .slice p1 64 c1] [(r, .cells ⟨(allI kI i b s).v ++ rest⟩ e (0, 0))] w1 fun v L => v = .tuple #[] ∧ L = [(r, .cells ⟨(allI kI (i + 1) b s).v ++ rest⟩ e (0, 0))] := by
        intro w1 hch
        rw [hst]
        have hrd := (hs.rd w1 b hn.symm (hp.chg hch hoff)).pre u8V_len 64
        exact mix_ok r _ rest e p1 64 c1 ((b.drop (64 * i)).take 64) (by rw [List.length_take, List.length_drop]; omega) (by rw [List.length_take, List.length_drop]; omega) (by omega) ((hb.drop _).take _) w1 hrd (hs.off _ hoff)
      have hnew : Sfx p (sufP p1 c1 64 1) n (64 * i + 64) := hs.suf (by omega) (by omega)
      repeat' (first | (apply R.is1; first | (apply R.isBin; first | (apply R.pure; exact rfl; first | (apply Ok1.geq_t; exact rfl; exact rfl; omega) | (apply Ok1.geq_f; exact rfl; exact rfl; omega)) | (apply R.geq rfl rfl rfl <;> intro)) | (apply R.isCall; first | (apply R.callE; (iterate 3 exact rfl); exact Ext.all _; intro w1 hw1; exact hmix w1 hw1.chg; rintro v Lo ⟨rfl, rfl⟩) | (apply R.pure; exact rfl; first | (apply Ok1.lenS; (iterate 3 exact rfl)) | (apply Ok1.lenStr; (iterate 3 exact rfl)) | (apply Ok1.lenMm; (iterate 3 exact rfl); (focus ((repeat' (first | exact At.head | apply At.tail | apply At.right)); done))) | (apply Ok1.lenM_nil; (iterate 3 exact rfl)))) | (apply R.pure; exact rfl; first | (apply Ok1.preR (i := 64); (iterate 5 exact rfl); omega) | (apply Ok1.sufR (i := 64) (sz := 1); (iterate 6 exact rfl); omega; omega) | (apply Ok1.move; exact rfl) | (apply Ok1.assign; exact rfl) | (apply Ok1.slice0; (iterate 7 exact rfl); (refine ⟨?_, ?_, ?_⟩ <;> omega); (first | exact Or.inl rfl | exact Or.inr (fun e => by cases e))) | (apply Ok1.sliceTo; (iterate 6 exact rfl); omega; omega; omega; (first | exact Or.inl rfl | exact Or.inr (fun e => by cases e))) | (apply Ok1.sliceFrom; (iterate 7 exact rfl); omega; omega; omega; omega; omega; (first | exact Or.inl rfl | exact Or.inr (fun e => by cases e))))) | (apply R.is0; first | fail) | (apply R.isG; first | (apply R.guard_run; exact rfl; exact rfl) | (apply R.guard_not; (iterate 3 exact rfl)) | (apply R.guard_not0; exact rfl; exact rfl) | (apply R.guard_un; (iterate 3 exact rfl)) | (apply R.guard_un0; exact rfl; exact rfl) | (apply R.guard rfl rfl ?_ (fun h => ⟨rfl, ?_⟩) <;> try intro)) | apply R.nil | (apply T.is; first | apply T.seq | apply T.region | apply T.block | apply T.scope | apply T.label | apply T.skip | apply T.exit | apply T.ret | (apply T.cond_t; exact rfl) | (apply T.cond_f; exact rfl) | (apply T.cond_h; exact rfl; assumption) | (apply T.cond_n; exact rfl; assumption) | (apply T.cond rfl <;> intro)) | apply Rnd.step)
      refine ⟨(i + 1, sufP p1 c1 64 1, c1 - 64), ⟨by simp only; omega, by simp only; omega, hnew⟩, by simp only; omega, ⟨rfl, ?_, trivial⟩, by (focus ((repeat' (first | exact Keep.nil _ | exact Ext.one _ _ | exact Ext.here _ _ | exact Ext.all _ | apply Keep.cons | apply Keep.app | apply Keep.last | apply Ext.cons | apply Ext.app)); done))⟩
      rw [show n - 64 * (i + 1) = n - 64 * i - 64 by omega]
      rfl
    · have hdiv : n / 64 = i := by omega
      repeat' (first | (apply R.is1; first | (apply R.isBin; first | (apply R.pure; exact rfl; first | (apply Ok1.geq_t; exact rfl; exact rfl; omega) | (apply Ok1.geq_f; exact rfl; exact rfl; omega)) | (apply R.geq rfl rfl rfl <;> intro)) | (apply R.isCall; first | (apply R.pure; exact rfl; first | (apply Ok1.lenS; (iterate 3 exact rfl)) | (apply Ok1.lenStr; (iterate 3 exact rfl)) | (apply Ok1.lenMm; (iterate 3 exact rfl); (focus ((repeat' (first | exact At.head | apply At.tail | apply At.right)); done))) | (apply Ok1.lenM_nil; (iterate 3 exact rfl)))) | (apply R.pure; exact rfl; first | (apply Ok1.move; exact rfl) | (apply Ok1.assign; exact rfl) | (apply Ok1.slice0; (iterate 7 exact rfl); (refine ⟨?_, ?_, ?_⟩ <;> omega); (first | exact Or.inl rfl | exact Or.inr (fun e => by cases e))) | (apply Ok1.sliceTo; (iterate 6 exact rfl); omega; omega; omega; (first | exact Or.inl rfl | exact Or.inr (fun e => by cases e))) | (apply Ok1.sliceFrom; (iterate 7 exact rfl); omega; omega; omega; omega; omega; (first | exact Or.inl rfl | exact Or.inr (fun e => by cases e))))) | (apply R.is0; first | fail) | (apply R.isG; first | (apply R.guard_run; exact rfl; exact rfl) | (apply R.guard_not; (iterate 3 exact rfl)) | (apply R.guard_not0; exact rfl; exact rfl) | (apply R.guard_un; (iterate 3 exact rfl)) | (apply R.guard_un0; exact rfl; exact rfl) | (apply R.guard rfl rfl ?_ (fun h => ⟨rfl, ?_⟩) <;> try intro)) | apply R.nil | (apply T.is; first | apply T.seq | apply T.region | apply T.block | apply T.scope | apply T.label | apply T.skip | apply T.exit | apply T.ret | (apply T.cond_t; exact rfl) | (apply T.cond_f; exact rfl) | (apply T.cond_h; exact rfl; assumption) | (apply T.cond_n; exact rfl; assumption) | (apply T.cond rfl <;> intro)) | apply Rnd.step)
      (apply RetOk.t; exact rfl)
      refine ⟨_, ?_, p1, c1, by rw [hdiv], by rw [hdiv]; exact hc, by rw [hdiv]; exact hs, rfl⟩
      rw [hdiv]
      (focus ((repeat' (first | exact Keep.nil _ | exact Ext.one _ _ | exact Ext.here _ _ | exact Ext.all _ | apply Keep.cons | apply Keep.app | apply Keep.last | apply Ext.cons | apply Ext.app)); done))
end Go.Proofs.YtligpachgcmkcaaGreat
set_option linter.unusedSimpArgs false
set_option linter.unusedVariables false
namespace Go.Proofs.YtligpachgcmkcaaGreat
open Go.RowKit Go.Shelf
set_option maxRecDepth 100000
theorem u8_mod (i : Int) : IntKind.u8.wrap i = i % 256 := by simp [IntKind.wrap, IntKind.bits, IntKind.signed]
theorem out_ok (r : Nat) (s : H8) (rest : List Value) (e : TypeId) (fz : Nat × Nat) (w : World) (hb : w.heap[r]? = some (.cells ⟨s.v ++ rest⟩ e fz)) : CallW Tryz.prog 62 [.pointer (some ⟨r, 0, none⟩)] w fun v _ => v = .agg ⟨u8s (outI s)⟩ := by
  have hsv : subE (s.v ++ rest) 0 8 = some s.v := subE_app _ _ rfl
  refine enterW (tb := tb) Tryz.func62 rfl Tryz.ntmps62 rfl ?_
  repeat' (first | (apply R.is1; first | (apply R.isBin; first | (apply R.pure; exact rfl; first | (apply Ok1.add64; exact rfl; exact rfl; omega; omega) | (apply Ok1.lss_t; exact rfl; exact rfl; omega) | (apply Ok1.lss_f; exact rfl; exact rfl; omega) | (apply Ok1.mul64; exact rfl; exact rfl; omega; omega) | (apply Ok1.shr; exact rfl; exact rfl; omega; exact Nat.le_of_ble_eq_true rfl; (first | exact pwE1 | exact pwE2 | exact pwE3 | exact pwE4 | exact pwE5 | exact pwE6 | exact pwE7 | exact pwE8 | exact pwE16 | exact pwE24 | exact pwE32 | exact rfl))) | (apply R.lss rfl rfl rfl <;> intro)) | (apply R.pure; exact rfl; first | (apply Ok1.load; exact rfl; apply Ld.blkk; exact rfl; exact rfl; exact hb; exact List.not_mem_nil; exact hsv) | (apply Ok1.move; exact rfl) | (apply Ok1.fieldAddr; (iterate 5 exact rfl)) | (apply Ok1.load; exact rfl; first | (apply Ld.own1; exact rfl; exact rfl; (focus ((repeat' (first | exact At.head | apply At.tail | apply At.right)); done)); exact rfl) | (apply Ld.ownk; exact rfl; exact rfl; (focus ((repeat' (first | exact At.head | apply At.tail | apply At.right)); done)); exact rfl) | (apply Ld.old1; exact rfl; exact rfl; assumption; (first | exact List.not_mem_nil | assumption)) | (apply Ld.blk1; exact rfl; exact rfl; assumption; (first | exact List.not_mem_nil | assumption); exact rfl) | (apply Ld.blkk; exact rfl; exact rfl; assumption; (first | exact List.not_mem_nil | assumption); exact rfl)) | (apply Ok1.assign; exact rfl) | (apply Ok1.indexAddr; (iterate 5 exact rfl); omega; omega) | (apply Ok1.indexAddrA; (iterate 5 exact rfl); omega; omega) | (apply Ok1.nilCheck; exact rfl) | (apply Ok1.nilCheckF; exact rfl) | (apply Ok1.index1; (iterate 6 exact rfl); omega; omega; exact rfl) | (apply Ok1.indexk; (iterate 6 exact rfl); omega; omega; exact rfl) | (apply Ok1.convI64; (iterate 5 exact rfl); omega; omega) | (apply Ok1.convU64; (iterate 5 exact rfl); omega; omega) | (apply Ok1.convU32; (iterate 5 exact rfl); omega; omega) | (apply Ok1.convU8; (iterate 5 exact rfl); omega; omega) | (apply Ok1.conv; (iterate 5 exact rfl))) | (apply R.alloc; (iterate 3 exact rfl); intro)) | (apply R.is0; first | (apply R.store; (iterate 6 exact rfl); (focus ((repeat' (first | exact Upd.head | apply Upd.tail | apply Upd.right)); done)); exact rfl) | fail) | (apply R.isG; first | (apply R.guard_run; exact rfl; exact rfl) | (apply R.guard_not; (iterate 3 exact rfl)) | (apply R.guard_not0; exact rfl; exact rfl) | (apply R.guard_un; (iterate 3 exact rfl)) | (apply R.guard_un0; exact rfl; exact rfl) | (apply R.guard rfl rfl ?_ (fun h => ⟨rfl, ?_⟩) <;> try intro)) | apply R.nil | (apply T.is; first | apply T.seq | apply T.region | apply T.block | apply T.scope | apply T.label | apply T.skip | apply T.exit | apply T.ret | (apply T.cond_t; exact rfl) | (apply T.cond_f; exact rfl) | (apply T.cond_h; exact rfl; assumption) | (apply T.cond_n; exact rfl; assumption) | (apply T.cond rfl <;> intro)) | apply Rnd.step)
  simp only [H8.v, H8.l, u32s, List.map_cons, List.map_nil]
  repeat' (first | (apply R.is1; first | (apply R.isBin; first | (apply R.pure; exact rfl; first | (apply Ok1.add64; exact rfl; exact rfl; omega; omega) | (apply Ok1.lss_t; exact rfl; exact rfl; omega) | (apply Ok1.lss_f; exact rfl; exact rfl; omega) | (apply Ok1.mul64; exact rfl; exact rfl; omega; omega) | (apply Ok1.shr; exact rfl; exact rfl; omega; exact Nat.le_of_ble_eq_true rfl; (first | exact pwE1 | exact pwE2 | exact pwE3 | exact pwE4 | exact pwE5 | exact pwE6 | exact pwE7 | exact pwE8 | exact pwE16 | exact pwE24 | exact pwE32 | exact rfl))) | (apply R.lss rfl rfl rfl <;> intro)) | (apply R.pure; exact rfl; first | (apply Ok1.move; exact rfl) | (apply Ok1.fieldAddr; (iterate 5 exact rfl)) | (apply Ok1.load; exact rfl; first | (apply Ld.own1; exact rfl; exact rfl; (focus ((repeat' (first | exact At.head | apply At.tail | apply At.right)); done)); exact rfl) | (apply Ld.ownk; exact rfl; exact rfl; (focus ((repeat' (first | exact At.head | apply At.tail | apply At.right)); done)); exact rfl) | (apply Ld.old1; exact rfl; exact rfl; assumption; (first | exact List.not_mem_nil | assumption)) | (apply Ld.blk1; exact rfl; exact rfl; assumption; (first | exact List.not_mem_nil | assumption); exact rfl) | (apply Ld.blkk; exact rfl; exact rfl; assumption; (first | exact List.not_mem_nil | assumption); exact rfl)) | (apply Ok1.assign; exact rfl) | (apply Ok1.indexAddr; (iterate 5 exact rfl); omega; omega) | (apply Ok1.indexAddrA; (iterate 5 exact rfl); omega; omega) | (apply Ok1.nilCheck; exact rfl) | (apply Ok1.nilCheckF; exact rfl) | (apply Ok1.index1; (iterate 6 exact rfl); omega; omega; exact rfl) | (apply Ok1.indexk; (iterate 6 exact rfl); omega; omega; exact rfl) | (apply Ok1.convI64; (iterate 5 exact rfl); omega; omega) | (apply Ok1.convU64; (iterate 5 exact rfl); omega; omega) | (apply Ok1.convU32; (iterate 5 exact rfl); omega; omega) | (apply Ok1.convU8; (iterate 5 exact rfl); omega; omega) | (apply Ok1.conv; (iterate 5 exact rfl))) | (apply R.alloc; (iterate 3 exact rfl); intro)) | (apply R.is0; first | (apply R.store; (iterate 6 exact rfl); (focus ((repeat' (first | exact Upd.head | apply Upd.tail | apply Upd.right)); done)); exact rfl) | fail) | (apply R.isG; first | (apply R.guard_run; exact rfl; exact rfl) | (apply R.guard_not; (iterate 3 exact rfl)) | (apply R.guard_not0; exact rfl; exact rfl) | (apply R.guard_un; (iterate 3 exact rfl)) | (apply R.guard_un0; exact rfl; exact rfl) | (apply R.guard rfl rfl ?_ (fun h => ⟨rfl, ?_⟩) <;> try intro)) | apply R.nil | (apply T.is; first | apply T.rounds 9 | apply T.seq | apply T.region | apply T.block | apply T.scope | apply T.label | apply T.skip | apply T.exit | apply T.ret | (apply T.cond_t; exact rfl) | (apply T.cond_f; exact rfl) | (apply T.cond_h; exact rfl; assumption) | (apply T.cond_n; exact rfl; assumption) | (apply T.cond rfl <;> intro)) | apply Rnd.step)
  (apply RetOk.c; exact rfl; (first | (apply Ld.ownk; exact rfl; exact rfl; (focus ((repeat' (first | exact At.head | apply At.tail | apply At.right)); done)); exact rfl) | (apply Ld.own1; exact rfl; exact rfl; (focus ((repeat' (first | exact At.head | apply At.tail | apply At.right)); done)); exact rfl)))
  simp only [u8_mod]
  rfl
theorem rdnone {n : Nat} {xs : List Int} {w : World} (hn : n = xs.length) (h : RdSl w none u8V xs) : n = 0 := by
  rcases h with h | ⟨b, o, h, _⟩
  · rw [hn, h]; rfl
  · cases h
theorem clone_ok (p : Option Addr) (n cap : Nat) (xs : List Int) (hn : n = xs.length) (hbig : n ≤ 1000000000) (w : World) (hp : RdSl w p u8V xs) : CallM Tryz.prog 29 [.slice p n cap] [] w fun v L => ∃ ov, OvOk 1 ov n (u8s xs) ∧ ov.isSome = p.isSome ∧ v = slV ov n ∧ L = blkL 5 ov (u8s xs) := by
  refine enterK (tb := tb) Tryz.func29 rfl Tryz.ntmps29 rfl ?_
  cases p with
  | none =>
    have h0 := rdnone hn hp
    have hx : xs = [] := List.eq_nil_of_length_eq_zero (by omega)
    subst hx
    repeat' (first | (apply R.is1; first | (apply R.isBin; first | (apply R.pure; exact rfl; first | (apply Ok1.eqlS; (iterate 5 exact rfl)) | (apply Ok1.eql_t; exact rfl; exact rfl; omega) | (apply Ok1.eql_f; exact rfl; exact rfl; omega) | (apply Ok1.eqlP; (iterate 5 exact rfl)) | (apply Ok1.eqlM; (iterate 5 exact rfl)) | (apply Ok1.eqlS; (iterate 5 exact rfl))) | (apply R.eql rfl rfl rfl <;> intro) | (apply R.eqlF; (iterate 8 exact rfl); all_goals intro)) | (apply R.pure; exact rfl; first | (apply Ok1.move; exact rfl) | (apply Ok1.assign; exact rfl)) | (apply R.buildSlice; (iterate 12 exact rfl); intro)) | (apply R.is0; first | fail) | (apply R.isG; first | (apply R.guard_run; exact rfl; exact rfl) | (apply R.guard_not; (iterate 3 exact rfl)) | (apply R.guard_not0; exact rfl; exact rfl) | (apply R.guard_un; (iterate 3 exact rfl)) | (apply R.guard_un0; exact rfl; exact rfl) | (apply R.guard rfl rfl ?_ (fun h => ⟨rfl, ?_⟩) <;> try intro)) | apply R.nil | (apply T.is; first | apply T.seq | apply T.region | apply T.block | apply T.scope | apply T.label | apply T.skip | apply T.exit | apply T.ret | (apply T.cond_t; exact rfl) | (apply T.cond_f; exact rfl) | (apply T.cond_h; exact rfl; assumption) | (apply T.cond_n; exact rfl; assumption) | (apply T.cond rfl <;> intro)) | apply Rnd.step)
    (apply RetOk.t; exact rfl)
    exact ⟨_, by (focus ((repeat' (first | exact Keep.nil _ | exact Ext.one _ _ | exact Ext.here _ _ | exact Ext.all _ | apply Keep.cons | apply Keep.app | apply Keep.last | apply Ext.cons | apply Ext.app)); done)), none, by rw [h0]; exact OvOk.start 1, rfl, rfl, rfl⟩
  | some a =>
    repeat' (first | (apply R.is1; first | (apply R.buildSlice0; (iterate 4 exact rfl); intro b0) | (apply R.isBin; first | (apply R.pure; exact rfl; first | (apply Ok1.eqlS; (iterate 5 exact rfl)) | (apply Ok1.eql_t; exact rfl; exact rfl; omega) | (apply Ok1.eql_f; exact rfl; exact rfl; omega) | (apply Ok1.eqlP; (iterate 5 exact rfl)) | (apply Ok1.eqlM; (iterate 5 exact rfl)) | (apply Ok1.eqlS; (iterate 5 exact rfl))) | (apply R.eql rfl rfl rfl <;> intro) | (apply R.eqlF; (iterate 8 exact rfl); all_goals intro)) | (apply R.isCall; first | (apply R.appendRd (xs := xs) (v := u8V) (sz := 1) (ov := some (b0, 0, [])) (n := 0) (old := []); (iterate 12 exact rfl); exact ⟨rfl, rfl⟩; (focus ((repeat' (first | exact Ext.none _ | exact Ext.one _ _ | exact Ext.here _ _ | exact Ext.all _ | apply Ext.cons | apply Ext.app | apply Ext.two)); done)); exact hn; exact u8V_len; exact rfl; (intro w1 hw1; exact hp.chg hw1.chg (Off.nil _)); (focus (rw [fl_u8]; exact u8s_one xs)); omega; intro ov1 hov1 hsome)) | (apply R.pure; exact rfl; first | (apply Ok1.move; exact rfl) | (apply Ok1.assign; exact rfl)) | (apply R.buildSlice; (iterate 12 exact rfl); intro)) | (apply R.is0; first | fail) | (apply R.isG; first | (apply R.guard_run; exact rfl; exact rfl) | (apply R.guard_not; (iterate 3 exact rfl)) | (apply R.guard_not0; exact rfl; exact rfl) | (apply R.guard_un; (iterate 3 exact rfl)) | (apply R.guard_un0; exact rfl; exact rfl) | (apply R.guard rfl rfl ?_ (fun h => ⟨rfl, ?_⟩) <;> try intro)) | apply R.nil | (apply T.is; first | apply T.seq | apply T.region | apply T.block | apply T.scope | apply T.label | apply T.skip | apply T.exit | apply T.ret | (apply T.cond_t; exact rfl) | (apply T.cond_f; exact rfl) | (apply T.cond_h; exact rfl; assumption) | (apply T.cond_n; exact rfl; assumption) | (apply T.cond rfl <;> intro)) | apply Rnd.step)
    rw [Nat.zero_add, List.nil_append, fl_u8] at hov1
    rw [Nat.zero_add, List.nil_append, fl_u8]
    repeat' (first | (apply R.is1; first | (apply R.isBin; first | (apply R.pure; exact rfl; first | (apply Ok1.eql_t; exact rfl; exact rfl; omega) | (apply Ok1.eql_f; exact rfl; exact rfl; omega) | (apply Ok1.eqlP; (iterate 5 exact rfl)) | (apply Ok1.eqlM; (iterate 5 exact rfl)) | (apply Ok1.eqlS; (iterate 5 exact rfl))) | (apply R.eql rfl rfl rfl <;> intro) | (apply R.eqlF; (iterate 8 exact rfl); all_goals intro)) | (apply R.pure; exact rfl; first | (apply Ok1.move; exact rfl) | (apply Ok1.assign; exact rfl)) | (apply R.buildSlice; (iterate 12 exact rfl); intro)) | (apply R.is0; first | fail) | (apply R.isG; first | (apply R.guard_run; exact rfl; exact rfl) | (apply R.guard_not; (iterate 3 exact rfl)) | (apply R.guard_not0; exact rfl; exact rfl) | (apply R.guard_un; (iterate 3 exact rfl)) | (apply R.guard_un0; exact rfl; exact rfl) | (apply R.guard rfl rfl ?_ (fun h => ⟨rfl, ?_⟩) <;> try intro)) | apply R.nil | (apply T.is; first | apply T.seq | apply T.region | apply T.block | apply T.scope | apply T.label | apply T.skip | apply T.exit | apply T.ret | (apply T.cond_t; exact rfl) | (apply T.cond_f; exact rfl) | (apply T.cond_h; exact rfl; assumption) | (apply T.cond_n; exact rfl; assumption) | (apply T.cond rfl <;> intro)) | apply Rnd.step)
    (apply RetOk.t; exact rfl)
    refine ⟨_, ?_, ov1, hov1, by rw [hsome rfl]; rfl, rfl, rfl⟩
    (focus ((repeat' (first | exact Keep.nil _ | exact Ext.one _ _ | exact Ext.here _ _ | exact Ext.all _ | apply Keep.cons | apply Keep.app | apply Keep.last | apply Ext.cons | apply Ext.app)); done))
theorem grow_ok (n : Nat) (hbig : n ≤ 1000000000) (w : World) : CallM Tryz.prog 73 [.slice none 0 0, .int .i64 n] [] w fun v L => ∃ ov, OvOk 1 ov 0 [] ∧ v = slV ov 0 ∧ L = blkL 5 ov [] := by
  refine enterK (tb := tb) Tryz.func73 rfl Tryz.ntmps73 rfl ?_
  rcases Nat.eq_zero_or_pos n with h0 | h0
  · subst h0
    repeat' (first | (apply R.is1; first | (apply R.isBin; first | (apply R.pure; exact rfl; first | (apply Ok1.sub64; exact rfl; exact rfl; omega; omega) | (apply Ok1.lss_t; exact rfl; exact rfl; omega) | (apply Ok1.lss_f; exact rfl; exact rfl; omega) | (apply Ok1.gtr_t; exact rfl; exact rfl; omega) | (apply Ok1.gtr_f; exact rfl; exact rfl; omega)) | (apply R.lss rfl rfl rfl <;> intro) | (apply R.gtr rfl rfl rfl <;> intro)) | (apply R.isCall; first | (apply R.pure; exact rfl; first | (apply Ok1.lenS; (iterate 3 exact rfl)) | (apply Ok1.lenStr; (iterate 3 exact rfl)) | (apply Ok1.lenMm; (iterate 3 exact rfl); (focus ((repeat' (first | exact At.head | apply At.tail | apply At.right)); done))) | (apply Ok1.lenM_nil; (iterate 3 exact rfl)))) | (apply R.pure; exact rfl; first | (apply Ok1.capS; (iterate 3 exact rfl)) | (apply Ok1.move; exact rfl) | (apply Ok1.assign; exact rfl) | (apply Ok1.slice0; (iterate 7 exact rfl); (refine ⟨?_, ?_, ?_⟩ <;> omega); (first | exact Or.inl rfl | exact Or.inr (fun e => by cases e))) | (apply Ok1.sliceTo; (iterate 6 exact rfl); omega; omega; omega; (first | exact Or.inl rfl | exact Or.inr (fun e => by cases e))) | (apply Ok1.sliceFrom; (iterate 7 exact rfl); omega; omega; omega; omega; omega; (first | exact Or.inl rfl | exact Or.inr (fun e => by cases e))))) | (apply R.is0; first | fail) | (apply R.isG; first | (apply R.guard_run; exact rfl; exact rfl) | (apply R.guard_not; (iterate 3 exact rfl)) | (apply R.guard_not0; exact rfl; exact rfl) | (apply R.guard_un; (iterate 3 exact rfl)) | (apply R.guard_un0; exact rfl; exact rfl) | (apply R.guard rfl rfl ?_ (fun h => ⟨rfl, ?_⟩) <;> try intro)) | apply R.nil | (apply T.is; first | apply T.seq | apply T.region | apply T.block | apply T.scope | apply T.label | apply T.skip | apply T.exit | apply T.ret | (apply T.cond_t; exact rfl) | (apply T.cond_f; exact rfl) | (apply T.cond_h; exact rfl; assumption) | (apply T.cond_n; exact rfl; assumption) | (apply T.cond rfl <;> intro)) | apply Rnd.step)
    (apply RetOk.t; exact rfl)
    exact ⟨_, by (focus ((repeat' (first | exact Keep.nil _ | exact Ext.one _ _ | exact Ext.here _ _ | exact Ext.all _ | apply Keep.cons | apply Keep.app | apply Keep.last | apply Ext.cons | apply Ext.app)); done)), none, OvOk.start 1, rfl, rfl⟩
  · repeat' (first | (apply R.is1; first | (apply R.isBin; first | (apply R.pure; exact rfl; first | (apply Ok1.sub64; exact rfl; exact rfl; omega; omega) | (apply Ok1.lss_t; exact rfl; exact rfl; omega) | (apply Ok1.lss_f; exact rfl; exact rfl; omega) | (apply Ok1.gtr_t; exact rfl; exact rfl; omega) | (apply Ok1.gtr_f; exact rfl; exact rfl; omega)) | (apply R.lss rfl rfl rfl <;> intro) | (apply R.gtr rfl rfl rfl <;> intro)) | (apply R.isCall; first | (apply R.growMk (n := n); (iterate 12 exact rfl); omega; omega; intro b0 j0) | (apply R.pure; exact rfl; first | (apply Ok1.lenS; (iterate 3 exact rfl)) | (apply Ok1.lenStr; (iterate 3 exact rfl)) | (apply Ok1.lenMm; (iterate 3 exact rfl); (focus ((repeat' (first | exact At.head | apply At.tail | apply At.right)); done))) | (apply Ok1.lenM_nil; (iterate 3 exact rfl)))) | (apply R.pure; exact rfl; first | (apply Ok1.capS; (iterate 3 exact rfl)) | (apply Ok1.move; exact rfl) | (apply Ok1.assign; exact rfl) | (apply Ok1.slice0; (iterate 7 exact rfl); (refine ⟨?_, ?_, ?_⟩ <;> omega); (first | exact Or.inl rfl | exact Or.inr (fun e => by cases e))) | (apply Ok1.sliceTo; (iterate 6 exact rfl); omega; omega; omega; (first | exact Or.inl rfl | exact Or.inr (fun e => by cases e))) | (apply Ok1.sliceFrom; (iterate 7 exact rfl); omega; omega; omega; omega; omega; (first | exact Or.inl rfl | exact Or.inr (fun e => by cases e))))) | (apply R.is0; first | fail) | (apply R.isG; first | (apply R.guard_run; exact rfl; exact rfl) | (apply R.guard_not; (iterate 3 exact rfl)) | (apply R.guard_not0; exact rfl; exact rfl) | (apply R.guard_un; (iterate 3 exact rfl)) | (apply R.guard_un0; exact rfl; exact rfl) | (apply R.guard rfl rfl ?_ (fun h => ⟨rfl, ?_⟩) <;> try intro)) | apply R.nil | (apply T.is; first | apply T.seq | apply T.region | apply T.block | apply T.scope | apply T.label | apply T.skip | apply T.exit | apply T.ret | (apply T.cond_t; exact rfl) | (apply T.cond_f; exact rfl) | (apply T.cond_h; exact rfl; assumption) | (apply T.cond_n; exact rfl; assumption) | (apply T.cond rfl <;> intro)) | apply Rnd.step)
    (apply RetOk.t; exact rfl)
    refine ⟨_, ?_, some (b0, n + j0, List.replicate (n + j0) (.int .u8 0)), ⟨rfl, by simp⟩, by simp [slV]; omega, rfl⟩
    simp only [blkL, List.nil_append]
    (focus ((repeat' (first | exact Keep.nil _ | exact Ext.one _ _ | exact Ext.here _ _ | exact Ext.all _ | apply Keep.cons | apply Keep.app | apply Keep.last | apply Ext.cons | apply Ext.app)); done))
/-- A part: a slice of bytes. -/
structure Pt where
  p : Option Addr
  cap : Nat
  xs : List Int
deriving Inhabited
def Pt.v (x : Pt) : List Value := [.slice x.p x.xs.length x.cap]
theorem Pt.v_len (x : Pt) : x.v.length = 1 := rfl
def cat (ps : List Pt) : List Int := ps.flatMap (·.xs)
theorem cat_nil : cat [] = [] := rfl
theorem cat_snoc {ps : List Pt} {i : Nat} {x : Pt} (h : ps[i]? = some x) : cat (ps.take (i + 1)) = cat (ps.take i) ++ x.xs := by
  unfold cat
  rw [List.take_add_one, h, List.flatMap_append]
  simp
theorem cat_le (ps : List Pt) (i : Nat) : (cat (ps.take i)).length ≤ (cat ps).length := by
  conv => rhs; rw [← List.take_append_drop i ps]
  unfold cat
  rw [List.flatMap_append, List.length_append]
  omega
theorem concat_ok (p : Option Addr) (n cap : Nat) (ps : List Pt) (hn : n = ps.length) (hbig : (cat ps).length ≤ 1000000000) (hbig2 : n ≤ 1000000000) (w : World) (hp : RdSl w p Pt.v ps) (hall : ∀ x ∈ ps, RdSl w x.p u8V x.xs) :
    CallM Tryz.prog 59 [.slice p n cap] [] w fun v L => ∃ ov, OvOk 1 ov (cat ps).length (u8s (cat ps)) ∧ v = slV ov (cat ps).length ∧ L = blkL 5 ov (u8s (cat ps)) := by
  subst hn
  refine enterK (tb := tb) Tryz.func59 rfl Tryz.ntmps59 rfl ?_
  repeat' (first | (apply R.is1; first | (apply R.isBin; first | (apply R.pure; exact rfl; first | (apply Ok1.add64; exact rfl; exact rfl; omega; omega) | (apply Ok1.lss_t; exact rfl; exact rfl; omega) | (apply Ok1.lss_f; exact rfl; exact rfl; omega)) | (apply R.lss rfl rfl rfl <;> intro)) | (apply R.isCall; first | (apply R.pure; exact rfl; first | (apply Ok1.lenS; (iterate 3 exact rfl)) | (apply Ok1.lenStr; (iterate 3 exact rfl)) | (apply Ok1.lenMm; (iterate 3 exact rfl); (focus ((repeat' (first | exact At.head | apply At.tail | apply At.right)); done))) | (apply Ok1.lenM_nil; (iterate 3 exact rfl)))) | (apply R.pure; exact rfl; first | (apply Ok1.move; exact rfl) | (apply Ok1.load; exact rfl; first | (apply Ld.own1; exact rfl; exact rfl; (focus ((repeat' (first | exact At.head | apply At.tail | apply At.right)); done)); exact rfl) | (apply Ld.ownk; exact rfl; exact rfl; (focus ((repeat' (first | exact At.head | apply At.tail | apply At.right)); done)); exact rfl) | (apply Ld.old1; exact rfl; exact rfl; assumption; (first | exact List.not_mem_nil | assumption)) | (apply Ld.blk1; exact rfl; exact rfl; assumption; (first | exact List.not_mem_nil | assumption); exact rfl) | (apply Ld.blkk; exact rfl; exact rfl; assumption; (first | exact List.not_mem_nil | assumption); exact rfl)) | (apply Ok1.assign; exact rfl) | (apply Ok1.indexAddr; (iterate 5 exact rfl); omega; omega) | (apply Ok1.indexAddrA; (iterate 5 exact rfl); omega; omega))) | (apply R.is0; first | fail) | (apply R.isG; first | (apply R.guard_run; exact rfl; exact rfl) | (apply R.guard_not; (iterate 3 exact rfl)) | (apply R.guard_not0; exact rfl; exact rfl) | (apply R.guard_un; (iterate 3 exact rfl)) | (apply R.guard_un0; exact rfl; exact rfl) | (apply R.guard rfl rfl ?_ (fun h => ⟨rfl, ?_⟩) <;> try intro)) | apply R.nil | (apply T.is; first | apply T.seq | apply T.region | apply T.block | apply T.scope | apply T.label | apply T.skip | apply T.exit | apply T.ret | (apply T.cond_t; exact rfl) | (apply T.cond_f; exact rfl) | (apply T.cond_h; exact rfl; assumption) | (apply T.cond_n; exact rfl; assumption) | (apply T.cond rfl <;> intro)) | apply Rnd.step)
  apply T.loopK (α := Nat) (I := fun i => i ≤ ps.length) (σi := fun i => [(0, .slice p ps.length cap), (3, .int .i64 (cat (ps.take i)).length), (9, .slice p ps.length cap), (10, .int .i64 ps.length), (11, .int .i64 i)]) (Li := fun _ => []) (μ := fun i => ps.length - i) (i0 := 0)
  · exact Nat.zero_le _
  · exact ⟨rfl, rfl, rfl, rfl, rfl, trivial⟩
  · (focus ((repeat' (first | exact Keep.nil _ | exact Ext.one _ _ | exact Ext.here _ _ | exact Ext.all _ | apply Keep.cons | apply Keep.app | apply Keep.last | apply Ext.cons | apply Ext.app)); done))
  · intro i hi
    have hle := cat_le ps i
    rcases Nat.lt_or_ge i ps.length with hlt | hge
    · obtain ⟨x, hx⟩ : ∃ x, ps[i]? = some x := ⟨_, List.getElem?_eq_getElem (by omega)⟩
      obtain ⟨b, o, hpe, H⟩ := hp.at hx
      replace H := H 1 Pt.v_len
      have hs := cat_snoc hx
      have hl := congrArg List.length hs
      rw [List.length_append] at hl
      have hle2 := cat_le ps (i + 1)
      repeat' (first | (apply R.is1; first | (apply R.isBin; first | (apply R.pure; exact rfl; first | (apply Ok1.add64; exact rfl; exact rfl; omega; omega) | (apply Ok1.lss_t; exact rfl; exact rfl; omega) | (apply Ok1.lss_f; exact rfl; exact rfl; omega)) | (apply R.lss rfl rfl rfl <;> intro)) | (apply R.isCall; first | (apply R.pure; exact rfl; first | (apply Ok1.lenS; (iterate 3 exact rfl)) | (apply Ok1.lenStr; (iterate 3 exact rfl)) | (apply Ok1.lenMm; (iterate 3 exact rfl); (focus ((repeat' (first | exact At.head | apply At.tail | apply At.right)); done))) | (apply Ok1.lenM_nil; (iterate 3 exact rfl)))) | (apply R.pure; exact rfl; first | (apply Ok1.indexAddrP; (iterate 4 exact rfl); exact hpe; exact rfl; omega; omega) | (apply Ok1.load; exact rfl; apply Ld.row0 H; exact rfl; exact List.not_mem_nil; (iterate 3 exact rfl)) | (apply Ok1.move; exact rfl) | (apply Ok1.load; exact rfl; first | (apply Ld.own1; exact rfl; exact rfl; (focus ((repeat' (first | exact At.head | apply At.tail | apply At.right)); done)); exact rfl) | (apply Ld.ownk; exact rfl; exact rfl; (focus ((repeat' (first | exact At.head | apply At.tail | apply At.right)); done)); exact rfl) | (apply Ld.old1; exact rfl; exact rfl; assumption; (first | exact List.not_mem_nil | assumption)) | (apply Ld.blk1; exact rfl; exact rfl; assumption; (first | exact List.not_mem_nil | assumption); exact rfl) | (apply Ld.blkk; exact rfl; exact rfl; assumption; (first | exact List.not_mem_nil | assumption); exact rfl)) | (apply Ok1.assign; exact rfl) | (apply Ok1.indexAddr; (iterate 5 exact rfl); omega; omega) | (apply Ok1.indexAddrA; (iterate 5 exact rfl); omega; omega))) | (apply R.is0; first | fail) | (apply R.isG; first | (apply R.guard_run; exact rfl; exact rfl) | (apply R.guard_not; (iterate 3 exact rfl)) | (apply R.guard_not0; exact rfl; exact rfl) | (apply R.guard_un; (iterate 3 exact rfl)) | (apply R.guard_un0; exact rfl; exact rfl) | (apply R.guard rfl rfl ?_ (fun h => ⟨rfl, ?_⟩) <;> try intro)) | apply R.nil | (apply T.is; first | apply T.seq | apply T.region | apply T.block | apply T.scope | apply T.label | apply T.skip | apply T.exit | apply T.ret | (apply T.cond_t; exact rfl) | (apply T.cond_f; exact rfl) | (apply T.cond_h; exact rfl; assumption) | (apply T.cond_n; exact rfl; assumption) | (apply T.cond rfl <;> intro)) | apply Rnd.step)
      refine ⟨i + 1, by omega, by omega, ⟨rfl, ?_, rfl, rfl, rfl, trivial⟩, by (focus ((repeat' (first | exact Keep.nil _ | exact Ext.one _ _ | exact Ext.here _ _ | exact Ext.all _ | apply Keep.cons | apply Keep.app | apply Keep.last | apply Ext.cons | apply Ext.app)); done))⟩
      rw [hl]
      rfl
    · have him : i = ps.length := by omega
      subst him
      rw [List.take_length]
      have hgr := fun w1 => grow_ok (cat ps).length hbig w1
      repeat' (first | (apply R.is1; first | (apply R.isBin; first | (apply R.pure; exact rfl; first | (apply Ok1.add64; exact rfl; exact rfl; omega; omega) | (apply Ok1.lss_t; exact rfl; exact rfl; omega) | (apply Ok1.lss_f; exact rfl; exact rfl; omega)) | (apply R.lss rfl rfl rfl <;> intro)) | (apply R.isCall; first | (apply R.callE; (iterate 3 exact rfl); exact Ext.none _; intro w1 hw1; exact hgr w1; rintro v Lo ⟨ov0, hov0, rfl, rfl⟩) | (apply R.pure; exact rfl; first | (apply Ok1.lenS; (iterate 3 exact rfl)) | (apply Ok1.lenStr; (iterate 3 exact rfl)) | (apply Ok1.lenMm; (iterate 3 exact rfl); (focus ((repeat' (first | exact At.head | apply At.tail | apply At.right)); done))) | (apply Ok1.lenM_nil; (iterate 3 exact rfl)))) | (apply R.pure; exact rfl; first | (apply Ok1.move; exact rfl) | (apply Ok1.load; exact rfl; first | (apply Ld.own1; exact rfl; exact rfl; (focus ((repeat' (first | exact At.head | apply At.tail | apply At.right)); done)); exact rfl) | (apply Ld.ownk; exact rfl; exact rfl; (focus ((repeat' (first | exact At.head | apply At.tail | apply At.right)); done)); exact rfl) | (apply Ld.old1; exact rfl; exact rfl; assumption; (first | exact List.not_mem_nil | assumption)) | (apply Ld.blk1; exact rfl; exact rfl; assumption; (first | exact List.not_mem_nil | assumption); exact rfl) | (apply Ld.blkk; exact rfl; exact rfl; assumption; (first | exact List.not_mem_nil | assumption); exact rfl)) | (apply Ok1.assign; exact rfl) | (apply Ok1.indexAddr; (iterate 5 exact rfl); omega; omega) | (apply Ok1.indexAddrA; (iterate 5 exact rfl); omega; omega))) | (apply R.is0; first | fail) | (apply R.isG; first | (apply R.guard_run; exact rfl; exact rfl) | (apply R.guard_not; (iterate 3 exact rfl)) | (apply R.guard_not0; exact rfl; exact rfl) | (apply R.guard_un; (iterate 3 exact rfl)) | (apply R.guard_un0; exact rfl; exact rfl) | (apply R.guard rfl rfl ?_ (fun h => ⟨rfl, ?_⟩) <;> try intro)) | apply R.nil | (apply T.is; first | apply T.seq | apply T.region | apply T.block | apply T.scope | apply T.label | apply T.skip | apply T.exit | apply T.ret | (apply T.cond_t; exact rfl) | (apply T.cond_f; exact rfl) | (apply T.cond_h; exact rfl; assumption) | (apply T.cond_n; exact rfl; assumption) | (apply T.cond rfl <;> intro)) | apply Rnd.step)
      apply T.loopK (α := Nat × Ov) (I := fun y => y.1 ≤ ps.length ∧ OvOk 1 y.2 (cat (ps.take y.1)).length (u8s (cat (ps.take y.1)))) (σi := fun y => [(6, slV y.2 (cat (ps.take y.1)).length), (25, .slice p ps.length cap), (26, .int .i64 ps.length), (27, .int .i64 y.1)]) (Li := fun y => blkL 5 y.2 (u8s (cat (ps.take y.1)))) (μ := fun y => ps.length - y.1) (i0 := (0, ov0))
      · exact ⟨Nat.zero_le _, hov0⟩
      · exact ⟨rfl, rfl, rfl, rfl, trivial⟩
      · simp only [List.take_zero, cat_nil]
        change Keep _ (blkL 5 ov0 [])
        (focus ((repeat' (first | exact Keep.nil _ | exact Ext.one _ _ | exact Ext.here _ _ | exact Ext.all _ | apply Keep.cons | apply Keep.app | apply Keep.last | apply Ext.cons | apply Ext.app)); done))
      · rintro ⟨i, ov⟩ ⟨hi, hov⟩
        simp only at hi hov ⊢
        rcases Nat.lt_or_ge i ps.length with hlt | hge
        · obtain ⟨x, hx⟩ : ∃ x, ps[i]? = some x := ⟨_, List.getElem?_eq_getElem (by omega)⟩
          obtain ⟨b, o, hpe, H⟩ := hp.at hx
          replace H := H 1 Pt.v_len
          have hs := cat_snoc hx
          have hl := congrArg List.length hs
          rw [List.length_append] at hl
          have hle2 := cat_le ps (i + 1)
          have hrd := hall x (List.mem_of_getElem? hx)
          repeat' (first | (apply R.is1; first | (apply R.isBin; first | (apply R.pure; exact rfl; first | (apply Ok1.add64; exact rfl; exact rfl; omega; omega) | (apply Ok1.lss_t; exact rfl; exact rfl; omega) | (apply Ok1.lss_f; exact rfl; exact rfl; omega)) | (apply R.lss rfl rfl rfl <;> intro)) | (apply R.isCall; first | (apply R.appendRd (xs := x.xs) (v := u8V) (sz := 1) (ov := ov) (n := (cat (ps.take i)).length) (old := u8s (cat (ps.take i))); (iterate 12 exact rfl); exact hov; (focus ((repeat' (first | exact Ext.none _ | exact Ext.one _ _ | exact Ext.here _ _ | exact Ext.all _ | apply Ext.cons | apply Ext.app | apply Ext.two)); done)); exact rfl; exact u8V_len; exact rfl; (intro w1 hw1; exact hrd.chg hw1.chg (Off.nil _)); (focus (rw [fl_u8]; exact u8s_one x.xs)); omega; intro ov1 hov1 hsome) | (apply R.pure; exact rfl; first | (apply Ok1.lenS; (iterate 3 exact rfl)) | (apply Ok1.lenStr; (iterate 3 exact rfl)) | (apply Ok1.lenMm; (iterate 3 exact rfl); (focus ((repeat' (first | exact At.head | apply At.tail | apply At.right)); done))) | (apply Ok1.lenM_nil; (iterate 3 exact rfl)))) | (apply R.pure; exact rfl; first | (apply Ok1.indexAddrP; (iterate 4 exact rfl); exact hpe; exact rfl; omega; omega) | (apply Ok1.load; exact rfl; apply Ld.row0 H; exact rfl; exact List.not_mem_nil; (iterate 3 exact rfl)) | (apply Ok1.move; exact rfl) | (apply Ok1.load; exact rfl; first | (apply Ld.own1; exact rfl; exact rfl; (focus ((repeat' (first | exact At.head | apply At.tail | apply At.right)); done)); exact rfl) | (apply Ld.ownk; exact rfl; exact rfl; (focus ((repeat' (first | exact At.head | apply At.tail | apply At.right)); done)); exact rfl) | (apply Ld.old1; exact rfl; exact rfl; assumption; (first | exact List.not_mem_nil | assumption)) | (apply Ld.blk1; exact rfl; exact rfl; assumption; (first | exact List.not_mem_nil | assumption); exact rfl) | (apply Ld.blkk; exact rfl; exact rfl; assumption; (first | exact List.not_mem_nil | assumption); exact rfl)) | (apply Ok1.assign; exact rfl) | (apply Ok1.indexAddr; (iterate 5 exact rfl); omega; omega) | (apply Ok1.indexAddrA; (iterate 5 exact rfl); omega; omega))) | (apply R.is0; first | fail) | (apply R.isG; first | (apply R.guard_run; exact rfl; exact rfl) | (apply R.guard_not; (iterate 3 exact rfl)) | (apply R.guard_not0; exact rfl; exact rfl) | (apply R.guard_un; (iterate 3 exact rfl)) | (apply R.guard_un0; exact rfl; exact rfl) | (apply R.guard rfl rfl ?_ (fun h => ⟨rfl, ?_⟩) <;> try intro)) | apply R.nil | (apply T.is; first | apply T.seq | apply T.region | apply T.block | apply T.scope | apply T.label | apply T.skip | apply T.exit | apply T.ret | (apply T.cond_t; exact rfl) | (apply T.cond_f; exact rfl) | (apply T.cond_h; exact rfl; assumption) | (apply T.cond_n; exact rfl; assumption) | (apply T.cond rfl <;> intro)) | apply Rnd.step)
          rw [fl_u8, ← u8s_app, ← hs, ← hl] at hov1
          rw [fl_u8, ← u8s_app, ← hs, ← hl]
          repeat' (first | (apply R.is1; first | (apply R.isBin; first | (apply R.pure; exact rfl; first | (apply Ok1.add64; exact rfl; exact rfl; omega; omega) | (apply Ok1.lss_t; exact rfl; exact rfl; omega) | (apply Ok1.lss_f; exact rfl; exact rfl; omega)) | (apply R.lss rfl rfl rfl <;> intro)) | (apply R.isCall; first | (apply R.pure; exact rfl; first | (apply Ok1.lenS; (iterate 3 exact rfl)) | (apply Ok1.lenStr; (iterate 3 exact rfl)) | (apply Ok1.lenMm; (iterate 3 exact rfl); (focus ((repeat' (first | exact At.head | apply At.tail | apply At.right)); done))) | (apply Ok1.lenM_nil; (iterate 3 exact rfl)))) | (apply R.pure; exact rfl; first | (apply Ok1.move; exact rfl) | (apply Ok1.load; exact rfl; first | (apply Ld.own1; exact rfl; exact rfl; (focus ((repeat' (first | exact At.head | apply At.tail | apply At.right)); done)); exact rfl) | (apply Ld.ownk; exact rfl; exact rfl; (focus ((repeat' (first | exact At.head | apply At.tail | apply At.right)); done)); exact rfl) | (apply Ld.old1; exact rfl; exact rfl; assumption; (first | exact List.not_mem_nil | assumption)) | (apply Ld.blk1; exact rfl; exact rfl; assumption; (first | exact List.not_mem_nil | assumption); exact rfl) | (apply Ld.blkk; exact rfl; exact rfl; assumption; (first | exact List.not_mem_nil | assumption); exact rfl)) | (apply Ok1.assign; exact rfl) | (apply Ok1.indexAddr; (iterate 5 exact rfl); omega; omega) | (apply Ok1.indexAddrA; (iterate 5 exact rfl); omega; omega))) | (apply R.is0; first | fail) | (apply R.isG; first | (apply R.guard_run; exact rfl; exact rfl) | (apply R.guard_not; (iterate 3 exact rfl)) | (apply R.guard_not0; exact rfl; exact rfl) | (apply R.guard_un; (iterate 3 exact rfl)) | (apply R.guard_un0; exact rfl; exact rfl) | (apply R.guard rfl rfl ?_ (fun h => ⟨rfl, ?_⟩) <;> try intro)) | apply R.nil | (apply T.is; first | apply T.seq | apply T.region | apply T.block | apply T.scope | apply T.label | apply T.skip | apply T.exit | apply T.ret | (apply T.cond_t; exact rfl) | (apply T.cond_f; exact rfl) | (apply T.cond_h; exact rfl; assumption) | (apply T.cond_n; exact rfl; assumption) | (apply T.cond rfl <;> intro)) | apply Rnd.step)
          exact ⟨(i + 1, ov1), ⟨by simp only; omega, hov1⟩, by simp only; omega, ⟨rfl, rfl, rfl, rfl, trivial⟩, by (focus ((repeat' (first | exact Keep.nil _ | exact Ext.one _ _ | exact Ext.here _ _ | exact Ext.all _ | apply Keep.cons | apply Keep.app | apply Keep.last | apply Ext.cons | apply Ext.app)); done))⟩
        · have him : i = ps.length := by omega
          subst him
          rw [List.take_length] at hov ⊢
          repeat' (first | (apply R.is1; first | (apply R.isBin; first | (apply R.pure; exact rfl; first | (apply Ok1.add64; exact rfl; exact rfl; omega; omega) | (apply Ok1.lss_t; exact rfl; exact rfl; omega) | (apply Ok1.lss_f; exact rfl; exact rfl; omega)) | (apply R.lss rfl rfl rfl <;> intro)) | (apply R.isCall; first | (apply R.pure; exact rfl; first | (apply Ok1.lenS; (iterate 3 exact rfl)) | (apply Ok1.lenStr; (iterate 3 exact rfl)) | (apply Ok1.lenMm; (iterate 3 exact rfl); (focus ((repeat' (first | exact At.head | apply At.tail | apply At.right)); done))) | (apply Ok1.lenM_nil; (iterate 3 exact rfl)))) | (apply R.pure; exact rfl; first | (apply Ok1.move; exact rfl) | (apply Ok1.load; exact rfl; first | (apply Ld.own1; exact rfl; exact rfl; (focus ((repeat' (first | exact At.head | apply At.tail | apply At.right)); done)); exact rfl) | (apply Ld.ownk; exact rfl; exact rfl; (focus ((repeat' (first | exact At.head | apply At.tail | apply At.right)); done)); exact rfl) | (apply Ld.old1; exact rfl; exact rfl; assumption; (first | exact List.not_mem_nil | assumption)) | (apply Ld.blk1; exact rfl; exact rfl; assumption; (first | exact List.not_mem_nil | assumption); exact rfl) | (apply Ld.blkk; exact rfl; exact rfl; assumption; (first | exact List.not_mem_nil | assumption); exact rfl)) | (apply Ok1.assign; exact rfl) | (apply Ok1.indexAddr; (iterate 5 exact rfl); omega; omega) | (apply Ok1.indexAddrA; (iterate 5 exact rfl); omega; omega))) | (apply R.is0; first | fail) | (apply R.isG; first | (apply R.guard_run; exact rfl; exact rfl) | (apply R.guard_not; (iterate 3 exact rfl)) | (apply R.guard_not0; exact rfl; exact rfl) | (apply R.guard_un; (iterate 3 exact rfl)) | (apply R.guard_un0; exact rfl; exact rfl) | (apply R.guard rfl rfl ?_ (fun h => ⟨rfl, ?_⟩) <;> try intro)) | apply R.nil | (apply T.is; first | apply T.seq | apply T.region | apply T.block | apply T.scope | apply T.label | apply T.skip | apply T.exit | apply T.ret | (apply T.cond_t; exact rfl) | (apply T.cond_f; exact rfl) | (apply T.cond_h; exact rfl; assumption) | (apply T.cond_n; exact rfl; assumption) | (apply T.cond rfl <;> intro)) | apply Rnd.step)
          (apply RetOk.t; exact rfl)
          exact ⟨_, by (focus ((repeat' (first | exact Keep.nil _ | exact Ext.one _ _ | exact Ext.here _ _ | exact Ext.all _ | apply Keep.cons | apply Keep.app | apply Keep.last | apply Ext.cons | apply Ext.app)); done)), ov, hov, rfl, rfl⟩
end Go.Proofs.YtligpachgcmkcaaGreat
set_option linter.unusedSimpArgs false
set_option linter.unusedVariables false
namespace Go.Proofs.YtligpachgcmkcaaGreat
open Go.RowKit Go.Shelf
set_option maxRecDepth 100000
/-- A running digest: on, its words; what is left of it lies in a slice of one's own, from k on. -/
structure RS where
  on : Bool
  s : H8
  ov : Ov
  xs : List Int
  p : Option Addr
  cap : Nat
  k : Nat
  lf : List Int
  n : Nat
def rnC (st : RS) : List Value := [.bool st.on, .slice st.p st.lf.length st.cap, .int .i64 st.n]
def RL (r : Nat) (st : RS) : Lst := (r, .cells ⟨st.s.v ++ rnC st⟩ 95 (0, 0)) :: blkL 5 st.ov (u8s st.xs)
structure RuI (st : RS) (b : List Int) : Prop where
  ov : OvOk 1 st.ov st.xs.length (u8s st.xs)
  sfx : Sfx (ovp st.ov) st.p st.xs.length st.k
  lf : st.lf = st.xs.drop st.k
  cap : st.lf.length ≤ st.cap
  n : st.n = b.length
  left : st.lf = leftI b
  byt : Byt b
  words : st.on = true → st.s = wordsI b
  off : st.on = false → b = []
theorem CallM.imp {P : Program} {f : FuncId} {vs : List Value} {L : Lst} {w : World} {R R' : Value → Lst → Prop} (h : CallM P f vs L w R) (hr : ∀ v L, R v L → R' v L) : CallM P f vs L w R' :=
  ⟨fun hw => (h.run hw).mono fun e w' ⟨v, L', h1, h2, h3⟩ => ⟨v, L', h1, hr _ _ h2, h3⟩⟩
theorem all_own (r : Nat) (s : H8) (rest : List Value) (e e2 : TypeId) {ov : Ov} (b : List Int) {n : Nat} (hov : OvOk 1 ov n (u8s b)) (hbig : n ≤ 1073741824) (hb : Byt b) {w0 w : World} {S : List Nat} {L Lr : Lst} (hw : Hp w0 S L w) (he : Ext L [(r, .cells ⟨s.v ++ rest⟩ e (0, 0))] Lr) (hin : ∀ x ∈ blkL e2 ov (u8s b), x ∈ Lr) :
    CallM Tryz.prog 58 [.pointer (some ⟨r, 0, none⟩), slV ov n] [(r, .cells ⟨s.v ++ rest⟩ e (0, 0))] w fun v L => ∃ s2 p' cap', s2 = allI kI (n / 64) b s ∧ v = .slice p' (n - 64 * (n / 64)) cap' ∧ n - 64 * (n / 64) ≤ cap' ∧ Sfx (ovp ov) p' n (64 * (n / 64)) ∧ L = [(r, .cells ⟨s2.v ++ rest⟩ e (0, 0))] := by
  have hl : n = b.length := by have := hov.1; rw [u8s_len] at this; omega
  have hov' := hov
  rw [slV_eq hov]
  rw [← fl_u8] at hov' hin
  subst hl
  refine CallM.imp (all_ok r s rest e (ovp ov) b.length _ b rfl ?_ hbig hb w (RdSl.own' hw (fun x hx => he.perm.subset (List.mem_append_right _ (hin x hx))) hov' u8V_len) ?_) fun v L ⟨p', cap', h1, h2, h3, h4⟩ => ⟨_, p', cap', rfl, h1, h2, h3, h4⟩
  · cases ov with
    | none => have : b.length = 0 := hov.2; simp [ovc, this]
    | some z => simp [ovc]
  · cases ov with
    | none => intro a ha; cases ha
    | some z => obtain ⟨b0, j, junk⟩ := z; intro a ha; cases ha; exact RdSl.off hw he (hin _ List.mem_cons_self)
theorem rAdd_ok (r : Nat) (st : RS) (b : List Int) (hI : RuI st b) (pp : Option Addr) (m cap : Nat) (ps : List Pt) (hm : m = ps.length) (hbyt : Byt (cat ps)) (hbig : (b ++ cat ps).length ≤ 1000000000) (hm2 : m ≤ 1000000000) (w : World) (hp : RdSl w pp Pt.v ps) (hoff : ps ≠ [] → Off pp (blks (RL r st))) (hall : ∀ x ∈ ps, RdSl w x.p u8V x.xs ∧ (x.xs ≠ [] → Off x.p (blks (RL r st)))) :
    CallM Tryz.prog 41 [.pointer (some ⟨r, 0, none⟩), .slice pp m cap] (RL r st) w fun v L => ∃ st', v = .pointer (some ⟨r, 0, none⟩) ∧ L = RL r st' ∧ RuI st' (b ++ cat ps) ∧ st'.on = true := by
  subst hm
  refine enterK (tb := tb) Tryz.func41 rfl Tryz.ntmps41 rfl ?_
  obtain ⟨S, hS⟩ : ∃ S, S = blks (RL r st) := ⟨_, rfl⟩
  rw [← hS] at hoff hall ⊢
  rw [List.length_append] at hbig
  repeat' (first | (apply R.is1; first | (apply R.isBin; first | (apply R.pure; exact rfl; first | (apply Ok1.add64; exact rfl; exact rfl; omega; omega) | (apply Ok1.lss_t; exact rfl; exact rfl; omega) | (apply Ok1.lss_f; exact rfl; exact rfl; omega) | (apply Ok1.eql_t; exact rfl; exact rfl; omega) | (apply Ok1.eql_f; exact rfl; exact rfl; omega) | (apply Ok1.eqlP; (iterate 5 exact rfl)) | (apply Ok1.eqlM; (iterate 5 exact rfl)) | (apply Ok1.eqlS; (iterate 5 exact rfl))) | (apply R.lss rfl rfl rfl <;> intro) | (apply R.eql rfl rfl rfl <;> intro) | (apply R.eqlF; (iterate 8 exact rfl); all_goals intro)) | (apply R.isCall; first | (apply R.pure; exact rfl; first | (apply Ok1.lenS; (iterate 3 exact rfl)) | (apply Ok1.lenStr; (iterate 3 exact rfl)) | (apply Ok1.lenMm; (iterate 3 exact rfl); (focus ((repeat' (first | exact At.head | apply At.tail | apply At.right)); done))) | (apply Ok1.lenM_nil; (iterate 3 exact rfl)))) | (apply R.pure; exact rfl; first | (apply Ok1.move; exact rfl) | (apply Ok1.fieldAddr; (iterate 5 exact rfl)) | (apply Ok1.load; exact rfl; first | (apply Ld.own1; exact rfl; exact rfl; (focus ((repeat' (first | exact At.head | apply At.tail | apply At.right)); done)); exact rfl) | (apply Ld.ownk; exact rfl; exact rfl; (focus ((repeat' (first | exact At.head | apply At.tail | apply At.right)); done)); exact rfl) | (apply Ld.old1; exact rfl; exact rfl; assumption; (first | exact List.not_mem_nil | assumption)) | (apply Ld.blk1; exact rfl; exact rfl; assumption; (first | exact List.not_mem_nil | assumption); exact rfl) | (apply Ld.blkk; exact rfl; exact rfl; assumption; (first | exact List.not_mem_nil | assumption); exact rfl)) | (apply Ok1.assign; exact rfl) | (apply Ok1.indexAddr; (iterate 5 exact rfl); omega; omega) | (apply Ok1.indexAddrA; (iterate 5 exact rfl); omega; omega) | (apply Ok1.not_t; exact rfl) | (apply Ok1.not_f; exact rfl) | (apply Ok1.not; exact rfl) | (apply Ok1.nilCheck; exact rfl) | (apply Ok1.nilCheckF; exact rfl) | (apply Ok1.neg; exact rfl)) | (apply R.buildSlice; (iterate 12 exact rfl); intro)) | (apply R.is0; first | (apply R.store; (iterate 6 exact rfl); (focus ((repeat' (first | exact Upd.head | apply Upd.tail | apply Upd.right)); done)); exact rfl) | fail) | (apply R.isG; first | (apply R.guard_run; exact rfl; exact rfl) | (apply R.guard_not; (iterate 3 exact rfl)) | (apply R.guard_not0; exact rfl; exact rfl) | (apply R.guard_un; (iterate 3 exact rfl)) | (apply R.guard_un0; exact rfl; exact rfl) | (apply R.guard rfl rfl ?_ (fun h => ⟨rfl, ?_⟩) <;> try intro)) | apply R.nil | (apply T.is; first | (refine T.meetK (x := .seq (.region 3 _ _) _) (α := RS) (I := fun x => RuI x b ∧ x.on = true) (σi := fun x => [(0, .pointer (some ⟨r, 0, none⟩)), (1, .slice pp ps.length cap)]) (Li := fun x => RL r x) ?_ ?_) | apply T.seq | apply T.region | apply T.block | apply T.scope | apply T.label | apply T.skip | apply T.exit | apply T.ret | (apply T.cond_t; exact rfl) | (apply T.cond_f; exact rfl) | (apply T.cond_h; exact rfl; assumption) | (apply T.cond_n; exact rfl; assumption) | (apply T.cond rfl <;> intro)) | apply Rnd.step)
  · have hof : st.on = false := by simpa using ‹(!st.on) = true›
    simp only [RL, rnC, H8.v, H8.l, u32s, List.map_cons, List.map_nil, List.cons_append, List.nil_append]
    repeat' (first | (apply R.is1; first | (apply R.isBin; first | (apply R.pure; exact rfl; first | (apply Ok1.add64; exact rfl; exact rfl; omega; omega) | (apply Ok1.lss_t; exact rfl; exact rfl; omega) | (apply Ok1.lss_f; exact rfl; exact rfl; omega) | (apply Ok1.eql_t; exact rfl; exact rfl; omega) | (apply Ok1.eql_f; exact rfl; exact rfl; omega) | (apply Ok1.eqlP; (iterate 5 exact rfl)) | (apply Ok1.eqlM; (iterate 5 exact rfl)) | (apply Ok1.eqlS; (iterate 5 exact rfl))) | (apply R.lss rfl rfl rfl <;> intro) | (apply R.eql rfl rfl rfl <;> intro) | (apply R.eqlF; (iterate 8 exact rfl); all_goals intro)) | (apply R.isCall; first | apply R.callP rfl rfl rfl begun_ok | (apply R.pure; exact rfl; first | (apply Ok1.lenS; (iterate 3 exact rfl)) | (apply Ok1.lenStr; (iterate 3 exact rfl)) | (apply Ok1.lenMm; (iterate 3 exact rfl); (focus ((repeat' (first | exact At.head | apply At.tail | apply At.right)); done))) | (apply Ok1.lenM_nil; (iterate 3 exact rfl)))) | (apply R.pure; exact rfl; first | (apply Ok1.move; exact rfl) | (apply Ok1.fieldAddr; (iterate 5 exact rfl)) | (apply Ok1.load; exact rfl; first | (apply Ld.own1; exact rfl; exact rfl; (focus ((repeat' (first | exact At.head | apply At.tail | apply At.right)); done)); exact rfl) | (apply Ld.ownk; exact rfl; exact rfl; (focus ((repeat' (first | exact At.head | apply At.tail | apply At.right)); done)); exact rfl) | (apply Ld.old1; exact rfl; exact rfl; assumption; (first | exact List.not_mem_nil | assumption)) | (apply Ld.blk1; exact rfl; exact rfl; assumption; (first | exact List.not_mem_nil | assumption); exact rfl) | (apply Ld.blkk; exact rfl; exact rfl; assumption; (first | exact List.not_mem_nil | assumption); exact rfl)) | (apply Ok1.assign; exact rfl) | (apply Ok1.indexAddr; (iterate 5 exact rfl); omega; omega) | (apply Ok1.indexAddrA; (iterate 5 exact rfl); omega; omega) | (apply Ok1.not_t; exact rfl) | (apply Ok1.not_f; exact rfl) | (apply Ok1.not; exact rfl) | (apply Ok1.nilCheck; exact rfl) | (apply Ok1.nilCheckF; exact rfl) | (apply Ok1.neg; exact rfl)) | (apply R.buildSlice; (iterate 12 exact rfl); intro)) | (apply R.is0; first | (apply R.store; (iterate 6 exact rfl); (focus ((repeat' (first | exact Upd.head | apply Upd.tail | apply Upd.right)); done)); exact rfl) | fail) | (apply R.isG; first | (apply R.guard_run; exact rfl; exact rfl) | (apply R.guard_not; (iterate 3 exact rfl)) | (apply R.guard_not0; exact rfl; exact rfl) | (apply R.guard_un; (iterate 3 exact rfl)) | (apply R.guard_un0; exact rfl; exact rfl) | (apply R.guard rfl rfl ?_ (fun h => ⟨rfl, ?_⟩) <;> try intro)) | apply R.nil | (apply T.is; first | apply T.seq | apply T.region | apply T.block | apply T.scope | apply T.label | apply T.skip | apply T.exit | apply T.ret | (apply T.cond_t; exact rfl) | (apply T.cond_f; exact rfl) | (apply T.cond_h; exact rfl; assumption) | (apply T.cond_n; exact rfl; assumption) | (apply T.cond rfl <;> intro)) | apply Rnd.step)
    refine ⟨⟨true, h0I, st.ov, st.xs, st.p, st.cap, st.k, st.lf, st.n⟩, ⟨⟨hI.ov, hI.sfx, hI.lf, hI.cap, hI.n, hI.left, hI.byt, fun _ => by rw [hI.off hof]; rfl, fun h => by cases h⟩, rfl⟩, ⟨rfl, rfl, trivial⟩, ?_⟩
    (focus ((repeat' (first | exact Keep.nil _ | exact Ext.one _ _ | exact Ext.here _ _ | exact Ext.all _ | apply Keep.cons | apply Keep.app | apply Keep.last | apply Ext.cons | apply Ext.app)); done))
  · have hof : st.on = true := by simpa using ‹(!st.on) = false›
    exact ⟨st, ⟨hI, hof⟩, ⟨rfl, rfl, trivial⟩, by (focus ((repeat' (first | exact Keep.nil _ | exact Ext.one _ _ | exact Ext.here _ _ | exact Ext.all _ | apply Keep.cons | apply Keep.app | apply Keep.last | apply Ext.cons | apply Ext.app)); done))⟩
  · clear hI hS
    rintro st0 ⟨hI0, hon0⟩
    repeat' (first | (apply R.is1; first | (apply R.isBin; first | (apply R.pure; exact rfl; first | (apply Ok1.add64; exact rfl; exact rfl; omega; omega) | (apply Ok1.lss_t; exact rfl; exact rfl; omega) | (apply Ok1.lss_f; exact rfl; exact rfl; omega) | (apply Ok1.eql_t; exact rfl; exact rfl; omega) | (apply Ok1.eql_f; exact rfl; exact rfl; omega) | (apply Ok1.eqlP; (iterate 5 exact rfl)) | (apply Ok1.eqlM; (iterate 5 exact rfl)) | (apply Ok1.eqlS; (iterate 5 exact rfl))) | (apply R.lss rfl rfl rfl <;> intro) | (apply R.eql rfl rfl rfl <;> intro) | (apply R.eqlF; (iterate 8 exact rfl); all_goals intro)) | (apply R.isCall; first | (apply R.pure; exact rfl; first | (apply Ok1.lenS; (iterate 3 exact rfl)) | (apply Ok1.lenStr; (iterate 3 exact rfl)) | (apply Ok1.lenMm; (iterate 3 exact rfl); (focus ((repeat' (first | exact At.head | apply At.tail | apply At.right)); done))) | (apply Ok1.lenM_nil; (iterate 3 exact rfl)))) | (apply R.pure; exact rfl; first | (apply Ok1.move; exact rfl) | (apply Ok1.fieldAddr; (iterate 5 exact rfl)) | (apply Ok1.load; exact rfl; first | (apply Ld.own1; exact rfl; exact rfl; (focus ((repeat' (first | exact At.head | apply At.tail | apply At.right)); done)); exact rfl) | (apply Ld.ownk; exact rfl; exact rfl; (focus ((repeat' (first | exact At.head | apply At.tail | apply At.right)); done)); exact rfl) | (apply Ld.old1; exact rfl; exact rfl; assumption; (first | exact List.not_mem_nil | assumption)) | (apply Ld.blk1; exact rfl; exact rfl; assumption; (first | exact List.not_mem_nil | assumption); exact rfl) | (apply Ld.blkk; exact rfl; exact rfl; assumption; (first | exact List.not_mem_nil | assumption); exact rfl)) | (apply Ok1.assign; exact rfl) | (apply Ok1.indexAddr; (iterate 5 exact rfl); omega; omega) | (apply Ok1.indexAddrA; (iterate 5 exact rfl); omega; omega) | (apply Ok1.not_t; exact rfl) | (apply Ok1.not_f; exact rfl) | (apply Ok1.not; exact rfl) | (apply Ok1.nilCheck; exact rfl) | (apply Ok1.nilCheckF; exact rfl) | (apply Ok1.neg; exact rfl)) | (apply R.buildSlice; (iterate 12 exact rfl); intro)) | (apply R.is0; first | (apply R.store; (iterate 6 exact rfl); (focus ((repeat' (first | exact Upd.head | apply Upd.tail | apply Upd.right)); done)); exact rfl) | fail) | (apply R.isG; first | (apply R.guard_run; exact rfl; exact rfl) | (apply R.guard_not; (iterate 3 exact rfl)) | (apply R.guard_not0; exact rfl; exact rfl) | (apply R.guard_un; (iterate 3 exact rfl)) | (apply R.guard_un0; exact rfl; exact rfl) | (apply R.guard rfl rfl ?_ (fun h => ⟨rfl, ?_⟩) <;> try intro)) | apply R.nil | (apply T.is; first | apply T.seq | apply T.region | apply T.block | apply T.scope | apply T.label | apply T.skip | apply T.exit | apply T.ret | (apply T.cond_t; exact rfl) | (apply T.cond_f; exact rfl) | (apply T.cond_h; exact rfl; assumption) | (apply T.cond_n; exact rfl; assumption) | (apply T.cond rfl <;> intro)) | apply Rnd.step)
    apply T.loopK (α := Nat × RS) (I := fun y => y.1 ≤ ps.length ∧ RuI y.2 (b ++ cat (ps.take y.1)) ∧ y.2.on = true) (σi := fun y => [(0, .pointer (some ⟨r, 0, none⟩)), (21, .slice pp ps.length cap), (22, .int .i64 ps.length), (23, .int .i64 y.1)]) (Li := fun y => RL r y.2) (μ := fun y => ps.length - y.1) (i0 := (0, st0))
    · exact ⟨Nat.zero_le _, by simpa [cat_nil] using hI0, hon0⟩
    · exact ⟨rfl, rfl, rfl, rfl, trivial⟩
    · (focus ((repeat' (first | exact Keep.nil _ | exact Ext.one _ _ | exact Ext.here _ _ | exact Ext.all _ | apply Keep.cons | apply Keep.app | apply Keep.last | apply Ext.cons | apply Ext.app)); done))
    · rintro ⟨i, s1⟩ ⟨hi, hI1, hon1⟩
      simp only at hi hI1 hon1 ⊢
      rcases Nat.lt_or_ge i ps.length with hlt | hge
      · obtain ⟨x, hx⟩ : ∃ x, ps[i]? = some x := ⟨_, List.getElem?_eq_getElem (by omega)⟩
        obtain ⟨hrd, hxo⟩ := hall x (List.mem_of_getElem? hx)
        obtain ⟨b', o', hpe, H⟩ := hp.at hx
        replace H := H 1 Pt.v_len
        have hbS := hoff (by intro h; rw [h] at hlt; simp at hlt) _ hpe
        have hs := cat_snoc hx
        have hl := congrArg List.length hs
        rw [List.length_append] at hl
        have hle2 := cat_le ps (i + 1)
        have hbx : Byt x.xs := fun y hy => hbyt y (List.mem_flatMap.2 ⟨x, List.mem_of_getElem? hx, hy⟩)
        have hB : b ++ cat (ps.take (i + 1)) = (b ++ cat (ps.take i)) ++ x.xs := by rw [hs, List.append_assoc]
        have hBl : (b ++ cat (ps.take (i + 1))).length = (b ++ cat (ps.take i)).length + x.xs.length := by rw [hB, List.length_append]
        have hBle : (b ++ cat (ps.take (i + 1))).length ≤ 1000000000 := by rw [List.length_append]; omega
        generalize b ++ cat (ps.take i) = B at *
        obtain ⟨on, s, ov, xs, p1, cap1, k, lf, n⟩ := s1
        obtain ⟨hov, hsfx, hlf, hcap1, hn, hleft, hbB, hw', _⟩ := hI1
        simp only at hov hsfx hlf hcap1 hn hleft hw' hon1
        subst hon1
        have hfeed := feed B x.xs
        rw [← hleft, ← hw' rfl] at hfeed
        have hll := left_len B
        rw [← hleft] at hll
        have hbl : Byt (lf ++ x.xs) := (by rw [hleft]; exact hbB.drop _ : Byt lf).app hbx
        have hrl : ∀ {w0 w1 : World} {S : List Nat} {L : Lst}, Hp w0 S L w1 → (∀ x ∈ blkL 5 ov (u8s xs), x ∈ L) → RdSl w1 p1 u8V lf := fun hw1 hin => by
          rw [hlf]
          refine hsfx.rd _ xs rfl ?_
          rw [← fl_u8] at hin hov
          exact RdSl.own' hw1 hin hov u8V_len
        have hcat : cat [⟨p1, cap1, lf⟩, x] = lf ++ x.xs := by simp [cat]
        have hln : (lf ++ x.xs).length = lf.length + x.xs.length := List.length_append
        simp only [RL, rnC, H8.v, H8.l, u32s, List.map_cons, List.map_nil, List.cons_append, List.nil_append]
        repeat' (first | (apply R.is1; first | (apply R.isBin; first | (apply R.pure; exact rfl; first | (apply Ok1.add64; exact rfl; exact rfl; omega; omega) | (apply Ok1.lss_t; exact rfl; exact rfl; omega) | (apply Ok1.lss_f; exact rfl; exact rfl; omega) | (apply Ok1.eql_t; exact rfl; exact rfl; omega) | (apply Ok1.eql_f; exact rfl; exact rfl; omega) | (apply Ok1.eqlP; (iterate 5 exact rfl)) | (apply Ok1.eqlM; (iterate 5 exact rfl)) | (apply Ok1.eqlS; (iterate 5 exact rfl))) | (apply R.lss rfl rfl rfl <;> intro) | (apply R.eql rfl rfl rfl <;> intro) | (apply R.eqlF; (iterate 8 exact rfl); all_goals intro)) | (apply R.isCall; first | (apply R.callE; (iterate 3 exact rfl); exact Ext.none _; intro w1 hw1; have h9 := concat_ok (some ⟨_, 0, none⟩) 2 2 [⟨p1, cap1, lf⟩, x] rfl (by rw [hcat]; omega) (by omega) w1 (RdSl.of (v := Pt.v) (rs := [⟨p1, cap1, lf⟩, x]) (junk := []) hw1 (by (focus ((repeat' (first | exact At.head | apply At.tail | apply At.right)); done))) rfl) (by intro y hy; rcases List.mem_cons.1 hy with rfl | hy; exact hrl hw1 (Ext.mem (by (focus ((repeat' (first | exact Ext.none _ | exact Ext.one _ _ | exact Ext.here _ _ | exact Ext.all _ | apply Ext.cons | apply Ext.app | apply Ext.two)); done)))); rw [List.mem_singleton.1 hy]; exact hrd.chg' hw1.chg hxo); rw [hcat] at h9; exact h9; rintro v Lo ⟨ovc, hovc, rfl, rfl⟩) | (apply R.callE (Li := [(r, .cells ⟨s.v ++ [.bool true, .slice p1 lf.length cap1, .int .i64 (n + x.xs.length)]⟩ 95 (0, 0))]); (iterate 3 exact rfl); (focus ((repeat' (first | exact Ext.none _ | exact Ext.one _ _ | exact Ext.here _ _ | exact Ext.all _ | apply Ext.cons | apply Ext.app | apply Ext.two)); done)); intro w1 hw1; exact all_own r s _ _ _ (lf ++ x.xs) hovc (by omega) hbl hw1 (by (focus ((repeat' (first | exact Ext.none _ | exact Ext.one _ _ | exact Ext.here _ _ | exact Ext.all _ | apply Ext.cons | apply Ext.app | apply Ext.two)); done))) (Ext.mem (by (focus ((repeat' (first | exact Ext.none _ | exact Ext.one _ _ | exact Ext.here _ _ | exact Ext.all _ | apply Ext.cons | apply Ext.app | apply Ext.two)); done)))); rintro v Lo ⟨s2, p', cap', hs2, rfl, hc2, hsf2, rfl⟩; simp only [H8.v, H8.l, u32s, List.map_cons, List.map_nil, List.cons_append, List.nil_append]) | (apply R.pure; exact rfl; first | (apply Ok1.lenS; (iterate 3 exact rfl)) | (apply Ok1.lenStr; (iterate 3 exact rfl)) | (apply Ok1.lenMm; (iterate 3 exact rfl); (focus ((repeat' (first | exact At.head | apply At.tail | apply At.right)); done))) | (apply Ok1.lenM_nil; (iterate 3 exact rfl)))) | (apply R.pure; exact rfl; first | (apply Ok1.indexAddrP; (iterate 4 exact rfl); exact hpe; exact rfl; omega; omega) | (apply Ok1.load; exact rfl; apply Ld.row0 H; exact rfl; exact hbS; (iterate 3 exact rfl)) | (apply Ok1.move; exact rfl) | (apply Ok1.fieldAddr; (iterate 5 exact rfl)) | (apply Ok1.load; exact rfl; first | (apply Ld.own1; exact rfl; exact rfl; (focus ((repeat' (first | exact At.head | apply At.tail | apply At.right)); done)); exact rfl) | (apply Ld.ownk; exact rfl; exact rfl; (focus ((repeat' (first | exact At.head | apply At.tail | apply At.right)); done)); exact rfl) | (apply Ld.old1; exact rfl; exact rfl; assumption; (first | exact List.not_mem_nil | assumption)) | (apply Ld.blk1; exact rfl; exact rfl; assumption; (first | exact List.not_mem_nil | assumption); exact rfl) | (apply Ld.blkk; exact rfl; exact rfl; assumption; (first | exact List.not_mem_nil | assumption); exact rfl)) | (apply Ok1.assign; exact rfl) | (apply Ok1.indexAddr; (iterate 5 exact rfl); omega; omega) | (apply Ok1.indexAddrA; (iterate 5 exact rfl); omega; omega) | (apply Ok1.not_t; exact rfl) | (apply Ok1.not_f; exact rfl) | (apply Ok1.not; exact rfl) | (apply Ok1.nilCheck; exact rfl) | (apply Ok1.nilCheckF; exact rfl) | (apply Ok1.neg; exact rfl)) | (apply R.buildSlice; (iterate 12 exact rfl); intro)) | (apply R.is0; first | (apply R.store; (iterate 6 exact rfl); (focus ((repeat' (first | exact Upd.head | apply Upd.tail | apply Upd.right)); done)); exact rfl) | fail) | (apply R.isG; first | (apply R.guard_run; exact rfl; exact rfl) | (apply R.guard_not; (iterate 3 exact rfl)) | (apply R.guard_not0; exact rfl; exact rfl) | (apply R.guard_un; (iterate 3 exact rfl)) | (apply R.guard_un0; exact rfl; exact rfl) | (apply R.guard rfl rfl ?_ (fun h => ⟨rfl, ?_⟩) <;> try intro)) | apply R.nil | (apply T.is; first | (apply T.drawC (id := 9) [] (by decide); ((apply A.take 0; exact rfl; exact rfl; kernel_rfl; kernel_rfl; kernel_rfl; first | (apply Ok1.move; exact rfl)) <;> (apply A.take 1; exact rfl; exact rfl; kernel_rfl; kernel_rfl; kernel_rfl; first | (apply Ok1.move; exact rfl)) <;> (apply A.take 2; exact rfl; exact rfl; kernel_rfl; kernel_rfl; kernel_rfl; first | (apply Ok1.nilCheck; exact rfl) | (apply Ok1.nilCheckF; exact rfl)) <;> (apply A.take 3; exact rfl; exact rfl; kernel_rfl; kernel_rfl; kernel_rfl; first | (apply Ok1.fieldAddr; (iterate 5 exact rfl))) <;> (apply A.take 4; exact rfl; exact rfl; kernel_rfl; kernel_rfl; kernel_rfl; first | (apply Ok1.move; exact rfl)) <;> (apply A.take 5; exact rfl; exact rfl; kernel_rfl; kernel_rfl; kernel_rfl; first | (apply Ok1.nilCheck; exact rfl) | (apply Ok1.nilCheckF; exact rfl)) <;> (apply A.take 6; exact rfl; exact rfl; kernel_rfl; kernel_rfl; kernel_rfl; first | (apply Ok1.fieldAddr; (iterate 5 exact rfl))) <;> (apply A.take 8; exact rfl; exact rfl; kernel_rfl; kernel_rfl; kernel_rfl; first | (apply Ok1.move; exact rfl)) <;> (apply A.one 7; kernel_rfl; exact rfl; ((first | (apply R.pure; exact rfl; first | (apply Ok1.load; exact rfl; apply Ld.row0 H; exact rfl; exact hbS; (iterate 3 exact rfl)) | (apply Ok1.load; exact rfl; first | (apply Ld.own1; exact rfl; exact rfl; (focus ((repeat' (first | exact At.head | apply At.tail | apply At.right)); done)); exact rfl) | (apply Ld.ownk; exact rfl; exact rfl; (focus ((repeat' (first | exact At.head | apply At.tail | apply At.right)); done)); exact rfl) | (apply Ld.old1; exact rfl; exact rfl; assumption; (first | exact List.not_mem_nil | assumption)) | (apply Ld.blk1; exact rfl; exact rfl; assumption; (first | exact List.not_mem_nil | assumption); exact rfl) | (apply Ld.blkk; exact rfl; exact rfl; assumption; (first | exact List.not_mem_nil | assumption); exact rfl))) | fail)); apply R.nil; refine ⟨?_, ?_⟩; (focus ((repeat' (first | exact trivial | (refine ⟨?_, ?_⟩; (focus ((repeat' (first | exact At.head | apply At.tail | apply At.right)); done)))))))) <;> (apply A.one 9; kernel_rfl; exact rfl; ((first | (apply R.buildSlice; (iterate 12 exact rfl); intro) | fail)); apply R.nil; refine ⟨?_, ?_⟩; (focus ((repeat' (first | exact trivial | (refine ⟨?_, ?_⟩; (focus ((repeat' (first | exact At.head | apply At.tail | apply At.right)); done)))))))) <;> (apply A.one 10; kernel_rfl; exact rfl; ((first | (apply R.callE; (iterate 3 exact rfl); exact Ext.none _; intro w1 hw1; have h9 := concat_ok (some ⟨_, 0, none⟩) 2 2 [⟨p1, cap1, lf⟩, x] rfl (by rw [hcat]; omega) (by omega) w1 (RdSl.of (v := Pt.v) (rs := [⟨p1, cap1, lf⟩, x]) (junk := []) hw1 (by (focus ((repeat' (first | exact At.head | apply At.tail | apply At.right)); done))) rfl) (by intro y hy; rcases List.mem_cons.1 hy with rfl | hy; exact hrl hw1 (Ext.mem (by (focus ((repeat' (first | exact Ext.none _ | exact Ext.one _ _ | exact Ext.here _ _ | exact Ext.all _ | apply Ext.cons | apply Ext.app | apply Ext.two)); done)))); rw [List.mem_singleton.1 hy]; exact hrd.chg' hw1.chg hxo); rw [hcat] at h9; exact h9; rintro v Lo ⟨ovc, hovc, rfl, rfl⟩) | (apply R.callE (Li := [(r, .cells ⟨s.v ++ [.bool true, .slice p1 lf.length cap1, .int .i64 (n + x.xs.length)]⟩ 95 (0, 0))]); (iterate 3 exact rfl); (focus ((repeat' (first | exact Ext.none _ | exact Ext.one _ _ | exact Ext.here _ _ | exact Ext.all _ | apply Ext.cons | apply Ext.app | apply Ext.two)); done)); intro w1 hw1; exact all_own r s _ _ _ (lf ++ x.xs) hovc (by omega) hbl hw1 (by (focus ((repeat' (first | exact Ext.none _ | exact Ext.one _ _ | exact Ext.here _ _ | exact Ext.all _ | apply Ext.cons | apply Ext.app | apply Ext.two)); done))) (Ext.mem (by (focus ((repeat' (first | exact Ext.none _ | exact Ext.one _ _ | exact Ext.here _ _ | exact Ext.all _ | apply Ext.cons | apply Ext.app | apply Ext.two)); done)))); rintro v Lo ⟨s2, p', cap', hs2, rfl, hc2, hsf2, rfl⟩; simp only [H8.v, H8.l, u32s, List.map_cons, List.map_nil, List.cons_append, List.nil_append]) | (apply R.pure; exact rfl; first | (apply Ok1.lenS; (iterate 3 exact rfl)) | (apply Ok1.lenStr; (iterate 3 exact rfl)) | (apply Ok1.lenMm; (iterate 3 exact rfl); (focus ((repeat' (first | exact At.head | apply At.tail | apply At.right)); done))) | (apply Ok1.lenM_nil; (iterate 3 exact rfl)) | (apply Ok1.max2; exact rfl; exact rfl) | (apply Ok1.min2; exact rfl; exact rfl)))); apply R.nil; refine ⟨?_, ?_⟩; (focus ((repeat' (first | exact trivial | (refine ⟨?_, ?_⟩; (focus ((repeat' (first | exact At.head | apply At.tail | apply At.right)); done)))))))) <;> (apply A.one 11; kernel_rfl; exact rfl; ((first | (apply R.callE; (iterate 3 exact rfl); exact Ext.none _; intro w1 hw1; have h9 := concat_ok (some ⟨_, 0, none⟩) 2 2 [⟨p1, cap1, lf⟩, x] rfl (by rw [hcat]; omega) (by omega) w1 (RdSl.of (v := Pt.v) (rs := [⟨p1, cap1, lf⟩, x]) (junk := []) hw1 (by (focus ((repeat' (first | exact At.head | apply At.tail | apply At.right)); done))) rfl) (by intro y hy; rcases List.mem_cons.1 hy with rfl | hy; exact hrl hw1 (Ext.mem (by (focus ((repeat' (first | exact Ext.none _ | exact Ext.one _ _ | exact Ext.here _ _ | exact Ext.all _ | apply Ext.cons | apply Ext.app | apply Ext.two)); done)))); rw [List.mem_singleton.1 hy]; exact hrd.chg' hw1.chg hxo); rw [hcat] at h9; exact h9; rintro v Lo ⟨ovc, hovc, rfl, rfl⟩) | (apply R.callE (Li := [(r, .cells ⟨s.v ++ [.bool true, .slice p1 lf.length cap1, .int .i64 (n + x.xs.length)]⟩ 95 (0, 0))]); (iterate 3 exact rfl); (focus ((repeat' (first | exact Ext.none _ | exact Ext.one _ _ | exact Ext.here _ _ | exact Ext.all _ | apply Ext.cons | apply Ext.app | apply Ext.two)); done)); intro w1 hw1; exact all_own r s _ _ _ (lf ++ x.xs) hovc (by omega) hbl hw1 (by (focus ((repeat' (first | exact Ext.none _ | exact Ext.one _ _ | exact Ext.here _ _ | exact Ext.all _ | apply Ext.cons | apply Ext.app | apply Ext.two)); done))) (Ext.mem (by (focus ((repeat' (first | exact Ext.none _ | exact Ext.one _ _ | exact Ext.here _ _ | exact Ext.all _ | apply Ext.cons | apply Ext.app | apply Ext.two)); done)))); rintro v Lo ⟨s2, p', cap', hs2, rfl, hc2, hsf2, rfl⟩; simp only [H8.v, H8.l, u32s, List.map_cons, List.map_nil, List.cons_append, List.nil_append]) | (apply R.pure; exact rfl; first | (apply Ok1.lenS; (iterate 3 exact rfl)) | (apply Ok1.lenStr; (iterate 3 exact rfl)) | (apply Ok1.lenMm; (iterate 3 exact rfl); (focus ((repeat' (first | exact At.head | apply At.tail | apply At.right)); done))) | (apply Ok1.lenM_nil; (iterate 3 exact rfl)) | (apply Ok1.max2; exact rfl; exact rfl) | (apply Ok1.min2; exact rfl; exact rfl)))); apply R.nil; refine ⟨?_, ?_⟩; (focus ((repeat' (first | exact trivial | (refine ⟨?_, ?_⟩; (focus ((repeat' (first | exact At.head | apply At.tail | apply At.right)); done)))))))) <;> (apply A.take 12; exact rfl; exact rfl; kernel_rfl; kernel_rfl; kernel_rfl; first | (apply Ok1.nilCheck; exact rfl) | (apply Ok1.nilCheckF; exact rfl)) <;> (apply A.take 13; exact rfl; exact rfl; kernel_rfl; kernel_rfl; kernel_rfl; first | (apply Ok1.fieldAddr; (iterate 5 exact rfl))) <;> (apply A.one 14; kernel_rfl; exact rfl; ((first | (apply R.store; (iterate 6 exact rfl); (focus ((repeat' (first | exact Upd.head | apply Upd.tail | apply Upd.right)); done)); exact rfl) | fail)); apply R.nil; refine ⟨?_, ?_⟩; (focus ((repeat' (first | exact trivial | (refine ⟨?_, ?_⟩; (focus ((repeat' (first | exact At.head | apply At.tail | apply At.right)); done)))))))) <;> (apply A.done; kernel_rfl))) | apply T.seq | apply T.region | apply T.block | apply T.scope | apply T.label | apply T.skip | apply T.exit | apply T.ret | (apply T.cond_t; exact rfl) | (apply T.cond_f; exact rfl) | (apply T.cond_h; exact rfl; assumption) | (apply T.cond_n; exact rfl; assumption) | (apply T.cond rfl <;> intro)) | apply Rnd.step)
        rw [← hs2] at hfeed
        refine ⟨(i + 1, ⟨true, s2, ovc, lf ++ x.xs, p', cap', 64 * ((lf ++ x.xs).length / 64), (lf ++ x.xs).drop (64 * ((lf ++ x.xs).length / 64)), n + x.xs.length⟩), ⟨by simp only; omega, ?_, rfl⟩, by simp only; omega, ⟨rfl, rfl, rfl, rfl, trivial⟩, ?_⟩
        · rw [hB]
          exact ⟨hovc, hsf2, rfl, by simp only [List.length_drop]; exact hc2, by simp only [List.length_append]; omega, hfeed.2, hbB.app hbx, fun _ => hfeed.1, fun h => by cases h⟩
        · simp only [RL, rnC, H8.v, H8.l, u32s, List.map_cons, List.map_nil, List.cons_append, List.nil_append, List.length_drop, Int.natCast_add]
          (focus ((repeat' (first | exact Keep.nil _ | exact Ext.one _ _ | exact Ext.here _ _ | exact Ext.all _ | apply Keep.cons | apply Keep.app | apply Keep.last | apply Ext.cons | apply Ext.app)); done))
      · have him : i = ps.length := by omega
        subst him
        rw [List.take_length] at hI1
        repeat' (first | (apply R.is1; first | (apply R.isBin; first | (apply R.pure; exact rfl; first | (apply Ok1.add64; exact rfl; exact rfl; omega; omega) | (apply Ok1.lss_t; exact rfl; exact rfl; omega) | (apply Ok1.lss_f; exact rfl; exact rfl; omega) | (apply Ok1.eql_t; exact rfl; exact rfl; omega) | (apply Ok1.eql_f; exact rfl; exact rfl; omega) | (apply Ok1.eqlP; (iterate 5 exact rfl)) | (apply Ok1.eqlM; (iterate 5 exact rfl)) | (apply Ok1.eqlS; (iterate 5 exact rfl))) | (apply R.lss rfl rfl rfl <;> intro) | (apply R.eql rfl rfl rfl <;> intro) | (apply R.eqlF; (iterate 8 exact rfl); all_goals intro)) | (apply R.isCall; first | (apply R.pure; exact rfl; first | (apply Ok1.lenS; (iterate 3 exact rfl)) | (apply Ok1.lenStr; (iterate 3 exact rfl)) | (apply Ok1.lenMm; (iterate 3 exact rfl); (focus ((repeat' (first | exact At.head | apply At.tail | apply At.right)); done))) | (apply Ok1.lenM_nil; (iterate 3 exact rfl)))) | (apply R.pure; exact rfl; first | (apply Ok1.move; exact rfl) | (apply Ok1.fieldAddr; (iterate 5 exact rfl)) | (apply Ok1.load; exact rfl; first | (apply Ld.own1; exact rfl; exact rfl; (focus ((repeat' (first | exact At.head | apply At.tail | apply At.right)); done)); exact rfl) | (apply Ld.ownk; exact rfl; exact rfl; (focus ((repeat' (first | exact At.head | apply At.tail | apply At.right)); done)); exact rfl) | (apply Ld.old1; exact rfl; exact rfl; assumption; (first | exact List.not_mem_nil | assumption)) | (apply Ld.blk1; exact rfl; exact rfl; assumption; (first | exact List.not_mem_nil | assumption); exact rfl) | (apply Ld.blkk; exact rfl; exact rfl; assumption; (first | exact List.not_mem_nil | assumption); exact rfl)) | (apply Ok1.assign; exact rfl) | (apply Ok1.indexAddr; (iterate 5 exact rfl); omega; omega) | (apply Ok1.indexAddrA; (iterate 5 exact rfl); omega; omega) | (apply Ok1.not_t; exact rfl) | (apply Ok1.not_f; exact rfl) | (apply Ok1.not; exact rfl) | (apply Ok1.nilCheck; exact rfl) | (apply Ok1.nilCheckF; exact rfl) | (apply Ok1.neg; exact rfl)) | (apply R.buildSlice; (iterate 12 exact rfl); intro)) | (apply R.is0; first | (apply R.store; (iterate 6 exact rfl); (focus ((repeat' (first | exact Upd.head | apply Upd.tail | apply Upd.right)); done)); exact rfl) | fail) | (apply R.isG; first | (apply R.guard_run; exact rfl; exact rfl) | (apply R.guard_not; (iterate 3 exact rfl)) | (apply R.guard_not0; exact rfl; exact rfl) | (apply R.guard_un; (iterate 3 exact rfl)) | (apply R.guard_un0; exact rfl; exact rfl) | (apply R.guard rfl rfl ?_ (fun h => ⟨rfl, ?_⟩) <;> try intro)) | apply R.nil | (apply T.is; first | apply T.seq | apply T.region | apply T.block | apply T.scope | apply T.label | apply T.skip | apply T.exit | apply T.ret | (apply T.cond_t; exact rfl) | (apply T.cond_f; exact rfl) | (apply T.cond_h; exact rfl; assumption) | (apply T.cond_n; exact rfl; assumption) | (apply T.cond rfl <;> intro)) | apply Rnd.step)
        (apply RetOk.t; exact rfl)
        exact ⟨_, by (focus ((repeat' (first | exact Keep.nil _ | exact Ext.one _ _ | exact Ext.here _ _ | exact Ext.all _ | apply Keep.cons | apply Keep.app | apply Keep.last | apply Ext.cons | apply Ext.app)); done)), s1, rfl, rfl, hI1, hon1⟩
end Go.Proofs.YtligpachgcmkcaaGreat
