/- Rules: append of a whole slice to a slice of one's own; the empty slice literal. -/
import Derived.Test.YtligpachgcmkcaaEng19
set_option linter.unusedSimpArgs false
set_option linter.unusedVariables false
set_option linter.unusedSectionVars false
namespace Go.Proofs.Ytligpachgcmkcaa
open Go.RowKit Go.Shelf

theorem fl_app {α : Type} (v : α → List Value) (xs ys : List α) : fl v (xs ++ ys) = fl v xs ++ fl v ys := by simp [fl]
theorem Holds.ov {w0 w : World} {S : List Nat} {L : Lst} {e2 sz m : Nat} {ov2 : Ov} {xs : List Value} (hok : OvOk sz ov2 m xs) (hb : ∀ x ∈ blkL e2 ov2 xs, x ∈ L) (hw : Hp w0 S L w) : Holds w (slV ov2 m) xs := by
  cases ov2 with
  | none =>
    have h2 : m = 0 := hok.2
    have h1 := hok.1
    subst h2
    have : xs = [] := by cases xs; rfl; simp at h1
    subst this
    exact rfl
  | some x =>
    obtain ⟨b, j, junk⟩ := x
    have := hw.get b _ (hb _ List.mem_cons_self)
    intro i hi
    simp only [World.cell?, this, Nat.zero_add]
    simp [List.getElem?_append_left, hi]
section
variable {X : Cx} {σ : Env} {L Lr : Lst} {dd : Nat} {ty : TypeId} {pos : String} {af : Array Edge} {x y : Operand} {t t2 e : TypeId} {r r2 re : TRow}
variable {all : Array Oper} {rest : List Oper} {K : Env → Lst → Prop}
theorem append_none {P : Program} (tb : Tb P) {w : World} {ov : Ov} {n cap2 e2 : Nat} {p2 : Option Addr} (ht : tb.row t = some r) (hk : r.k = .slice e) (he : tb.row e = some re) (ht2 : tb.row t2 = some r2) (hk2 : r2.k = .slice e2) (hn : ov = none → n = 0) :
    (Builtin.append_ #[t, t2] ty #[slV ov n, .slice p2 0 cap2]).run P w = .ok (slV ov n) w := by
  have hu : P.underlying t = some (.slice e) := by have := (tb.get ht).is; rw [hk] at this; exact this
  have hu2 : P.underlying t2 = some (.slice e2) := by have := (tb.get ht2).is; rw [hk2] at this; exact this
  have hf : (Builtin.firstCells re.size 0 (.slice p2 0 cap2)).run P w = .ok #[] w := by
    cases p2 <;> simp [Builtin.firstCells, loadCells, loadCellsFrom]
  unfold Builtin.append_
  cases ov with
  | none =>
    simp [slV, run_underlying hu, run_underlying hu2, (tb.get he).size, Builtin.lenOf, hf]
  | some q =>
    obtain ⟨b, j, junk⟩ := q
    simp [slV, run_underlying hu, run_underlying hu2, (tb.get he).size, Builtin.lenOf, hf, storeCells]
/-- append(s, y...): s a slice of one's own, y one that is read. -/
theorem R.appendSl {ov ov2 : Ov} {n m e2 e3 : Nat} {old news zc : List Value} (hn : Nat.blt dd X.n = true) (ht : X.tb.row t = some r) (hk : r.k = .slice e) (he : X.tb.row e = some re) (hz : cellsE re.zero = some zc) (hzl : zc.length = re.size) (ht2 : X.tb.row t2 = some r2) (hk2 : r2.k = .slice e2) (hb1 : Nat.ble 1 re.bytes = true) (hb2 : Nat.ble re.bytes 65536 = true)
    (hx : ev σ x = some (slV ov n)) (hy : ev σ y = some (slV ov2 m)) (hok : OvOk re.size ov n old) (hok2 : OvOk re.size ov2 m news) (hp : Ext L (blkL e ov old) Lr) (hin : ∀ x ∈ blkL e3 ov2 news, x ∈ L)
    (h1 : news.all Value.oneCell' = true) (hbig : n + m ≤ 1073741824)
    (h : ∀ ov', OvOk re.size ov' (n + m) (old ++ news) → R X all rest K ((dd, slV ov' (n + m)) :: σ) (blkL e ov' (old ++ news) ++ Lr)) :
    R X all (⟨some dd, .call { callee := .builtin .append, args := #[x, y], argTypes := #[t, t2] }, ty, pos, af, none⟩ :: rest) K σ L :=
  R.value rfl rfl hn fun a w ha hw => by
    have hw2 := hw.perm hp.perm
    rcases Nat.eq_zero_or_pos m with h0 | h0
    · subst h0
      have hnews : news = [] := by have := hok2.1; cases news; rfl; simp at this
      subst hnews
      have hs2 : slV ov2 0 = .slice (ovp ov2) 0 (ovc ov2 0) := slV_eq hok2
      have hrun := append_none X.tb (w := w) (ty := ty) (n := n) (p2 := ovp ov2) (cap2 := ovc ov2 0) (ov := ov) ht hk he ht2 hk2 (fun e => by subst e; exact hok.2)
      refine ⟨slV ov n, w, blkL e ov (old ++ []) ++ Lr, ?_, by rw [List.append_nil]; exact hw2, h ov (by rw [List.append_nil]; exact hok)⟩
      simp [execOp, resolve, ha.ev hx, ha.ev hy, hs2, invoke, builtin, hrun]
    · have hlen : news.length = m * re.size := hok2.1
      have h3 := Nat.le_of_ble_eq_true hb2
      have hbig' : (2 * (n + m) + 768) * re.bytes ≤ 281474976710656 := by
        have := Nat.mul_le_mul (show 2 * (n + m) + 768 ≤ 2147484416 by omega) h3
        omega
      have hl : Builtin.lenOf (slV ov2 m) = Pure.pure m := by
        cases ov2 with
        | none => have : m = 0 := hok2.2; omega
        | some q => rfl
      obtain ⟨b', j', junk', w', g1, g2, g3⟩ := append_run X.tb (ty := ty) ht hk he hz hzl ht2 hk2 hw2 (OwnAt.mid hok) hl (Holds.ov hok2 hin hw) hlen h1 h0 hbig' (Nat.le_of_ble_eq_true hb1)
      refine ⟨slV (some (b', j', junk')) (n + m), w', _, ?_, g3, h (some (b', j', junk')) ⟨by rw [List.length_append, hok.1, hlen, Nat.add_mul], g1⟩⟩
      simp [execOp, resolve, ha.ev hx, ha.ev hy, invoke, builtin, g2]
      rfl
theorem append_none' {P : Program} (tb : Tb P) {w : World} {ov : Ov} {n e2 : Nat} {s2 : Value} (ht : tb.row t = some r) (hk : r.k = .slice e) (he : tb.row e = some re) (ht2 : tb.row t2 = some r2) (hk2 : r2.k = .slice e2) (hn : ov = none → n = 0) (hs2 : Builtin.lenOf s2 = Pure.pure 0) (hh : Holds w s2 []) :
    (Builtin.append_ #[t, t2] ty #[slV ov n, s2]).run P w = .ok (slV ov n) w := by
  have hu : P.underlying t = some (.slice e) := by have := (tb.get ht).is; rw [hk] at this; exact this
  have hu2 : P.underlying t2 = some (.slice e2) := by have := (tb.get ht2).is; rw [hk2] at this; exact this
  have hf : (Builtin.firstCells re.size 0 s2).run P w = .ok #[] w := first_run hh (by simp)
  unfold Builtin.append_
  cases ov with
  | none =>
    simp [slV, run_underlying hu, run_underlying hu2, (tb.get he).size, hs2, hf]
  | some q =>
    obtain ⟨b, j, junk⟩ := q
    simp [slV, run_underlying hu, run_underlying hu2, (tb.get he).size, hs2, hf, storeCells]
/-- append(s, y...): s a slice of one's own, y any slice of which is known what it holds. -/
theorem R.appendH {ov : Ov} {n m e2 : Nat} {old news zc : List Value} {s2 : Value} (hn : Nat.blt dd X.n = true) (ht : X.tb.row t = some r) (hk : r.k = .slice e) (he : X.tb.row e = some re) (hz : cellsE re.zero = some zc) (hzl : zc.length = re.size) (ht2 : X.tb.row t2 = some r2) (hk2 : r2.k = .slice e2) (hb1 : Nat.ble 1 re.bytes = true) (hb2 : Nat.ble re.bytes 65536 = true)
    (hx : ev σ x = some (slV ov n)) (hy : ev σ y = some s2) (hs2 : Builtin.lenOf s2 = Pure.pure m) (hok : OvOk re.size ov n old) (hp : Ext L (blkL e ov old) Lr) (hh : ∀ w, Hp X.w0 X.S L w → Holds w s2 news) (hlen : news.length = m * re.size)
    (h1 : news.all Value.oneCell' = true) (hbig : n + m ≤ 1073741824)
    (h : ∀ ov', OvOk re.size ov' (n + m) (old ++ news) → R X all rest K ((dd, slV ov' (n + m)) :: σ) (blkL e ov' (old ++ news) ++ Lr)) :
    R X all (⟨some dd, .call { callee := .builtin .append, args := #[x, y], argTypes := #[t, t2] }, ty, pos, af, none⟩ :: rest) K σ L :=
  R.value rfl rfl hn fun a w ha hw => by
    have hw2 := hw.perm hp.perm
    rcases Nat.eq_zero_or_pos m with h0 | h0
    · subst h0
      have hnews : news = [] := by cases news; rfl; simp at hlen
      subst hnews
      have hrun := append_none' X.tb (w := w) (ty := ty) (n := n) (ov := ov) ht hk he ht2 hk2 (fun e => by subst e; exact hok.2) hs2 (hh w hw)
      refine ⟨slV ov n, w, blkL e ov (old ++ []) ++ Lr, ?_, by rw [List.append_nil]; exact hw2, h ov (by rw [List.append_nil]; exact hok)⟩
      simp [execOp, resolve, ha.ev hx, ha.ev hy, invoke, builtin, hrun]
    · have h3 := Nat.le_of_ble_eq_true hb2
      have hbig' : (2 * (n + m) + 768) * re.bytes ≤ 281474976710656 := by
        have := Nat.mul_le_mul (show 2 * (n + m) + 768 ≤ 2147484416 by omega) h3
        omega
      obtain ⟨b', j', junk', w', g1, g2, g3⟩ := append_run X.tb (ty := ty) ht hk he hz hzl ht2 hk2 hw2 (OwnAt.mid hok) hs2 (hh w hw) hlen h1 h0 hbig' (Nat.le_of_ble_eq_true hb1)
      refine ⟨slV (some (b', j', junk')) (n + m), w', _, ?_, g3, h (some (b', j', junk')) ⟨by rw [List.length_append, hok.1, hlen, Nat.add_mul], g1⟩⟩
      simp [execOp, resolve, ha.ev hx, ha.ev hy, invoke, builtin, g2]
      rfl
/-- A slice's first ones, its last ones. -/
def preV (ov : Ov) (n i : Nat) : Value := match ov with
  | none => .slice none 0 0
  | some (b, j, _) => .slice (some ⟨b, 0, none⟩) i (n + j)
def sufV (ov : Ov) (sz n i : Nat) : Value := match ov with
  | none => .slice none 0 0
  | some (b, j, _) => .slice (if n + j = i then some ⟨b, 0, none⟩ else some ⟨b, 0 + i * sz, none⟩) (n - i) (n + j - i)
theorem Ok1.slicePre {d : Option Nat} {g : Option (Nat × Bool)} {ov : Ov} {n sz i : Nat} {xs : List Value} {hi : Operand} (ht : X.tb.row t = some r) (hk : r.k = .slice e) (he : X.tb.row e = some re) (hx : ev σ x = some (slV ov n)) (hok : OvOk sz ov n xs) (hh : ev σ hi = some (.int .i64 i)) (h1 : i ≤ n) :
    Ok1 X ⟨d, .slice t x none (some hi) none, ty, pos, af, g⟩ σ L (preV ov n i) := by
  cases ov with
  | none =>
    have h2 : n = 0 := hok.2
    have h3 : i = 0 := by omega
    subst h3
    exact Ok1.slice0 (h := 0) (m := 0) (l := 0) ht hk he hx rfl (by simp [bd, hh]) rfl ⟨rfl, rfl, rfl⟩ (.inl rfl)
  | some q =>
    obtain ⟨b, j, junk⟩ := q
    have := Ok1.sliceTo (X := X) (L := L) (ty := ty) (pos := pos) (af := af) (d := d) (g := g) (h := i) (m := ((n + j : Nat) : Int)) (mx := none) (hi := some hi) ht hk he hx (by simp [bd]) (by simp [bd, hh]) (by omega) (by omega) (by omega) (.inl rfl)
    simp only [Int.toNat_natCast] at this
    exact this
theorem Ok1.sliceSuf {d : Option Nat} {g : Option (Nat × Bool)} {ov : Ov} {n sz i : Nat} {xs : List Value} {lo : Operand} (ht : X.tb.row t = some r) (hk : r.k = .slice e) (he : X.tb.row e = some re) (hsz : re.size = sz) (hx : ev σ x = some (slV ov n)) (hok : OvOk sz ov n xs) (hh : ev σ lo = some (.int .i64 i)) (h1 : i ≤ n) :
    Ok1 X ⟨d, .slice t x (some lo) none none, ty, pos, af, g⟩ σ L (sufV ov sz n i) := by
  subst hsz
  cases ov with
  | none =>
    have h2 : n = 0 := hok.2
    have h3 : i = 0 := by omega
    subst h2; subst h3
    exact Ok1.slice0 (h := 0) (m := 0) (l := 0) ht hk he hx rfl rfl (by simp [bd, hh]) ⟨rfl, rfl, rfl⟩ (.inl rfl)
  | some q =>
    obtain ⟨b, j, junk⟩ := q
    refine .mk fun a w ha hw => ?_
    rw [slice_run (l := i) (h := n) (m := ((n + j : Nat) : Int)) X.tb ht hk he ha hx (by simp [bd]) (by simp [bd]) (by simp [bd, hh]) (by omega) (by omega) (by omega) (by omega) (.inl rfl)]
    simp only [sufV, Int.toNat_natCast, Option.map_some, Addr.add_none]
theorem preV_len {sz n i : Nat} {ov : Ov} {xs : List Value} (hok : OvOk sz ov n xs) (h1 : i ≤ n) : Builtin.lenOf (preV ov n i) = Pure.pure i := by
  cases ov with
  | none => have h2 : n = 0 := hok.2; have : i = 0 := by omega
            subst this; rfl
  | some q => rfl
theorem sufV_len {sz n i : Nat} {ov : Ov} {xs : List Value} (hok : OvOk sz ov n xs) (h1 : i ≤ n) : Builtin.lenOf (sufV ov sz n i) = Pure.pure (n - i) := by
  cases ov with
  | none => have h2 : n = 0 := hok.2
            rw [h2]; simp [sufV, Builtin.lenOf]
  | some q => rfl
theorem preV_holds {w0 w : World} {S : List Nat} {e2 sz n i : Nat} {ov : Ov} {xs : List Value} (hok : OvOk sz ov n xs) (h1 : i ≤ n) (hb : ∀ x ∈ blkL e2 ov xs, x ∈ L) (hw : Hp w0 S L w) : Holds w (preV ov n i) (xs.take (i * sz)) := by
  cases ov with
  | none =>
    have h2 : n = 0 := hok.2
    have h3 := hok.1
    have h4 : i = 0 := by omega
    subst h4
    simp [preV, Holds]
  | some q =>
    obtain ⟨b, j, junk⟩ := q
    have := hw.get b _ (hb _ List.mem_cons_self)
    intro k hk
    have hkx : k < xs.length := by rw [List.length_take] at hk; omega
    rw [List.getElem?_take_of_lt (by rw [List.length_take] at hk; omega)]
    simp only [World.cell?, this, Nat.zero_add]
    simp [List.getElem?_append_left, hkx]
theorem sufV_holds {w0 w : World} {S : List Nat} {e2 sz n i : Nat} {ov : Ov} {xs : List Value} (hok : OvOk sz ov n xs) (h1 : i ≤ n) (hb : ∀ x ∈ blkL e2 ov xs, x ∈ L) (hw : Hp w0 S L w) : Holds w (sufV ov sz n i) (xs.drop (i * sz)) := by
  cases ov with
  | none =>
    have h2 : n = 0 := hok.2
    have h3 := hok.1
    subst h2
    have : xs = [] := by cases xs; rfl; simp at h3
    subst this
    simp [sufV, Holds]
  | some q =>
    obtain ⟨b, j, junk⟩ := q
    have hg := hw.get b _ (hb _ List.mem_cons_self)
    have hl := hok.1
    by_cases h9 : n + j = i
    · have hd : xs.drop (i * sz) = [] := by
        rw [List.drop_eq_nil_iff]; rw [hl]; exact Nat.mul_le_mul_right _ (by omega)
      rw [hd]
      simp only [sufV, if_pos h9, Holds]
      intro k hk; simp at hk
    · simp only [sufV, if_neg h9]
      intro k hk
      have hkx : i * sz + k < xs.length := by rw [List.length_drop] at hk; omega
      rw [List.getElem?_drop]
      simp only [World.cell?, hg, Nat.zero_add]
      simp [List.getElem?_append_left, hkx]
theorem R.buildSlice0 (hn : Nat.blt dd X.n = true) (ht : X.tb.row t = some r) (hk : r.k = .slice e) (he : X.tb.row e = some re)
    (h : ∀ b, R X all rest K ((dd, slV (some (b, 0, [])) 0) :: σ) ((b, .cells ⟨[]⟩ e (0, 0)) :: L)) : R X all (⟨some dd, .buildSlice t 0 #[], ty, pos, af, none⟩ :: rest) K σ L :=
  R.value rfl rfl hn fun a w ha hw => by
    refine ⟨.slice (some ⟨w.heap.size, 0, none⟩) 0 0, w.alloc (.cells ⟨[]⟩ e (0, 0)), _, ?_, hw.alloc _, h _⟩
    have h2 := (X.tb.get ht).is
    rw [hk] at h2
    simp only [TK.is] at h2
    have h3 : Array.range 0 = #[] := by apply Array.toList_inj.1; simp
    simp [execOp, Instr.buildSlice, run_underlying h2, (X.tb.get he).size, Instr.fill, newRow, run_newObj, h3]
theorem Ok1.neqB {d : Option Nat} {g : Option (Nat × Bool)} {ty2 : TypeId} {b : Bool} (ht : X.tb.row t = some r) (hk : r.k = .bool) (hx : ev σ x = some (.bool b)) (hy : ev σ y = some (.bool b)) : Ok1 X ⟨d, .binOp .neq t x y ty2, ty, pos, af, g⟩ σ L (.bool false) := .mk fun a w ha hw => by
  have hu : X.P.underlying t = some .bool := by have := (X.tb.get ht).is; rw [hk] at this; exact this
  have hE : ∀ n, (Op.equalIn (n + 1) t (.bool b) (.bool b)).run X.P w = .ok true w := by
    intro n
    rw [Op.equalIn]
    simp [run_underlying hu]
  obtain ⟨n, hm⟩ : ∃ n, Op.maxDepth = n + 1 := ⟨_, rfl⟩
  simp [execOp, ha.ev hx, ha.ev hy, eqGuard, binOp, Op.equal, hm, hE]
theorem R.make1 {n : Nat} {k k' : IntKind} {z' : Value} (hn : Nat.blt dd X.n = true) (ht : X.tb.row t = some r) (hk : r.k = .slice e) (he : X.tb.row e = some re) (hz : cellsE re.zero = some [z']) (hs : Nat.beq re.size 1 = true) (hb : Nat.ble re.bytes 65536 = true)
    (hx : ev σ x = some (.int k n)) (hy : ev σ y = some (.int k' n)) (hle : n ≤ 1073741824)
    (h : ∀ b, R X all rest K ((dd, .slice (some ⟨b, 0, none⟩) n n) :: σ) ((b, .cells ⟨List.replicate n z'⟩ e (0, 0)) :: L)) : R X all (⟨some dd, .makeSlice t x y, ty, pos, af, none⟩ :: rest) K σ L :=
  R.value rfl rfl hn fun a w ha hw => by
    have hu : X.P.underlying t = some (.slice e) := by have := (X.tb.get ht).is; rw [hk] at this; exact this
    obtain ⟨i, hi, hib⟩ : ∃ i, X.P.info? e = some i ∧ i.bytes = re.bytes := by
      have := (X.tb.get he).bytes
      cases h : X.P.info? e with
      | none => rw [h] at this; cases this
      | some i => rw [h] at this; exact ⟨i, rfl, by simpa using this⟩
    have hti : ∀ w, (typeInfo e).run X.P w = .ok i w := fun w => by simp [typeInfo, hi]
    have hzc := cellsE_eq hz
    have hs1 := Nat.eq_of_beq_eq_true hs
    have hb1 := Nat.le_of_ble_eq_true hb
    have hwr : IntKind.i64.wrap (n : Int) = n := IntWalk.i64_in _ ⟨by omega, by omega⟩
    have hlt : ¬ ((re.bytes : Int) * (n : Int) > 2 ^ 48) := by
      have : re.bytes * n ≤ 65536 * 1073741824 := Nat.mul_le_mul hb1 hle
      have h9 : ((re.bytes * n : Nat) : Int) = (re.bytes : Int) * (n : Int) := by simp
      have h10 : (2 : Int) ^ 48 = 281474976710656 := by decide
      omega
    have hcells : (Array.range (n * 1)).map (fun i => (Array.mk [z'])[i % (Array.mk [z']).size]!) = (⟨List.replicate n z'⟩ : Array Value) := by
      apply Array.ext_getElem?
      intro j
      by_cases hj : j < n <;> simp [Array.getElem?_map, Array.getElem?_range, List.getElem?_replicate, hj, Nat.mod_one]
    refine ⟨.slice (some ⟨w.heap.size, 0, none⟩) n n, w.alloc (.cells ⟨List.replicate n z'⟩ e (0, 0)), _, ?_, hw.alloc _, h _⟩
    have hai : ∀ (k : IntKind) (w : World), (asInt (.int k n)).run X.P w = .ok (n : Int) w := fun k w => by simp [asInt, asIntOf]
    have hlt' : ¬ (2 ^ 48 < (re.bytes : Int) * (n : Int)) := hlt
    simp only [execOp, ha.ev hx, ha.ev hy, Instr.makeSlice, Sem.run_bind, run_underlying hu, Result.andThen_ok, hai, hti, hib, hwr, gt_iff_lt, hlt', show ¬ ((n : Int) < 0) by omega, Int.lt_irrefl, decide_false, Bool.or_self, Bool.false_eq_true, if_false, Sem.run_pure, run_askRoom, (X.tb.get he).size, hs1, Int.toNat_natCast, newRow, run_newObj]
    by_cases h0 : n = 0
    · subst h0
      have h3 : Array.range (0 * 1) = #[] := by apply Array.toList_inj.1; simp
      simp [h3]
    · have hne : ¬ n * 1 = 0 := by omega
      simp only [if_neg hne, Sem.run_bind, (X.tb.get he).zero, hzc, Result.andThen_ok, Sem.run_pure, run_newObj, hcells]
      rfl
end
section
variable {X : Cx} {all : Array Oper} {C : Lst} {fuel : Nat} {listed : Array Bool} {K : Env → Lst → Prop} {σ : Env}
/-- The class gets the newest block. -/
theorem A.clsH {b : Nat} {o : Obj} {L' : Lst} (h2 : SubL C L') (h : A X all ((b, o) :: C) fuel listed K σ ((b, o) :: L')) : A X all C fuel listed K σ ((b, o) :: L') :=
  ⟨fun a w ha hw hC => by
    have hn := hw.nod
    simp only [List.map_cons, List.nodup_cons] at hn
    have hnb : b ∉ C.map (·.1) := fun hm => by
      obtain ⟨x, hx, e⟩ := List.mem_map.1 hm
      exact hn.1 (List.mem_map.2 ⟨x, h2.mem x.1 x.2 hx, e⟩)
    have hC2 : Hp X.w0 X.S ((b, o) :: C) w := ⟨hw.chg, fun b' o' hm => by
      rcases List.mem_cons.1 hm with e | hm
      · cases e; exact hw.get _ _ List.mem_cons_self
      · exact hC.get _ _ hm, by simp only [List.map_cons, List.nodup_cons]; exact ⟨hnb, hC.nod⟩, fun b' o' hm => by
      rcases List.mem_cons.1 hm with e | hm
      · cases e; exact hw.own _ _ List.mem_cons_self
      · exact hC.own _ _ hm⟩
    exact wpAnyC_mono (fun w' h' => h'.sub (List.sublist_cons_self _ _)) _ _ _ _ (h.run a w ha hw hC2)⟩
end
end Go.Proofs.Ytligpachgcmkcaa
