/- Slices that are read, cut; appended to one's own; room made ahead. -/
import Derived.Test.YtligpachgcmkcaaEng24
set_option linter.unusedSimpArgs false
set_option linter.unusedVariables false
set_option linter.unusedSectionVars false
namespace Go.Proofs.Ytligpachgcmkcaa
open Go.RowKit Go.Shelf

theorem subE_app : ∀ (xs junk : List Value) {n : Nat}, xs.length = n → subE (xs ++ junk) 0 n = some xs
  | [], junk, n, h => by simp at h; subst h; cases junk <;> rfl
  | x :: xs, junk, n, h => by
    cases n with
    | zero => simp at h
    | succ n =>
      have := subE_app xs junk (n := n) (by simpa using h)
      simp only [List.cons_append, subE, this]
theorem subE_all {xs : List Value} {n : Nat} (h : xs.length = n) : subE xs 0 n = some xs := by
  have := subE_app xs [] h
  rwa [List.append_nil] at this
theorem setE_all {cs vs : List Value} (h : vs.length = cs.length) : setE cs 0 vs = some vs := by
  have := setE_mid [] (vs := vs) (junk := cs) (by omega)
  simpa [h] using this
/-- Where a slice's last ones lie. -/
def sufP (p : Option Addr) (cap i sz : Nat) : Option Addr := if cap = i then p else p.map (·.add (i * sz))
section
variable {α : Type} {v : α → List Value} {sz : Nat} {xs : List α} {w : World} {p : Option Addr}
theorem RdSl.suf (hv : ∀ a, (v a).length = sz) (h : RdSl w p v xs) {cap i : Nat} (h1 : i ≤ xs.length) (h2 : xs.length ≤ cap) : RdSl w (sufP p cap i sz) v (xs.drop i) := by
  by_cases hc : cap = i
  · left; exact List.drop_eq_nil_of_le (by omega)
  · rcases h with h | ⟨b, o, rfl, h⟩
    · left; rw [h]; exact List.drop_nil
    · right
      refine ⟨b, o + i * sz, by simp [sufP, hc, Addr.add_none], fun k hk => ?_⟩
      rw [← fl_dropG hv] at hk ⊢
      rw [List.length_drop] at hk
      rw [List.getElem?_drop, ← h (i * sz + k) (by omega), Nat.add_assoc]
theorem RdSl.pre (hv : ∀ a, (v a).length = sz) (h : RdSl w p v xs) (i : Nat) : RdSl w p v (xs.take i) := by
  rcases h with h | ⟨b, o, rfl, h⟩
  · left; rw [h]; exact List.take_nil
  · right
    refine ⟨b, o, rfl, fun k hk => ?_⟩
    rw [← fl_takeG hv] at hk ⊢
    rw [List.length_take] at hk
    rw [List.getElem?_take, if_pos (by omega)]
    exact h k (by omega)
theorem Off.suf {S : List Nat} (h : Off p S) (cap i sz : Nat) : Off (sufP p cap i sz) S := by
  intro a ha
  unfold sufP at ha
  split at ha
  · exact h a ha
  · cases p with
    | none => cases ha
    | some a0 =>
      simp only [Option.map_some, Option.some.injEq] at ha
      subst ha
      have := h a0 rfl
      unfold Addr.add
      split <;> exact this
theorem RdSl.chg' {w' : World} {S : List Nat} (h : RdSl w p v xs) (hc : Chg S w w') (ho : xs ≠ [] → Off p S) : RdSl w' p v xs := by
  by_cases hx : xs = []
  · exact .inl hx
  · exact h.chg hc (ho hx)
/-- What is old lies in none of the blocks that are one's own. -/
theorem RdSl.old {w' : World} {S : List Nat} {L Li Lr : Lst} (hv : ∀ a, (v a).length = sz) (hs : 1 ≤ sz) (h : RdSl w p v xs) (ho : xs ≠ [] → Off p S) (hw : Hp w S L w') (he : Ext L Li Lr) : xs ≠ [] → Off p (blks Li) := by
  intro hx a ha hm
  rcases h with h | ⟨b, o, hp, h⟩
  · exact hx h
  · rw [hp] at ha
    cases ha
    obtain ⟨⟨b', ob⟩, hmem, hb'⟩ := List.mem_map.1 hm
    simp only at hb'
    subst hb'
    rcases hw.own b' ob (he.mem _ hmem) with h1 | h1
    · have h2 : 0 < (fl v xs).length := by
        rw [fl_len hv]
        have : 0 < xs.length := List.length_pos_iff.2 hx
        exact Nat.mul_pos this hs
      have h3 := h 0 h2
      rw [List.getElem?_eq_getElem h2] at h3
      simp only [World.cell?] at h3
      have h4 : w.heap[b']? = none := Array.getElem?_eq_none h1
      rw [h4] at h3
      simp at h3
    · exact ho hx _ hp h1
theorem RdSl.holds {n cap : Nat} (h : RdSl w p v xs) (hne : xs ≠ []) : Holds w (.slice p n cap) (fl v xs) := by
  rcases h with h | ⟨b, o, rfl, h⟩
  · exact absurd h hne
  · exact fun i hi => h i hi
end
section
variable {X : Cx} {σ : Env} {L Lr : Lst} {d : Option Nat} {dd : Nat} {ty : TypeId} {pos : String} {af : Array Edge} {g : Option (Nat × Bool)} {x y : Operand} {t t2 e : TypeId} {r r2 re : TRow}
variable {all : Array Oper} {rest : List Oper} {K : Env → Lst → Prop} {p : Option Addr} {n cap i : Nat}
theorem Ok1.sufR {lo : Operand} {sz : Nat} (ht : X.tb.row t = some r) (hk : r.k = .slice e) (he : X.tb.row e = some re) (hsz : re.size = sz) (hx : ev σ x = some (.slice p n cap)) (hh : ev σ lo = some (.int .i64 i)) (h1 : i ≤ n) (h2 : n ≤ cap) :
    Ok1 X ⟨d, .slice t x (some lo) none none, ty, pos, af, g⟩ σ L (.slice (sufP p cap i sz) (n - i) (cap - i)) := .mk fun a w ha hw => by
  subst hsz
  rw [slice_run (l := (i : Int)) (h := (n : Int)) (m := (cap : Int)) X.tb ht hk he ha hx rfl rfl (by simp [bd, hh]) (by omega) (by omega) (by omega) (by omega) (.inl rfl)]
  simp [sufP]
theorem Ok1.preR {hi : Operand} (ht : X.tb.row t = some r) (hk : r.k = .slice e) (he : X.tb.row e = some re) (hx : ev σ x = some (.slice p n cap)) (hh : ev σ hi = some (.int .i64 i)) (h1 : i ≤ cap) :
    Ok1 X ⟨d, .slice t x none (some hi) none, ty, pos, af, g⟩ σ L (.slice p i cap) := .mk fun a w ha hw => by
  rw [slice_run (l := 0) (h := (i : Int)) (m := (cap : Int)) X.tb ht hk he ha hx rfl (by simp [bd, hh]) rfl (by omega) (by omega) (by omega) (by omega) (.inl rfl)]
  have : p.map (·.add (0 * re.size)) = p := by cases p <;> simp [Addr.add]
  simp only [Int.toNat_zero, this, ite_self, Int.toNat_natCast, Nat.sub_zero]
theorem Ok1.capS (ht : X.tb.row t = some r) (hk : r.k = .slice e) (hx : ev σ x = some (.slice p n cap)) : Ok1 X ⟨d, .call { callee := .builtin .cap, args := #[x], argTypes := #[t] }, ty, pos, af, g⟩ σ L (.int .i64 cap) := .mk fun a w ha hw => by
  have h2 := (X.tb.get ht).is
  rw [hk] at h2
  simp only [TK.is] at h2
  simp [execOp, resolve, ha.ev hx, invoke, builtin, Builtin.cap_, run_underlying h2, goInt]
/-- append(s, y...): s a slice of one's own, y one that is read. -/
theorem R.appendRd {α : Type} {v : α → List Value} {xs : List α} {sz : Nat} {ov : Ov} {m cap2 e2 : Nat} {old zc : List Value} (hn : Nat.blt dd X.n = true) (ht : X.tb.row t = some r) (hk : r.k = .slice e) (he : X.tb.row e = some re) (hz : cellsE re.zero = some zc) (hzl : zc.length = re.size) (ht2 : X.tb.row t2 = some r2) (hk2 : r2.k = .slice e2) (hb1 : Nat.ble 1 re.bytes = true) (hb2 : Nat.ble re.bytes 65536 = true)
    (hx : ev σ x = some (slV ov n)) (hy : ev σ y = some (.slice p m cap2)) (hok : OvOk re.size ov n old) (hp : Ext L (blkL e ov old) Lr) (hm : m = xs.length) (hv : ∀ a, (v a).length = sz) (hs : re.size = sz) (hh : ∀ w, Hp X.w0 X.S L w → RdSl w p v xs)
    (h1 : (fl v xs).all Value.oneCell' = true) (hbig : n + m ≤ 1073741824)
    (h : ∀ ov', OvOk re.size ov' (n + m) (old ++ fl v xs) → (ov.isSome = true → ov'.isSome = true) → R X all rest K ((dd, slV ov' (n + m)) :: σ) (blkL e ov' (old ++ fl v xs) ++ Lr)) :
    R X all (⟨some dd, .call { callee := .builtin .append, args := #[x, y], argTypes := #[t, t2] }, ty, pos, af, none⟩ :: rest) K σ L := by
  subst hm
  cases xs with
  | nil =>
    refine R.value rfl rfl hn fun a w ha hw => ?_
    have hw2 := hw.perm hp.perm
    have hrun := append_none X.tb (w := w) (ty := ty) (n := n) (p2 := p) (cap2 := cap2) (ov := ov) ht hk he ht2 hk2 (fun e => by subst e; exact hok.2)
    refine ⟨slV ov n, w, blkL e ov (old ++ []) ++ Lr, ?_, by rw [List.append_nil]; exact hw2, h ov (by simpa [fl] using hok) id⟩
    simp [execOp, resolve, ha.ev hx, ha.ev hy, invoke, builtin, hrun]
  | cons x0 xs =>
    refine R.appendH hn ht hk he hz hzl ht2 hk2 hb1 hb2 hx hy rfl hok hp (fun w hw => (hh w hw).holds (by simp)) ?_ h1 hbig fun ov' h2 => h ov' h2 fun _ => by
      cases ov' with
      | none => have := h2.2; simp at this
      | some _ => rfl
    rw [fl_len hv, hs]
/-- Room for n, made ahead of any: append(nil, make(.., n)...). -/
theorem grow_run {P : Program} (tb : Tb P) (ht : tb.row t = some r) (hk : r.k = .slice e) (he : tb.row e = some re) {z : Value} (hz : cellsE re.zero = some [z]) (hsz : re.size = 1) (ht2 : tb.row t2 = some r2) (hk2 : r2.k = .int .i64)
    {w0 w : World} {S : List Nat} {n : Nat} (hw : Hp w0 S L w) (hm : 1 ≤ n) (hbig : (2 * n + 768) * re.bytes ≤ 281474976710656) (hb1 : 1 ≤ re.bytes) :
    ∃ b' j' w', (Builtin.append_ #[t, t2] ty #[.slice none 0 0, .int .i64 n]).run P w = .ok (.slice (some ⟨b', 0, none⟩) n (n + j')) w' ∧ Hp w0 S ((b', .cells ⟨List.replicate (n + j') z⟩ e (0, 0)) :: L) w' := by
  have hu : P.underlying t = some (.slice e) := by have := (tb.get ht).is; rw [hk] at this; exact this
  have hu2 : P.underlying t2 = some (.int .i64) := by have := (tb.get ht2).is; rw [hk2] at this; exact this
  obtain ⟨i, hi, hib⟩ : ∃ i, P.info? e = some i ∧ i.bytes = re.bytes := by
    have := (tb.get he).bytes
    cases h : P.info? e with
    | none => rw [h] at this; cases this
    | some i => rw [h] at this; exact ⟨i, rfl, by simpa using this⟩
  have hti : ∀ w, (typeInfo e).run P w = .ok i w := fun w => by simp [typeInfo, hi]
  have hzc := cellsE_eq hz
  have hnx := nextcap_le n 0 (by omega)
  have h48 : (2 : Nat) ^ 48 = 281474976710656 := by decide
  have hnb : ¬ Builtin.nextslicecap n 0 * re.bytes > 2 ^ 48 := by
    have := Nat.mul_le_mul_right re.bytes hnx
    omega
  have hn2 : n * 1 ≤ n * re.bytes := Nat.mul_le_mul_left _ hb1
  have hn3 : (2 * n + 768) * re.bytes = 2 * (n * re.bytes) + 768 * re.bytes := by rw [Nat.add_mul, Nat.mul_assoc]
  have hwn : IntKind.i64.wrap (n : Int) = n := wrap_in (by omega) (by omega)
  have hnn : ¬ (n : Int) < 0 := by omega
  have hlb : ¬ ((n : Int) * (re.bytes : Int) > 2 ^ 48) := by
    have h1 : n * re.bytes ≤ 2 ^ 48 := by omega
    have h2 : ((n * re.bytes : Nat) : Int) ≤ ((2 ^ 48 : Nat) : Int) := Int.ofNat_le.2 h1
    have h3 : ((2 ^ 48 : Nat) : Int) = 2 ^ 48 := by decide
    rw [Int.natCast_mul] at h2
    omega
  have hzr : ∀ k, (Builtin.zeroCells re.zero.cells k).toList = List.replicate k z := by
    intro k
    have hc : re.zero.cells = #[z] := by apply Array.toList_inj.1; rw [hzc]
    rw [hc]
    refine List.eq_replicate_iff.2 ⟨by simp [Builtin.zeroCells], fun x hx => ?_⟩
    simp only [Builtin.zeroCells, Array.toList_map, List.mem_map, List.size_toArray, List.length_singleton, Nat.mod_one] at hx
    obtain ⟨_, _, rfl⟩ := hx
    rfl
  obtain ⟨q, hq⟩ : ∃ q, (Question.appendCap n 0 e).cut (w.tape w.drawn (.appendCap n 0 e)) = n + q := ⟨_, rfl⟩
  refine ⟨w.heap.size, q, w.drew.alloc (.cells ⟨List.replicate (n + q) z⟩ e (0, 0)), ?_, (hw.step (Chg.drew [] w)).alloc _⟩
  have harr : ((#[] : Array Value) ++ Builtin.zeroCells re.zero.cells n ++ Builtin.zeroCells re.zero.cells (n + q - n) : Array Value) = ⟨List.replicate (n + q) z⟩ := by
    apply Array.toList_inj.1
    rw [Array.toList_append, Array.toList_append, hzr, hzr, Nat.add_sub_cancel_left, List.nil_append, List.replicate_append_replicate]
  have hai : ∀ w, (asInt (.int .i64 (n : Int))).run P w = .ok (n : Int) w := fun w => by simp [asInt, asIntOf]
  have hmx : ¬ (n : Int) > IntKind.i64.max := by have : IntKind.i64.max = 9223372036854775807 := by decide
                                                 omega
  unfold Builtin.append_
  simp only [hmx, false_and, List.getElem?_toArray, List.getElem?_cons_zero, List.getElem?_cons_succ, Sem.run_bind, run_underlying hu, run_underlying hu2, Result.andThen_ok, (tb.get he).size, Sem.run_pure, if_true, hai, hwn, hnn, if_false, Nat.zero_add, Nat.not_le.2 (show 0 < n by omega), hti, hib, Sem.run_ite, hlb, Int.toNat_natCast, Bool.not_true, Bool.false_eq_true,
    show ¬ re.bytes = 0 by omega, or_false, and_false, false_or, hnb, run_choose, Question.forced, hq, run_askRoom, World.drew_eq, Builtin.firstCells, hsz, Nat.mul_one, show ¬ n = 0 by omega, (tb.get he).zero, newRow, run_newObj, harr]
  rfl
theorem R.growMk {z : Value} (hn : Nat.blt dd X.n = true) (ht : X.tb.row t = some r) (hk : r.k = .slice e) (he : X.tb.row e = some re) (hz : cellsE re.zero = some [z]) (hsz : Nat.beq re.size 1 = true) (ht2 : X.tb.row t2 = some r2) (hk2 : r2.k = .int .i64) (hb1 : Nat.ble 1 re.bytes = true) (hb2 : Nat.ble re.bytes 65536 = true)
    (hx : ev σ x = some (.slice none 0 0)) (hy : ev σ y = some (.int .i64 n)) (hm : 1 ≤ n) (hbig : n ≤ 1073741824)
    (h : ∀ b' j', R X all rest K ((dd, .slice (some ⟨b', 0, none⟩) n (n + j')) :: σ) ((b', .cells ⟨List.replicate (n + j') z⟩ e (0, 0)) :: L)) :
    R X all (⟨some dd, .call { callee := .builtin .append, args := #[x, y], argTypes := #[t, t2] }, ty, pos, af, none⟩ :: rest) K σ L :=
  R.value rfl rfl hn fun a w ha hw => by
    have h3 := Nat.le_of_ble_eq_true hb2
    have hbig' : (2 * n + 768) * re.bytes ≤ 281474976710656 := by
      have := Nat.mul_le_mul (show 2 * n + 768 ≤ 2147484416 by omega) h3
      omega
    obtain ⟨b', j', w', g1, g2⟩ := grow_run X.tb (ty := ty) ht hk he hz (Nat.eq_of_beq_eq_true hsz) ht2 hk2 hw hm hbig' (Nat.le_of_ble_eq_true hb1)
    refine ⟨_, w', _, ?_, g2, h b' j'⟩
    simp [execOp, resolve, ha.ev hx, ha.ev hy, invoke, builtin, g1]
end
end Go.Proofs.Ytligpachgcmkcaa
