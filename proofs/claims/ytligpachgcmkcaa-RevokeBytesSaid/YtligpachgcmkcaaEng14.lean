/- Numbers within range: conversions, quotients, remainders; the length of a number in bits. -/
import Derived.Test.YtligpachgcmkcaaEng11
set_option linter.unusedSimpArgs false
set_option linter.unusedVariables false
set_option linter.unusedSectionVars false
namespace Go.Proofs.Ytligpachgcmkcaa
open Go.RowKit Go.Shelf

section
variable {X : Cx} {σ : Env} {L : Lst} {ty ty2 t src dst : TypeId} {pos : String} {af : Array Edge} {d : Option Nat} {g : Option (Nat × Bool)} {x y : Operand} {rs rd : TRow} {i j : Int} {k : IntKind}
theorem Ok1.convI64 (hd : X.tb.row dst = some rd) (hk : rd.k = .int .i64) (hs : X.tb.row src = some rs) (hk2 : rs.k = .int k) (hx : ev σ x = some (.int k i)) (h1 : -9223372036854775808 ≤ i) (h2 : i ≤ 9223372036854775807) : Ok1 X ⟨d, .convert src dst x, ty, pos, af, g⟩ σ L (.int .i64 i) := by
  have := Ok1.conv (L := L) (ty := ty) (pos := pos) (af := af) (d := d) (g := g) hd hk hs hk2 hx
  rwa [IntWalk.i64_in i ⟨h1, h2⟩] at this
theorem Ok1.convU64 (hd : X.tb.row dst = some rd) (hk : rd.k = .int .u64) (hs : X.tb.row src = some rs) (hk2 : rs.k = .int k) (hx : ev σ x = some (.int k i)) (h1 : 0 ≤ i) (h2 : i ≤ 18446744073709551615) : Ok1 X ⟨d, .convert src dst x, ty, pos, af, g⟩ σ L (.int .u64 i) := by
  have := Ok1.conv (L := L) (ty := ty) (pos := pos) (af := af) (d := d) (g := g) hd hk hs hk2 hx
  rwa [IntWalk.u64_in i ⟨h1, h2⟩] at this
theorem Ok1.convU32 (hd : X.tb.row dst = some rd) (hk : rd.k = .int .u32) (hs : X.tb.row src = some rs) (hk2 : rs.k = .int k) (hx : ev σ x = some (.int k i)) (h1 : 0 ≤ i) (h2 : i ≤ 4294967295) : Ok1 X ⟨d, .convert src dst x, ty, pos, af, g⟩ σ L (.int .u32 i) := by
  have := Ok1.conv (L := L) (ty := ty) (pos := pos) (af := af) (d := d) (g := g) hd hk hs hk2 hx
  rwa [IntWalk.u32_in i ⟨h1, h2⟩] at this
theorem Ok1.convU8 (hd : X.tb.row dst = some rd) (hk : rd.k = .int .u8) (hs : X.tb.row src = some rs) (hk2 : rs.k = .int k) (hx : ev σ x = some (.int k i)) (h1 : 0 ≤ i) (h2 : i ≤ 255) : Ok1 X ⟨d, .convert src dst x, ty, pos, af, g⟩ σ L (.int .u8 i) := by
  have := Ok1.conv (L := L) (ty := ty) (pos := pos) (af := af) (d := d) (g := g) hd hk hs hk2 hx
  rwa [IntWalk.u8_in i ⟨h1, h2⟩] at this
theorem Ok1.quo64 (hx : ev σ x = some (.int .i64 i)) (hy : ev σ y = some (.int .i64 j)) (h0 : 0 ≤ i) (h1 : 0 < j) (h2 : i ≤ 9223372036854775807) : Ok1 X ⟨d, .binOp .quo t x y ty2, ty, pos, af, g⟩ σ L (.int .i64 (i / j)) := by
  have := Ok1.quo (X := X) (L := L) (ty := ty) (ty2 := ty2) (t := t) (pos := pos) (af := af) (d := d) (g := g) hx hy (by omega)
  rw [Int.tdiv_eq_ediv_of_nonneg h0] at this
  have h3 := Int.ediv_le_self j h0
  have h4 := Int.ediv_nonneg h0 (Int.le_of_lt h1)
  rwa [IntWalk.i64_in (i / j) ⟨by omega, by omega⟩] at this
theorem Ok1.remN (hx : ev σ x = some (.int k i)) (hy : ev σ y = some (.int k j)) (h0 : 0 ≤ i) (h1 : 0 < j) : Ok1 X ⟨d, .binOp .rem t x y ty2, ty, pos, af, g⟩ σ L (.int k (i % j)) := by
  have := Ok1.rem (X := X) (L := L) (ty := ty) (ty2 := ty2) (t := t) (pos := pos) (af := af) (d := d) (g := g) hx hy (by omega)
  rwa [Int.tmod_eq_emod_of_nonneg h0] at this
theorem pwE1 : pw (Int.toNat 1) = 2 := rfl
theorem pwE2 : pw (Int.toNat 2) = 4 := rfl
theorem pwE3 : pw (Int.toNat 3) = 8 := rfl
theorem pwE4 : pw (Int.toNat 4) = 16 := rfl
theorem pwE5 : pw (Int.toNat 5) = 32 := rfl
theorem pwE6 : pw (Int.toNat 6) = 64 := rfl
theorem pwE7 : pw (Int.toNat 7) = 128 := rfl
theorem pwE8 : pw (Int.toNat 8) = 256 := rfl
theorem pwE16 : pw (Int.toNat 16) = 65536 := rfl
theorem pwE24 : pw (Int.toNat 24) = 16777216 := rfl
theorem pwE32 : pw (Int.toNat 32) = 4294967296 := rfl
end

def blen (x : Nat) : Nat := if x = 0 then 0 else Nat.log2 x + 1
theorem blen_half {x : Nat} (h : x ≠ 0) : blen x = blen (x / 2) + 1 := by
  unfold blen
  rw [if_neg h, Nat.log2_def]
  by_cases h2 : 2 ≤ x
  · rw [if_pos h2, if_neg (by omega)]
  · rw [if_neg h2, if_pos (by omega)]
theorem blen_div (k : Nat) : ∀ {x : Nat}, 2 ^ k ≤ x → blen x = blen (x / 2 ^ k) + k := by
  induction k with
  | zero => intro x _; simp
  | succ k ih =>
    intro x h
    have h2 : 2 ^ k ≤ x / 2 := by rw [Nat.pow_succ] at h; omega
    have h3 : 0 < 2 ^ k := Nat.two_pow_pos k
    rw [blen_half (by omega), ih h2, Nat.div_div_eq_div_mul, Nat.pow_succ, Nat.mul_comm 2 (2 ^ k)]
    omega
theorem blen8 {x : Nat} (h : 256 ≤ x) : blen x = blen (x / 256) + 8 := blen_div 8 h
theorem blen16 {x : Nat} (h : 65536 ≤ x) : blen x = blen (x / 65536) + 16 := blen_div 16 h
theorem blen32 {x : Nat} (h : 4294967296 ≤ x) : blen x = blen (x / 4294967296) + 32 := blen_div 32 h
theorem blen_le {x : Nat} (k : Nat) (h : x < 2 ^ k) : blen x ≤ k := by
  unfold blen
  split
  · omega
  · rename_i h0
    have := (Nat.log2_lt h0).2 h
    omega
/-- The table of the lengths of all bytes. -/
def isLen8 (s : ByteArray) : Bool := (List.range 256).all fun n => s[n]? == some (UInt8.ofNat (blen n))
theorem len8 {s : ByteArray} (h : isLen8 s = true) {i : Int} (h0 : 0 ≤ i) (h1 : i ≤ 255) : s[i.toNat]? = some (UInt8.ofNat (blen i.toNat)) := by
  simp only [isLen8, List.all_eq_true, List.mem_range, beq_iff_eq] at h
  exact h _ (by omega)
theorem len8_val {i : Int} (h0 : 0 ≤ i) (h1 : i ≤ 255) : ((UInt8.ofNat (blen i.toNat)).toNat : Int) = blen i.toNat := by
  have : blen i.toNat ≤ 8 := blen_le 8 (by omega)
  simp
  omega
theorem Ok1.len8 {X : Cx} {σ : Env} {L : Lst} {ty t : TypeId} {pos : String} {af : Array Edge} {d : Option Nat} {g : Option (Nat × Bool)} {x y : Operand} {r : TRow} {i : Int} {k : IntKind} {s : ByteArray}
    (ht : X.tb.row t = some r) (hk : r.k = .string) (hx : ev σ x = some (.string s)) (hy : ev σ y = some (.int k i)) (h0 : 0 ≤ i) (h1 : i ≤ 255) (hs : isLen8 s = true) : Ok1 X ⟨d, .index t x y, ty, pos, af, g⟩ σ L (.int .u8 ((min (blen i.toNat) 8 : Nat) : Int)) := by
  have hb : blen i.toNat ≤ 8 := blen_le 8 (by omega)
  rw [Nat.min_eq_left hb]
  have := Ok1.indexStr (X := X) (L := L) (ty := ty) (pos := pos) (af := af) (d := d) (g := g) ht hk hx hy h0 (Ytligpachgcmkcaa.len8 hs h0 h1)
  rwa [len8_val h0 h1] at this
end Go.Proofs.Ytligpachgcmkcaa
/- Slices of rows that are only read; a slice of one's own with rows of one kind. -/
set_option linter.unusedSimpArgs false
set_option linter.unusedVariables false
set_option linter.unusedSectionVars false
namespace Go.Proofs.Ytligpachgcmkcaa
open Go.RowKit Go.Shelf

def fl {α : Type} (v : α → List Value) (rs : List α) : List Value := (rs.map v).flatten
section
variable {α : Type} {v : α → List Value} {sz : Nat} {rs : List α}
theorem fl_len (hv : ∀ a, (v a).length = sz) (rs : List α) : (fl v rs).length = rs.length * sz := by
  induction rs with
  | nil => simp [fl]
  | cons a rs ih => simp only [fl, List.map_cons, List.flatten_cons, List.length_append, List.length_cons] at ih ⊢; rw [hv, ih, Nat.add_mul]; omega
theorem fl_get (hv : ∀ a, (v a).length = sz) : ∀ {rs : List α} {i : Nat} {a : α} {k : Nat}, rs[i]? = some a → k < sz → (fl v rs)[i * sz + k]? = (v a)[k]?
  | [], i, a, k, h, _ => by simp at h
  | b :: rs, 0, a, k, h, hk => by
    simp only [List.getElem?_cons_zero, Option.some.injEq] at h
    subst h
    simp only [fl, List.map_cons, List.flatten_cons, Nat.zero_mul, Nat.zero_add]
    exact List.getElem?_append_left (by rw [hv]; exact hk)
  | b :: rs, i + 1, a, k, h, hk => by
    simp only [List.getElem?_cons_succ] at h
    have := fl_get hv h hk
    simp only [fl, List.map_cons, List.flatten_cons] at this ⊢
    rw [List.getElem?_append_right (by rw [hv, Nat.add_mul]; omega), hv, ← this]
    congr 1
    rw [Nat.add_mul]; omega
theorem fl_snoc (a : α) : fl v (rs ++ [a]) = fl v rs ++ v a := by simp [fl]
theorem fl_take {i : Nat} {a : α} (h : rs[i]? = some a) : fl v (rs.take (i + 1)) = fl v (rs.take i) ++ v a := by
  rw [List.take_add_one, h, Option.toList_some, fl_snoc]
theorem fl_take0 : fl v (rs.take 0) = [] := by simp [fl]
theorem fl_append (l m : List α) : fl v (l ++ m) = fl v l ++ fl v m := by simp [fl]
end

/-- In world w the slice with this base holds the rows rs (one of none has any base). -/
def RdSl {α : Type} (w : World) (p : Option Addr) (v : α → List Value) (rs : List α) : Prop :=
  rs = [] ∨ ∃ b o, p = some ⟨b, o, none⟩ ∧ ∀ k, k < (fl v rs).length → w.cell? ⟨b, o + k, none⟩ = (fl v rs)[k]?
/-- Its block is none of these. -/
def Off (p : Option Addr) (S : List Nat) : Prop := ∀ a, p = some a → a.block ∉ S
theorem RdSl.at {α : Type} {w : World} {p : Option Addr} {v : α → List Value} {rs : List α} (h : RdSl w p v rs) {i : Nat} {a : α} (hi : rs[i]? = some a) :
    ∃ b o, p = some ⟨b, o, none⟩ ∧ ∀ sz, (∀ a, (v a).length = sz) → ∀ k, k < sz → w.cell? ⟨b, o + (i * sz + k), none⟩ = (v a)[k]? := by
  rcases h with rfl | ⟨b, o, hp, h⟩
  · simp at hi
  · refine ⟨b, o, hp, fun sz hv k hk => ?_⟩
    rw [h _ (by
      rw [fl_len hv]
      have := (List.getElem?_eq_some_iff.1 hi).1
      have := Nat.mul_le_mul_right sz this
      rw [Nat.succ_mul] at this
      omega), fl_get hv hi hk]

section
variable {X : Cx} {σ : Env} {L : Lst} {ty t e : TypeId} {pos : String} {af : Array Edge} {d : Option Nat} {g : Option (Nat × Bool)} {x y : Operand} {r re : TRow} {i : Int} {k : IntKind}
/-- An element's address, of a slice whose base is known by name. -/
theorem Ok1.indexAddrP {p : Option Addr} {b o n cap : Nat} (ht : X.tb.row t = some r) (hk : r.k = .slice e) (he : X.tb.row e = some re) (hx : ev σ x = some (.slice p n cap)) (hp : p = some ⟨b, o, none⟩) (hy : ev σ y = some (.int k i)) (h0 : 0 ≤ i) (h1 : i < n) :
    Ok1 X ⟨d, .indexAddr t x y, ty, pos, af, g⟩ σ L (.pointer (some ⟨b, o + i.toNat * re.size, none⟩)) := by
  subst hp; exact Ok1.indexAddr ht hk he hx hy h0 h1
/-- A row's one part, and a row (or a part of many cells). H: what the cells of the row hold. -/
theorem Ld.row1 {b o j sz f n : Nat} {vs : List Value} {v : Value} (H : ∀ k, k < n → X.w0.cell? ⟨b, o + (j * sz + k), none⟩ = vs[k]?) (hl : vs.length = n) (hS : b ∉ X.S) (ht : X.tb.row t = some r) (hk : r.k.agg = some false) (hf : vs[f]? = some v) : Ld X L t ⟨b, o + j * sz + f, none⟩ v :=
  .old1 ht hk (by rw [Nat.add_assoc, H f (hl ▸ (List.getElem?_eq_some_iff.1 hf).1)]; exact hf) hS
theorem Ld.row0 {b o j sz n : Nat} {vs : List Value} {v : Value} (H : ∀ k, k < n → X.w0.cell? ⟨b, o + (j * sz + k), none⟩ = vs[k]?) (hl : vs.length = n) (hS : b ∉ X.S) (ht : X.tb.row t = some r) (hk : r.k.agg = some false) (hf : vs[0]? = some v) : Ld X L t ⟨b, o + j * sz, none⟩ v :=
  .row1 (f := 0) H hl hS ht hk hf
theorem Ld.rowk {b o j sz f n : Nat} {vs us : List Value} (H : ∀ k, k < n → X.w0.cell? ⟨b, o + (j * sz + k), none⟩ = vs[k]?) (hl : vs.length = n) (hS : b ∉ X.S) (ht : X.tb.row t = some r) (hk : r.k.agg = some true) (hf : subE vs f r.size = some us) : Ld X L t ⟨b, o + j * sz + f, none⟩ (.agg ⟨us⟩) := by
  obtain ⟨h1, h2⟩ := subE_spec hf
  refine .oldk ht hk h1 (fun i hi => ?_) hS
  have h3 := h2 i hi
  have hlt : f + i < n := by
    rcases Nat.lt_or_ge (f + i) vs.length with h | h
    · omega
    · rw [List.getElem?_eq_none h, List.getElem?_eq_getElem (by omega)] at h3; cases h3
  rw [show o + j * sz + f + i = o + (j * sz + (f + i)) by omega, H _ hlt, h3]
theorem Ld.rowk0 {b o j sz n : Nat} {vs us : List Value} (H : ∀ k, k < n → X.w0.cell? ⟨b, o + (j * sz + k), none⟩ = vs[k]?) (hl : vs.length = n) (hS : b ∉ X.S) (ht : X.tb.row t = some r) (hk : r.k.agg = some true) (hf : subE vs 0 r.size = some us) : Ld X L t ⟨b, o + j * sz, none⟩ (.agg ⟨us⟩) :=
  .rowk (f := 0) H hl hS ht hk hf
end
/-- append of the first elements of an own block to an own slice. -/
theorem R.append1 {X : Cx} {σ : Env} {L L1 : Lst} {dd b2 m cap2 n : Nat} {ty t t2 e e2 : TypeId} {pos : String} {af : Array Edge} {x y : Operand} {r r2 re : TRow} {all : Array Oper} {rest : List Oper} {K : Env → Lst → Prop} {s : Value} {old news zc cs : List Value} {te : TypeId} {fz : Nat × Nat}
    (hn : Nat.blt dd X.n = true) (ht : X.tb.row t = some r) (hk : r.k = .slice e) (he : X.tb.row e = some re) (hz : cellsE re.zero = some zc) (hzl : zc.length = re.size) (ht2 : X.tb.row t2 = some r2) (hk2 : r2.k = .slice e2) (hb1 : Nat.ble 1 re.bytes = true) (hb2 : Nat.ble re.bytes 65536 = true)
    (hx : ev σ x = some s) (hy : ev σ y = some (.slice (some ⟨b2, 0, none⟩) m cap2)) (ho : OwnAt e re.size L s n old L1) (hat : At L b2 (.cells ⟨cs⟩ te fz)) (hsub : subE cs 0 (m * re.size) = some news)
    (h1 : news.all Value.oneCell' = true) (hm : 1 ≤ m) (hbig : n + m ≤ 1073741824)
    (h : ∀ b' j' junk', junk'.length = j' * re.size → R X all rest K ((dd, .slice (some ⟨b', 0, none⟩) (n + m) (n + m + j')) :: σ) ((b', .cells ⟨old ++ news ++ junk'⟩ e (0, 0)) :: L1)) :
    R X all (⟨some dd, .call { callee := .builtin .append, args := #[x, y], argTypes := #[t, t2] }, ty, pos, af, none⟩ :: rest) K σ L := by
  have hl := (subE_spec hsub).1
  refine R.append hn ht hk he hz hzl ht2 hk2 hb1 hx hy rfl ho (fun w hw => Holds.own hat (hl ▸ hsub) hw) hl h1 hm ?_ h
  have h3 := Nat.le_of_ble_eq_true hb2
  have := Nat.mul_le_mul (show 2 * (n + m) + 768 ≤ 2147484416 by omega) h3
  omega
/-- An own slice's rows, seen by one who is called. -/
theorem RdSl.own {α : Type} {v : α → List Value} {e sz : Nat} {ov : Ov} {rs : List α} {w0 w : World} {S : List Nat} {L : Lst} (hw : Hp w0 S L w) (hb : ∀ x ∈ blkL e ov (fl v rs), x ∈ L) (hok : OvOk sz ov rs.length (fl v rs)) (hv : ∀ a, (v a).length = sz) :
    RdSl w (match ov with | none => none | some (b, _, _) => some ⟨b, 0, none⟩) v rs := by
  cases ov with
  | none =>
    left
    have := hok.2
    simpa using this
  | some q =>
    obtain ⟨b, j, junk⟩ := q
    right
    refine ⟨b, 0, rfl, fun k hk => ?_⟩
    have := hw.get b (.cells ⟨fl v rs ++ junk⟩ e (0, 0)) (hb _ (by simp [blkL]))
    simp only [World.cell?, this]
    simp [hk, List.getElem?_append_left]
section
variable {X : Cx} {σ : Env} {L C : Lst} {all : Array Oper} {rest : List Oper} {K : Env → Lst → Prop} {op : Op} {type : TypeId} {pos : String} {after : Array Edge} {j dj : Nat} {want : Bool}
theorem Mod.unyielded {n : Nat} {a : Act} (ha : Mod n a σ) (hj : (all[j]?).bind (·.dst) = some dj) (hb : look σ dj = some undef) : Go.yielded all a.tmps j = none := by
  have := ha.ok dj undef hb
  simp only [Array.getD] at this
  by_cases hlt : dj < a.tmps.size
  · rw [dif_pos hlt] at this
    have h2 : a.tmps[dj]? = some undef := by rw [Array.getElem?_eq_getElem hlt]; exact congrArg some this
    simp [Go.yielded, hj, h2, undef]
  · have h2 : a.tmps[dj]? = none := Array.getElem?_eq_none (by omega)
    simp [Go.yielded, hj, h2]
/-- An operation whose guard was itself passed by. -/
theorem R.guard_un {dst : Nat} (hj : (all[j]?).bind (·.dst) = some dj) (hb : look σ dj = some undef) (hn : Nat.blt dst X.n = true) (h1 : R X all rest K ((dst, undef) :: σ) L) :
    R X all ({ dst := some dst, op := op, type := type, pos := pos, after := after, guard := some (j, want) } :: rest) K σ L :=
  ⟨fun a w ha hw => by
    have hy := ha.unyielded hj hb
    unfold wpList
    have hw' : Region.wanted { dst := some dst, op := op, type := type, pos := pos, after := after, guard := some (j, want) } (yielded all a.tmps) = false := by simp only [Region.wanted, hy]; rfl
    rw [hw']
    exact h1.run _ _ (ha.put (blt_lt hn) undef) hw⟩
theorem R.guard_un0 (hj : (all[j]?).bind (·.dst) = some dj) (hb : look σ dj = some undef) (h1 : R X all rest K σ L) :
    R X all ({ dst := none, op := op, type := type, pos := pos, after := after, guard := some (j, want) } :: rest) K σ L :=
  ⟨fun a w ha hw => by
    have hy := ha.unyielded hj hb
    unfold wpList
    have hw' : Region.wanted { dst := none, op := op, type := type, pos := pos, after := after, guard := some (j, want) } (yielded all a.tmps) = false := by simp only [Region.wanted, hy]; rfl
    rw [hw']
    exact h1.run _ _ ha hw⟩
theorem A.skipU (i : Nat) {d fuel : Nat} {listed : Array Bool} (hi : all[i]? = some ⟨some d, op, type, pos, after, some (j, want)⟩) (hn : Nat.blt d X.n = true) (hs : Region.noSelect all = true) (hf : Region.free .any all listed i = true) (hr : (Region.ready .any all listed).contains i = true)
    (hj : (all[j]?).bind (·.dst) = some dj) (hb : look σ dj = some undef)
    (h : A X all C fuel (listed.setIfInBounds i true) K ((d, undef) :: σ) L) : A X all C (fuel + 1) listed K σ L :=
  ⟨fun a w ha hw hC => wpAnyC_take (v := undef) hi hs hf hr (fun c a w => Cx.liftK_panic c _ _ w) (.inr ⟨by simp only [Region.wanted, ha.unyielded hj hb]; rfl, rfl⟩) hC (h.run _ _ (ha.put (blt_lt hn) undef) hw hC)⟩
end
end Go.Proofs.Ytligpachgcmkcaa
/- Lists of known blocks with parts that are not spelt out: where a block or a part lies in them, what is kept, loops and calls over them. -/
set_option linter.unusedSimpArgs false
set_option linter.unusedVariables false
set_option linter.unusedSectionVars false
namespace Go.Proofs.Ytligpachgcmkcaa
open Go.RowKit Go.Shelf

theorem At.right {A B : Lst} {b : Nat} {o : Obj} (h : At B b o) : At (A ++ B) b o := by
  induction A with
  | nil => exact h
  | cons x A ih => exact .tail ih
theorem At.left {A B : Lst} {b : Nat} {o : Obj} (h : At A b o) : At (A ++ B) b o := by
  induction h with
  | head => exact .head
  | tail _ ih => exact .tail ih
theorem Upd.right {A B B' : Lst} {b : Nat} {o o' : Obj} (h : Upd B b o o' B') : Upd (A ++ B) b o o' (A ++ B') := by
  induction A with
  | nil => exact h
  | cons x A ih => exact .tail ih
theorem Del.right {A B B' : Lst} {b : Nat} {o : Obj} (h : Del B b o B') : Del (A ++ B) b o (A ++ B') := by
  induction A with
  | nil => exact h
  | cons x A ih => exact .tail ih
theorem OwnAt.right {e sz n : Nat} {A L L1 : Lst} {v : Value} {xs : List Value} (h : OwnAt e sz L v n xs L1) : OwnAt e sz (A ++ L) v n xs (A ++ L1) := by
  cases h with
  | nil => exact .nil _
  | blk h1 h2 h3 => exact .blk h1.right h2 h3
theorem OwnAt.mid {e sz n : Nat} {ov : Ov} {xs : List Value} {B : Lst} (h : OvOk sz ov n xs) : OwnAt e sz (blkL e ov xs ++ B) (slV ov n) n xs B := by
  obtain ⟨h1, h2⟩ := h
  cases ov with
  | none =>
    subst h2
    have : xs = [] := by cases xs; rfl; simp at h1
    subst this
    exact .nil B
  | some q => obtain ⟨b, j, junk⟩ := q; exact .blk .head h1 h2

theorem Ok1.lenMm {X : Cx} {σ : Env} {L : Lst} {t kt et : TypeId} {r : TRow} {κ α : Type} {kv : κ → Value} {vv : α → Value} {ms : Ms κ α} {clk b : Nat} {x : Operand} {ty : TypeId} {pos : String} {af : Array Edge} {d : Option Nat} {g : Option (Nat × Bool)}
    (hkt : X.tb.row t = some r) (hk : r.k = .map kt et) (hx : ev σ x = some (.map (some b))) (hat : At L b (mobj kv vv ms clk)) : Ok1 X ⟨d, .call { callee := .builtin .len, args := #[x], argTypes := #[t] }, ty, pos, af, g⟩ σ L (.int .i64 ms.length) := by
  classical exact Ok1.lenM hkt hk hx hat
/-- The part seg lies in L; the rest is L1. -/
inductive Ext : Lst → Lst → Lst → Prop where
  | none (L : Lst) : Ext L [] L
  | all (L : Lst) : Ext L L []
  | here (A B : Lst) : Ext (A ++ B) A B
  | one (x : Nat × Obj) (L : Lst) : Ext (x :: L) [x] L
  | cons (x : Nat × Obj) {L s L1 : Lst} : Ext L s L1 → Ext (x :: L) s (x :: L1)
  | app (A : Lst) {L s L1 : Lst} : Ext L s L1 → Ext (A ++ L) s (A ++ L1)
  | two (x : Nat × Obj) {L L1 s L2 : Lst} : Ext L [x] L1 → Ext L1 s L2 → Ext L (x :: s) L2
theorem Ext.perm {L s L1 : Lst} (h : Ext L s L1) : (s ++ L1).Perm L := by
  induction h with
  | none L => exact .refl _
  | all L => simp
  | here A B => exact .refl _
  | one x L => exact .refl _
  | cons x _ ih => exact List.perm_middle.trans (ih.cons x)
  | @app A L s L1 _ ih =>
    have h1 : (s ++ (A ++ L1)).Perm (A ++ (s ++ L1)) := by
      rw [← List.append_assoc, ← List.append_assoc]
      exact List.perm_append_comm.append_right L1
    exact h1.trans (ih.append_left A)
  | two x _ _ ih1 ih2 => exact (ih2.cons x).trans ih1
/-- Of L, L' is kept. -/
inductive Keep : Lst → Lst → Prop where
  | nil (L : Lst) : Keep L []
  | last {L s L1 : Lst} : Ext L s L1 → Keep L s
  | cons {x : Nat × Obj} {L L1 R : Lst} : Ext L [x] L1 → Keep L1 R → Keep L (x :: R)
  | app {L s L1 R : Lst} : Ext L s L1 → Keep L1 R → Keep L (s ++ R)
theorem Keep.perm {L L' : Lst} (h : Keep L L') : ∃ r, (L' ++ r).Perm L := by
  induction h with
  | nil L => exact ⟨L, .refl _⟩
  | last h => exact ⟨_, h.perm⟩
  | cons h _ ih => obtain ⟨r, hr⟩ := ih; exact ⟨r, (hr.cons _).trans h.perm⟩
  | app h _ ih => obtain ⟨r, hr⟩ := ih; exact ⟨r, by rw [List.append_assoc]; exact (hr.append_left _).trans h.perm⟩
theorem Hp.keep {w0 w : World} {S : List Nat} {L L' : Lst} (h : Hp w0 S L w) (hk : Keep L L') : Hp w0 S L' w := by
  obtain ⟨r, hr⟩ := hk.perm
  exact (h.perm hr).sub (List.sublist_append_left _ _)

section
variable {X : Cx} {σ : Env} {L Li Lr : Lst} {Q : Post} {c x y : Code}
theorem T.weakK {σ' : Env} {L' : Lst} (h : T X c Q σ' L') (hk : Keep L L') (hs : Sub σ' σ) : T X c Q σ L := ⟨fun a w ha hw => h.run a w (ha.sub hs) (hw.keep hk)⟩
theorem T.loopK {α : Type} (I : α → Prop) (σi : α → Env) (Li : α → Lst) (μ : α → Nat) (i0 : α) (h0 : I i0) (hs : Sub (σi i0) σ) (hL : Keep L (Li i0))
    (hr : ∀ i, I i → T X c (thenQ (fun σ L => ∃ j, I j ∧ μ j < μ i ∧ Sub (σi j) σ ∧ Keep L (Li j)) Q) (σi i) (Li i)) : T X (.loop c) Q σ L := by
  refine ⟨fun a w ha hw => ?_⟩
  have key : ∀ m i, I i → μ i < m → ∀ a w, Mod X.n a (σi i) → Hp X.w0 X.S (Li i) w → Code.rounds X.P c (X.lift Q) m a w := by
    intro m
    induction m with
    | zero => intro i _ h; omega
    | succ m ih =>
      intro i hi hm a w ha hw
      rw [rounds_succ]
      refine wp_mono ((hr i hi).run a w ha hw) fun e a w ⟨σ, L, h1, h2, h3⟩ => ?_
      cases e with
      | normal =>
        obtain ⟨j, h4, h5, h6, h7⟩ := h3
        exact ih j h4 (by omega) a w (h1.sub h6) (h2.keep h7)
      | _ => exact ⟨σ, L, h1, h2, h3⟩
  exact wp_loop_rounds (μ i0 + 1) (key _ i0 h0 (by omega) a w (ha.sub hs) (hw.keep hL))
theorem T.meetK {α : Type} (I : α → Prop) (σi : α → Env) (Li : α → Lst)
    (h : T X x (thenQ (fun σ L => ∃ j, I j ∧ Sub (σi j) σ ∧ Keep L (Li j)) Q) σ L) (hk : ∀ i, I i → T X y Q (σi i) (Li i)) : T X (.seq x y) Q σ L :=
  T.seq (h.mono fun e σ L hq => by
    cases e with
    | normal =>
      obtain ⟨j, h1, h2, h3⟩ := hq
      exact T.weakK (hk j h1) h3 h2
    | _ => exact hq)
end
section
variable {X : Cx} {σ : Env} {L Li Lr : Lst} {dd : Nat} {ty : TypeId} {pos : String} {af : Array Edge} {f : FuncId} {ats : Array TypeId}
variable {all : Array Oper} {rest : List Oper} {K : Env → Lst → Prop} {xs : List Operand} {vs : List Value}
theorem R.callE {R1 : Value → Lst → Prop} (he : X.tb.fns.contains f = true) (hx : evs σ xs = some vs) (hn : Nat.blt dd X.n = true) (hp : Ext L Li Lr) (hc : ∀ w, Hp X.w0 X.S L w → CallM X.P f vs Li w R1) (h : ∀ v Lo, R1 v Lo → R X all rest K ((dd, v) :: σ) (Lo ++ Lr)) :
    R X all (⟨some dd, .call { callee := .value (.func f), args := xs.toArray, argTypes := ats }, ty, pos, af, none⟩ :: rest) K σ L :=
  R.call (α := Value × Lst) (v := fun v => v.1) (L' := fun v => v.2 ++ Lr) (I := fun v => R1 v.1 v.2) he hx hn (fun w hw => by
    have hw2 := hw.perm hp.perm
    have hin : Hp w (blks Li) Li w := ⟨.refl _ _, fun b o hm => hw2.get b o (List.mem_append_left _ hm), (List.nodup_append.1 (by have := hw2.nod; rwa [List.map_append] at this)).1, fun b o hm => .inr (List.mem_map.2 ⟨(b, o), hm, rfl⟩)⟩
    exact ((hc w hw).run hin).mono fun e w' ⟨v, Lo, h1, h2, h3⟩ => ⟨(v, Lo), h1, hw2.callM h3, h2⟩) fun v hv => h v.1 v.2 hv
theorem Ext.mem {L s L1 : Lst} (h : Ext L s L1) : ∀ x ∈ s, x ∈ L := fun x hx => h.perm.subset (List.mem_append_left _ hx)
/-- What is read by one who is called lies in none of the blocks that he may write. -/
theorem RdSl.off {w0 w : World} {S : List Nat} {L Li Lr : Lst} (hw : Hp w0 S L w) (he : Ext L Li Lr) {b : Nat} {o : Obj} (hm : (b, o) ∈ Lr) : b ∉ blks Li := by
  have h2 := (hw.perm he.perm).nod
  rw [List.map_append, List.nodup_append] at h2
  intro hb
  exact h2.2.2 b hb b (List.mem_map.2 ⟨(b, o), hm, rfl⟩) rfl
theorem enterK {P : Program} (tb : Tb P) {f : FuncId} {fn : Func} {c : Code} {vs : List Value} {n : Nat} {R1 : Value → Lst → Prop} {w : World} {L : Lst}
    (hf : P.funcs[f]? = some fn) (hb : fn.body = some c) (hn : fn.ntmps = n) (hvn : Nat.ble vs.length n = true)
    (h : T ⟨P, tb, n, w, blks L⟩ c (retQ ⟨P, tb, n, w, blks L⟩ fn.results.toList fun v Lo => ∃ L', Keep Lo L' ∧ R1 v L') (number 0 vs) L) : CallM P f vs L w R1 :=
  ⟨fun hw => (enter hf hb hn (Nat.le_of_ble_eq_true hvn) hw h).mono fun e w' ⟨v, Lo, h1, ⟨L', h2, h3⟩, h4⟩ => ⟨v, L', h1, h3, h4.keep h2⟩⟩
end
end Go.Proofs.Ytligpachgcmkcaa
