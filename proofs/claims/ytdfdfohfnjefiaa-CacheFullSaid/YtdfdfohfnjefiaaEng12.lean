/- Numbers within range: conversions, quotients, remainders; the length of a number in bits. -/
import Derived.Test.YtdfdfohfnjefiaaEng11
set_option linter.unusedSimpArgs false
set_option linter.unusedVariables false
set_option linter.unusedSectionVars false
namespace Go.Proofs.Ytdfdfohfnjefiaa
open Go.RowKit Go.Shelf

section
variable {X : Cx} {σ : Env} {L : Lst} {ty ty2 t src dst : TypeId} {pos : String} {af : Array Edge} {d : Option Nat} {g : Option (Nat × Bool)} {x y : Operand} {rs rd : TRow} {i j : Int} {k : IntKind}
theorem Ok1.convI64 (hd : X.tb.row dst = some rd) (hk : rd.k = .int .i64) (hs : X.tb.row src = some rs) (hk2 : rs.k = .int k) (hx : ev σ x = some (.int k i)) (h1 : -9223372036854775808 ≤ i) (h2 : i ≤ 9223372036854775807) : Ok1 X ⟨d, .convert src dst x, ty, pos, af, g⟩ σ L (.int .i64 i) := by
  have := Ok1.conv (L := L) (ty := ty) (pos := pos) (af := af) (d := d) (g := g) hd hk hs hk2 hx
  rwa [IntWalk.i64_in i ⟨h1, h2⟩] at this
theorem Ok1.convU64 (hd : X.tb.row dst = some rd) (hk : rd.k = .int .u64) (hs : X.tb.row src = some rs) (hk2 : rs.k = .int k) (hx : ev σ x = some (.int k i)) (h1 : 0 ≤ i) (h2 : i ≤ 18446744073709551615) : Ok1 X ⟨d, .convert src dst x, ty, pos, af, g⟩ σ L (.int .u64 i) := by
  have := Ok1.conv (L := L) (ty := ty) (pos := pos) (af := af) (d := d) (g := g) hd hk hs hk2 hx
  rwa [IntWalk.u64_in i ⟨h1, h2⟩] at this
theorem Ok1.convU32 (hd : X.tb.row dst = some rd) (hk : rd.k = .int .u32) (hs : X.tb.row src = some rs) (hk2 : rs.k = .int k) (hx : ev σ x = some (.int k i)) (h1 : 0 ≤ i) (h2 : i ≤ 4294967295) : Ok1 X ⟨d, .convert src dst x, ty, pos, af, g⟩ σ L (.int .u32 i) := by
  have := Ok1.conv (L := L) (ty := ty) (pos := pos) (af := af) (d := d) (g := g) hd hk hs hk2 hx
  rwa [IntWalk.u32_in i ⟨h1, h2⟩] at this
theorem Ok1.convU8 (hd : X.tb.row dst = some rd) (hk : rd.k = .int .u8) (hs : X.tb.row src = some rs) (hk2 : rs.k = .int k) (hx : ev σ x = some (.int k i)) (h1 : 0 ≤ i) (h2 : i ≤ 255) : Ok1 X ⟨d, .convert src dst x, ty, pos, af, g⟩ σ L (.int .u8 i) := by
  have := Ok1.conv (L := L) (ty := ty) (pos := pos) (af := af) (d := d) (g := g) hd hk hs hk2 hx
  rwa [IntWalk.u8_in i ⟨h1, h2⟩] at this
theorem Ok1.quo64 (hx : ev σ x = some (.int .i64 i)) (hy : ev σ y = some (.int .i64 j)) (h0 : 0 ≤ i) (h1 : 0 < j) (h2 : i ≤ 9223372036854775807) : Ok1 X ⟨d, .binOp .quo t x y ty2, ty, pos, af, g⟩ σ L (.int .i64 (i / j)) := by
  have := Ok1.quo (X := X) (L := L) (ty := ty) (ty2 := ty2) (t := t) (pos := pos) (af := af) (d := d) (g := g) hx hy (by omega)
  rw [Int.tdiv_eq_ediv_of_nonneg h0] at this
  have h3 := Int.ediv_le_self j h0
  have h4 := Int.ediv_nonneg h0 (Int.le_of_lt h1)
  rwa [IntWalk.i64_in (i / j) ⟨by omega, by omega⟩] at this
theorem Ok1.remN (hx : ev σ x = some (.int k i)) (hy : ev σ y = some (.int k j)) (h0 : 0 ≤ i) (h1 : 0 < j) : Ok1 X ⟨d, .binOp .rem t x y ty2, ty, pos, af, g⟩ σ L (.int k (i % j)) := by
  have := Ok1.rem (X := X) (L := L) (ty := ty) (ty2 := ty2) (t := t) (pos := pos) (af := af) (d := d) (g := g) hx hy (by omega)
  rwa [Int.tmod_eq_emod_of_nonneg h0] at this
theorem pwE1 : pw (Int.toNat 1) = 2 := rfl
theorem pwE2 : pw (Int.toNat 2) = 4 := rfl
theorem pwE3 : pw (Int.toNat 3) = 8 := rfl
theorem pwE4 : pw (Int.toNat 4) = 16 := rfl
theorem pwE5 : pw (Int.toNat 5) = 32 := rfl
theorem pwE6 : pw (Int.toNat 6) = 64 := rfl
theorem pwE7 : pw (Int.toNat 7) = 128 := rfl
theorem pwE8 : pw (Int.toNat 8) = 256 := rfl
theorem pwE16 : pw (Int.toNat 16) = 65536 := rfl
theorem pwE24 : pw (Int.toNat 24) = 16777216 := rfl
theorem pwE32 : pw (Int.toNat 32) = 4294967296 := rfl
end

def blen (x : Nat) : Nat := if x = 0 then 0 else Nat.log2 x + 1
theorem blen_half {x : Nat} (h : x ≠ 0) : blen x = blen (x / 2) + 1 := by
  unfold blen
  rw [if_neg h, Nat.log2_def]
  by_cases h2 : 2 ≤ x
  · rw [if_pos h2, if_neg (by omega)]
  · rw [if_neg h2, if_pos (by omega)]
theorem blen_div (k : Nat) : ∀ {x : Nat}, 2 ^ k ≤ x → blen x = blen (x / 2 ^ k) + k := by
  induction k with
  | zero => intro x _; simp
  | succ k ih =>
    intro x h
    have h2 : 2 ^ k ≤ x / 2 := by rw [Nat.pow_succ] at h; omega
    have h3 : 0 < 2 ^ k := Nat.two_pow_pos k
    rw [blen_half (by omega), ih h2, Nat.div_div_eq_div_mul, Nat.pow_succ, Nat.mul_comm 2 (2 ^ k)]
    omega
theorem blen8 {x : Nat} (h : 256 ≤ x) : blen x = blen (x / 256) + 8 := blen_div 8 h
theorem blen16 {x : Nat} (h : 65536 ≤ x) : blen x = blen (x / 65536) + 16 := blen_div 16 h
theorem blen32 {x : Nat} (h : 4294967296 ≤ x) : blen x = blen (x / 4294967296) + 32 := blen_div 32 h
theorem blen_le {x : Nat} (k : Nat) (h : x < 2 ^ k) : blen x ≤ k := by
  unfold blen
  split
  · omega
  · rename_i h0
    have := (Nat.log2_lt h0).2 h
    omega
/-- The table of the lengths of all bytes. -/
def isLen8 (s : ByteArray) : Bool := (List.range 256).all fun n => s[n]? == some (UInt8.ofNat (blen n))
theorem len8 {s : ByteArray} (h : isLen8 s = true) {i : Int} (h0 : 0 ≤ i) (h1 : i ≤ 255) : s[i.toNat]? = some (UInt8.ofNat (blen i.toNat)) := by
  simp only [isLen8, List.all_eq_true, List.mem_range, beq_iff_eq] at h
  exact h _ (by omega)
theorem len8_val {i : Int} (h0 : 0 ≤ i) (h1 : i ≤ 255) : ((UInt8.ofNat (blen i.toNat)).toNat : Int) = blen i.toNat := by
  have : blen i.toNat ≤ 8 := blen_le 8 (by omega)
  simp
  omega
theorem Ok1.len8 {X : Cx} {σ : Env} {L : Lst} {ty t : TypeId} {pos : String} {af : Array Edge} {d : Option Nat} {g : Option (Nat × Bool)} {x y : Operand} {r : TRow} {i : Int} {k : IntKind} {s : ByteArray}
    (ht : X.tb.row t = some r) (hk : r.k = .string) (hx : ev σ x = some (.string s)) (hy : ev σ y = some (.int k i)) (h0 : 0 ≤ i) (h1 : i ≤ 255) (hs : isLen8 s = true) : Ok1 X ⟨d, .index t x y, ty, pos, af, g⟩ σ L (.int .u8 ((min (blen i.toNat) 8 : Nat) : Int)) := by
  have hb : blen i.toNat ≤ 8 := blen_le 8 (by omega)
  rw [Nat.min_eq_left hb]
  have := Ok1.indexStr (X := X) (L := L) (ty := ty) (pos := pos) (af := af) (d := d) (g := g) ht hk hx hy h0 (Ytdfdfohfnjefiaa.len8 hs h0 h1)
  rwa [len8_val h0 h1] at this
end Go.Proofs.Ytdfdfohfnjefiaa
