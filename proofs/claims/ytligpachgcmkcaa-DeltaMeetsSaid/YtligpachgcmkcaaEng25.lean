/- Rules for words: bits, shifts, sums that wrap round. -/
import Derived.Test.YtligpachgcmkcaaEng19
set_option linter.unusedSimpArgs false
set_option linter.unusedVariables false
namespace Go.Proofs.Ytligpachgcmkcaa
open Go.RowKit Go.Shelf

def andI (k : IntKind) (x y : Int) : Int := k.wrap (BitVec.ofInt k.bits x &&& BitVec.ofInt k.bits y).toNat
def orI (k : IntKind) (x y : Int) : Int := k.wrap (BitVec.ofInt k.bits x ||| BitVec.ofInt k.bits y).toNat
def xorI (k : IntKind) (x y : Int) : Int := k.wrap (BitVec.ofInt k.bits x ^^^ BitVec.ofInt k.bits y).toNat
section
variable {X : Cx} {σ : Env} {L : Lst} {d : Option Nat} {ty ty2 t : TypeId} {pos : String} {af : Array Edge} {g : Option (Nat × Bool)} {x y : Operand} {i j : Int} {k : IntKind}
theorem Ok1.andK (hx : ev σ x = some (.int k i)) (hy : ev σ y = some (.int k j)) : Ok1 X ⟨d, .binOp .and t x y ty2, ty, pos, af, g⟩ σ L (.int k (andI k i j)) := .mk fun a w ha hw => by
  simp [execOp, ha.ev hx, ha.ev hy, eqGuard, binOp, Op.intBits, andI]
theorem Ok1.orK (hx : ev σ x = some (.int k i)) (hy : ev σ y = some (.int k j)) : Ok1 X ⟨d, .binOp .or t x y ty2, ty, pos, af, g⟩ σ L (.int k (orI k i j)) := .mk fun a w ha hw => by
  simp [execOp, ha.ev hx, ha.ev hy, eqGuard, binOp, Op.intBits, orI]
theorem Ok1.xorK (hx : ev σ x = some (.int k i)) (hy : ev σ y = some (.int k j)) : Ok1 X ⟨d, .binOp .xor t x y ty2, ty, pos, af, g⟩ σ L (.int k (xorI k i j)) := .mk fun a w ha hw => by
  simp [execOp, ha.ev hx, ha.ev hy, eqGuard, binOp, Op.intBits, xorI]
theorem Ok1.cplK (hx : ev σ x = some (.int k i)) (hs : k.signed = false) : Ok1 X ⟨d, .unOp .xor t x, ty, pos, af, g⟩ σ L (.int k (xorI k k.max i)) := .mk fun a w ha hw => by
  simp [execOp, ha.ev hx, Op.unary, Op.intBits, xorI, hs]
theorem Ok1.shl {k2 : IntKind} {m : Int} (hx : ev σ x = some (.int k i)) (hy : ev σ y = some (.int k2 j)) (h : 0 ≤ j) (h2 : j.toNat ≤ k.bits) (hm : pw j.toNat = m) : Ok1 X ⟨d, .binOp .shl t x y ty2, ty, pos, af, g⟩ σ L (.int k (k.wrap (i * m))) := .mk fun a w ha hw => by
  have : ¬ j < 0 := by omega
  rw [← hm, pw_eq]
  simp [execOp, ha.ev hx, ha.ev hy, eqGuard, binOp, Op.shift, this, Nat.min_eq_left h2]
theorem Ok1.add32 (hx : ev σ x = some (.int .u32 i)) (hy : ev σ y = some (.int .u32 j)) : Ok1 X ⟨d, .binOp .add t x y ty2, ty, pos, af, g⟩ σ L (.int .u32 (IntKind.u32.wrap (i + j))) := Ok1.add hx hy
theorem Ok1.mul32 (hx : ev σ x = some (.int .u32 i)) (hy : ev σ y = some (.int .u32 j)) : Ok1 X ⟨d, .binOp .mul t x y ty2, ty, pos, af, g⟩ σ L (.int .u32 (IntKind.u32.wrap (i * j))) := Ok1.mul hx hy
theorem wrap_u64 {i : Int} (h1 : 0 ≤ i) (h2 : i ≤ 18446744073709551615) : IntKind.u64.wrap i = i := IntWalk.u64_in i ⟨h1, h2⟩
theorem Ok1.addU (hx : ev σ x = some (.int .u64 i)) (hy : ev σ y = some (.int .u64 j)) (h1 : 0 ≤ i + j) (h2 : i + j ≤ 18446744073709551615) : Ok1 X ⟨d, .binOp .add t x y ty2, ty, pos, af, g⟩ σ L (.int .u64 (i + j)) := by
  have := Ok1.add (X := X) (σ := σ) (L := L) (d := d) (ty := ty) (pos := pos) (af := af) (g := g) (t := t) (ty2 := ty2) hx hy
  rwa [wrap_u64 h1 h2] at this
theorem Ok1.mulU (hx : ev σ x = some (.int .u64 i)) (hy : ev σ y = some (.int .u64 j)) (h1 : 0 ≤ i * j) (h2 : i * j ≤ 18446744073709551615) : Ok1 X ⟨d, .binOp .mul t x y ty2, ty, pos, af, g⟩ σ L (.int .u64 (i * j)) := by
  have := Ok1.mul (X := X) (σ := σ) (L := L) (d := d) (ty := ty) (pos := pos) (af := af) (g := g) (t := t) (ty2 := ty2) hx hy
  rwa [wrap_u64 h1 h2] at this
theorem Ok1.quoU (hx : ev σ x = some (.int .u64 i)) (hy : ev σ y = some (.int .u64 j)) (h0 : 0 ≤ i) (h1 : 0 < j) (h2 : i ≤ 18446744073709551615) : Ok1 X ⟨d, .binOp .quo t x y ty2, ty, pos, af, g⟩ σ L (.int .u64 (i / j)) := by
  have := Ok1.quo (X := X) (L := L) (ty := ty) (ty2 := ty2) (t := t) (pos := pos) (af := af) (d := d) (g := g) hx hy (by omega)
  rw [Int.tdiv_eq_ediv_of_nonneg h0] at this
  have h3 := Int.ediv_le_self j h0
  have h4 := Int.ediv_nonneg h0 (Int.le_of_lt h1)
  rwa [wrap_u64 h4 (by omega)] at this
theorem Ok1.andE {m : Int} (hx : ev σ x = some (.int k i)) (hy : ev σ y = some (.int k j)) (hm : andI k i j = m) : Ok1 X ⟨d, .binOp .and t x y ty2, ty, pos, af, g⟩ σ L (.int k m) := hm ▸ Ok1.andK hx hy
theorem Ok1.subU (hx : ev σ x = some (.int .u64 i)) (hy : ev σ y = some (.int .u64 j)) (h1 : 0 ≤ i - j) (h2 : i - j ≤ 18446744073709551615) : Ok1 X ⟨d, .binOp .sub t x y ty2, ty, pos, af, g⟩ σ L (.int .u64 (i - j)) := by
  have := Ok1.sub (X := X) (σ := σ) (L := L) (d := d) (ty := ty) (pos := pos) (af := af) (g := g) (t := t) (ty2 := ty2) hx hy
  rwa [wrap_u64 h1 h2] at this
end
end Go.Proofs.Ytligpachgcmkcaa
