/-
  No cell of these rows narrows 'for every input' (looked for: loops, veiled, ifaces, maps, wideKeys, modest, calm, conditions, laid).
  DERIVED. THE GIVEN ROWS OF THIS SEAT. 4 by the template 'for every input the law returns true; each argument reads behind the call as it read before'; 0 by the template 'total and deterministic' (their statements: YtiegdpmkgegbaaaTotals.lean).
  GIVEN WITH THE SEED: the statements are not yours to turn. If you find one false, say at which input.
  Laid BY PROGRAM, IN A SANDBOX (cutbox-rows.mjs): the forced cells as the released guide's own fill.sh prints them over the translation 8ec227f4da73c1df… (all of the seat's roots in one cut). By AI agents, Wed Nov 11 2026. No macro, syntax, notation, axiom, sorry.
-/
import Derived.Test.YtiegdpmkgegbaaaChecked
import GoSem.Claim
import GoSem.ClaimJoined
import GoSem.ClaimMapViews
import Derived.JoinedTies
import Derived.KernelRfl
namespace Go.Proofs.Ytiegdpmkgegbaaa
/- THE CELL 'sum', in the pinned program and in every row, IS THE sha256 OF THE DUMP (.gsa) THAT YtiegdpmkgegbaaaProg.lean LOADS. Nothing in Lean hashes anything: it is a label: what it is worth is what the hold of that sum in a sandbox is worth. -/
noncomputable def Try.pinned : Pinned := { name := "ytiegdpmkgegbaaa", sum := "8ec227f4da73c1df50cecd9b9680dfc56dd4a84caebdf0d1576bce733c933564", checked := Try.checked }
namespace Rows
def none {H : Type} : Left H := { results := [], args := [] }

/-- 'vigillaw07.KeysApart': WHATEVER THE INPUT: true; the input reads as it did. -/
def keysApartSpec : ChangeSpec := { name := "keysApart", fn := fun _ => fun
  | [d1, d2, d3, d4, d5] => { results := [.lit (.bool true)], args := [d1, d2, d3, d4, d5] }
  | _ => none }
def keysApartRow : OpenClaim := { program := "ytiegdpmkgegbaaa", sum := "8ec227f4da73c1df50cecd9b9680dfc56dd4a84caebdf0d1576bce733c933564", func := "vigil/vigillaw07.KeysApart", spec := "keysApart", unfollowed := true, recurses := true, plainKeys := false, apart := false }
def KeysApartSaid : Prop := keysApartRow.holds Try.pinned (OpenSpec.ofChange keysApartSpec)

/-- ITS FALSE NEIGHBOUR: 'it returns false'. Refute it at one input. -/
def keysApartWrong : ChangeSpec := { name := "keysApart", fn := fun _ => fun
  | [d1, d2, d3, d4, d5] => { results := [.lit (.bool false)], args := [d1, d2, d3, d4, d5] }
  | _ => none }
def KeysApartWrongFalsely : Prop := keysApartRow.holds Try.pinned (OpenSpec.ofChange keysApartWrong)

/-- 'vigillaw07.KeysDerive': WHATEVER THE INPUT: true; the input reads as it did. -/
def keysDeriveSpec : ChangeSpec := { name := "keysDerive", fn := fun _ => fun
  | [d1, d2, d3, d4, d5] => { results := [.lit (.bool true)], args := [d1, d2, d3, d4, d5] }
  | _ => none }
def keysDeriveRow : OpenClaim := { program := "ytiegdpmkgegbaaa", sum := "8ec227f4da73c1df50cecd9b9680dfc56dd4a84caebdf0d1576bce733c933564", func := "vigil/vigillaw07.KeysDerive", spec := "keysDerive", unfollowed := true, recurses := true, plainKeys := false, apart := false }
def KeysDeriveSaid : Prop := keysDeriveRow.holds Try.pinned (OpenSpec.ofChange keysDeriveSpec)

/-- ITS FALSE NEIGHBOUR: 'it returns false'. Refute it at one input. -/
def keysDeriveWrong : ChangeSpec := { name := "keysDerive", fn := fun _ => fun
  | [d1, d2, d3, d4, d5] => { results := [.lit (.bool false)], args := [d1, d2, d3, d4, d5] }
  | _ => none }
def KeysDeriveWrongFalsely : Prop := keysDeriveRow.holds Try.pinned (OpenSpec.ofChange keysDeriveWrong)

/-- 'vigillaw07.KeysRing': WHATEVER THE INPUT: true; the input reads as it did. -/
def keysRingSpec : ChangeSpec := { name := "keysRing", fn := fun _ => fun
  | [d1, d2, d3, d4, d5] => { results := [.lit (.bool true)], args := [d1, d2, d3, d4, d5] }
  | _ => none }
def keysRingRow : OpenClaim := { program := "ytiegdpmkgegbaaa", sum := "8ec227f4da73c1df50cecd9b9680dfc56dd4a84caebdf0d1576bce733c933564", func := "vigil/vigillaw07.KeysRing", spec := "keysRing", unfollowed := true, recurses := true, plainKeys := false, apart := false }
def KeysRingSaid : Prop := keysRingRow.holds Try.pinned (OpenSpec.ofChange keysRingSpec)

/-- ITS FALSE NEIGHBOUR: 'it returns false'. Refute it at one input. -/
def keysRingWrong : ChangeSpec := { name := "keysRing", fn := fun _ => fun
  | [d1, d2, d3, d4, d5] => { results := [.lit (.bool false)], args := [d1, d2, d3, d4, d5] }
  | _ => none }
def KeysRingWrongFalsely : Prop := keysRingRow.holds Try.pinned (OpenSpec.ofChange keysRingWrong)

/-- 'vigillaw07.KeysNil': WHATEVER THE INPUT: true; the input reads as it did. -/
def keysNilSpec : ChangeSpec := { name := "keysNil", fn := fun _ => fun
  | [d1, d2] => { results := [.lit (.bool true)], args := [d1, d2] }
  | _ => none }
def keysNilRow : OpenClaim := { program := "ytiegdpmkgegbaaa", sum := "8ec227f4da73c1df50cecd9b9680dfc56dd4a84caebdf0d1576bce733c933564", func := "vigil/vigillaw07.KeysNil", spec := "keysNil", unfollowed := true, recurses := true, plainKeys := false, apart := false }
def KeysNilSaid : Prop := keysNilRow.holds Try.pinned (OpenSpec.ofChange keysNilSpec)

/-- ITS FALSE NEIGHBOUR: 'it returns false'. Refute it at one input. -/
def keysNilWrong : ChangeSpec := { name := "keysNil", fn := fun _ => fun
  | [d1, d2] => { results := [.lit (.bool false)], args := [d1, d2] }
  | _ => none }
def KeysNilWrongFalsely : Prop := keysNilRow.holds Try.pinned (OpenSpec.ofChange keysNilWrong)

/- THE SECOND FORM. 'bulk': how many values and letters a reading holds, each counted each time it is reached (what is shared counts as often as it is met; a slice's spare places count too). A statement '..UptoSaid' is the law's where the arguments, and the package variables that the reading takes, are together of bulk at most 1048576: NARROWER than '..Said'. Prove '..Said' where nothing that the law and all that it calls make is longer than what came in: it says more and counts as full. Else prove '..UptoSaid'. A law counts once. -/
mutual
def uptoBulk {H : Type} : DataW H → Nat
  | .lit (.string bytes) => bytes.length + 1
  | .lit _ => 1
  | .nil => 1
  | .ptr d => uptoBulk d + 1
  | .slice elems spare => uptoBulkAll elems + uptoBulkAll spare + 1
  | .agg parts => uptoBulkAll parts + 1
  | .iface _ d => uptoBulk d + 1
  | .map entries => uptoBulkEntries entries + 1
  | .held _ => 1
def uptoBulkAll {H : Type} : List (DataW H) → Nat
  | [] => 0
  | d :: r => uptoBulk d + uptoBulkAll r
def uptoBulkEntries {H : Type} : List (Lit × DataW H) → Nat
  | [] => 0
  | x :: r => uptoBulkEntry x + uptoBulkEntries r
def uptoBulkEntry {H : Type} : Lit × DataW H → Nat
  | (.string bytes, d) => bytes.length + uptoBulk d + 1
  | (_, d) => uptoBulk d + 1
 end
def uptoSmall : (H : Type) → List (DataW H) → Bool := fun _ ds => decide (uptoBulkAll ds ≤ 1048576)
def OpenSpec.upto (s : _root_.Go.ChangeSpec) : _root_.Go.OpenSpec := { _root_.Go.OpenSpec.ofChange s with cond := some uptoSmall }

/-- 'vigillaw07.KeysApart', WHERE WHAT IT READS IS OF BULK AT MOST 1048576: true; the input reads as it did. -/
def keysApartUptoRow : OpenClaim := { program := "ytiegdpmkgegbaaa", sum := "8ec227f4da73c1df50cecd9b9680dfc56dd4a84caebdf0d1576bce733c933564", func := "vigil/vigillaw07.KeysApart", spec := "keysApart", unfollowed := true, recurses := true, plainKeys := false, apart := false, narrowed := true }
def KeysApartUptoSaid : Prop := keysApartUptoRow.holds Try.pinned (OpenSpec.upto keysApartSpec)

/-- 'vigillaw07.KeysDerive', WHERE WHAT IT READS IS OF BULK AT MOST 1048576: true; the input reads as it did. -/
def keysDeriveUptoRow : OpenClaim := { program := "ytiegdpmkgegbaaa", sum := "8ec227f4da73c1df50cecd9b9680dfc56dd4a84caebdf0d1576bce733c933564", func := "vigil/vigillaw07.KeysDerive", spec := "keysDerive", unfollowed := true, recurses := true, plainKeys := false, apart := false, narrowed := true }
def KeysDeriveUptoSaid : Prop := keysDeriveUptoRow.holds Try.pinned (OpenSpec.upto keysDeriveSpec)

/-- 'vigillaw07.KeysRing', WHERE WHAT IT READS IS OF BULK AT MOST 1048576: true; the input reads as it did. -/
def keysRingUptoRow : OpenClaim := { program := "ytiegdpmkgegbaaa", sum := "8ec227f4da73c1df50cecd9b9680dfc56dd4a84caebdf0d1576bce733c933564", func := "vigil/vigillaw07.KeysRing", spec := "keysRing", unfollowed := true, recurses := true, plainKeys := false, apart := false, narrowed := true }
def KeysRingUptoSaid : Prop := keysRingUptoRow.holds Try.pinned (OpenSpec.upto keysRingSpec)

/-- 'vigillaw07.KeysNil', WHERE WHAT IT READS IS OF BULK AT MOST 1048576: true; the input reads as it did. -/
def keysNilUptoRow : OpenClaim := { program := "ytiegdpmkgegbaaa", sum := "8ec227f4da73c1df50cecd9b9680dfc56dd4a84caebdf0d1576bce733c933564", func := "vigil/vigillaw07.KeysNil", spec := "keysNil", unfollowed := true, recurses := true, plainKeys := false, apart := false, narrowed := true }
def KeysNilUptoSaid : Prop := keysNilUptoRow.holds Try.pinned (OpenSpec.upto keysNilSpec)

end Rows
end Go.Proofs.Ytiegdpmkgegbaaa
