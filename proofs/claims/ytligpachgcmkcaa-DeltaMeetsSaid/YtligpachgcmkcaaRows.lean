/-
  No cell of these rows narrows 'for every input' (looked for: loops, veiled, ifaces, maps, wideKeys, modest, calm, conditions, laid).
  DERIVED. THE GIVEN ROWS OF THIS SEAT. 9 by the template 'for every input the law returns true; each argument reads behind the call as it read before'; 0 by the template 'total and deterministic' (their statements: YtligpachgcmkcaaTotals.lean).
  GIVEN WITH THE SEED: the statements are not yours to turn. If you find one false, say at which input.
  Laid BY PROGRAM, IN A SANDBOX (cutbox-rows.mjs): the forced cells as the released guide's own fill.sh prints them over the translation 7030f73f61cc52e1… (all of the seat's roots in one cut). By AI agents, Wed Nov 11 2026. No macro, syntax, notation, axiom, sorry.
-/
import Derived.Test.YtligpachgcmkcaaChecked
import GoSem.Claim
import GoSem.ClaimJoined
import GoSem.ClaimMapViews
import Derived.JoinedTies
import Derived.KernelRfl
namespace Go.Proofs.Ytligpachgcmkcaa
/- THE CELL 'sum', in the pinned program and in every row, IS THE sha256 OF THE DUMP (.gsa) THAT YtligpachgcmkcaaProg.lean LOADS. Nothing in Lean hashes anything: it is a label: what it is worth is what the hold of that sum in a sandbox is worth. -/
noncomputable def Try.pinned : Pinned := { name := "ytligpachgcmkcaa", sum := "7030f73f61cc52e106c96410e29a62e0325f5881cd1b0adf586d3b1e63e9659f", checked := Try.checked }
namespace Rows
def none {H : Type} : Left H := { results := [], args := [] }

/-- 'vigillaw08.RevokeGrows': WHATEVER THE INPUT: true; the input reads as it did. -/
def revokeGrowsSpec : ChangeSpec := { name := "revokeGrows", fn := fun _ => fun
  | [d] => { results := [.lit (.bool true)], args := [d] }
  | _ => none }
def revokeGrowsRow : OpenClaim := { program := "ytligpachgcmkcaa", sum := "7030f73f61cc52e106c96410e29a62e0325f5881cd1b0adf586d3b1e63e9659f", func := "vigil/vigillaw08.RevokeGrows", spec := "revokeGrows", unfollowed := true, recurses := true, apart := false }
def RevokeGrowsSaid : Prop := revokeGrowsRow.holds Try.pinned (OpenSpec.ofChange revokeGrowsSpec)

/-- ITS FALSE NEIGHBOUR: 'it returns false'. Refute it at one input. -/
def revokeGrowsWrong : ChangeSpec := { name := "revokeGrows", fn := fun _ => fun
  | [d] => { results := [.lit (.bool false)], args := [d] }
  | _ => none }
def RevokeGrowsWrongFalsely : Prop := revokeGrowsRow.holds Try.pinned (OpenSpec.ofChange revokeGrowsWrong)

/-- 'vigillaw08.RevokeSince': WHATEVER THE INPUT: true; the input reads as it did. -/
def revokeSinceSpec : ChangeSpec := { name := "revokeSince", fn := fun _ => fun
  | [d1, d2] => { results := [.lit (.bool true)], args := [d1, d2] }
  | _ => none }
def revokeSinceRow : OpenClaim := { program := "ytligpachgcmkcaa", sum := "7030f73f61cc52e106c96410e29a62e0325f5881cd1b0adf586d3b1e63e9659f", func := "vigil/vigillaw08.RevokeSince", spec := "revokeSince", unfollowed := true, recurses := true, apart := false }
def RevokeSinceSaid : Prop := revokeSinceRow.holds Try.pinned (OpenSpec.ofChange revokeSinceSpec)

/-- ITS FALSE NEIGHBOUR: 'it returns false'. Refute it at one input. -/
def revokeSinceWrong : ChangeSpec := { name := "revokeSince", fn := fun _ => fun
  | [d1, d2] => { results := [.lit (.bool false)], args := [d1, d2] }
  | _ => none }
def RevokeSinceWrongFalsely : Prop := revokeSinceRow.holds Try.pinned (OpenSpec.ofChange revokeSinceWrong)

/-- 'vigillaw08.RevokeBytes': WHATEVER THE INPUT: true; the input reads as it did. -/
def revokeBytesSpec : ChangeSpec := { name := "revokeBytes", fn := fun _ => fun
  | [d1, d2] => { results := [.lit (.bool true)], args := [d1, d2] }
  | _ => none }
def revokeBytesRow : OpenClaim := { program := "ytligpachgcmkcaa", sum := "7030f73f61cc52e106c96410e29a62e0325f5881cd1b0adf586d3b1e63e9659f", func := "vigil/vigillaw08.RevokeBytes", spec := "revokeBytes", unfollowed := true, recurses := true, apart := false }
def RevokeBytesSaid : Prop := revokeBytesRow.holds Try.pinned (OpenSpec.ofChange revokeBytesSpec)

/-- ITS FALSE NEIGHBOUR: 'it returns false'. Refute it at one input. -/
def revokeBytesWrong : ChangeSpec := { name := "revokeBytes", fn := fun _ => fun
  | [d1, d2] => { results := [.lit (.bool false)], args := [d1, d2] }
  | _ => none }
def RevokeBytesWrongFalsely : Prop := revokeBytesRow.holds Try.pinned (OpenSpec.ofChange revokeBytesWrong)

/-- 'vigillaw08.RevokeMerges': WHATEVER THE INPUT: true; the input reads as it did. -/
def revokeMergesSpec : ChangeSpec := { name := "revokeMerges", fn := fun _ => fun
  | [d1, d2, d3, d4] => { results := [.lit (.bool true)], args := [d1, d2, d3, d4] }
  | _ => none }
def revokeMergesRow : OpenClaim := { program := "ytligpachgcmkcaa", sum := "7030f73f61cc52e106c96410e29a62e0325f5881cd1b0adf586d3b1e63e9659f", func := "vigil/vigillaw08.RevokeMerges", spec := "revokeMerges", unfollowed := true, recurses := true, apart := false }
def RevokeMergesSaid : Prop := revokeMergesRow.holds Try.pinned (OpenSpec.ofChange revokeMergesSpec)

/-- ITS FALSE NEIGHBOUR: 'it returns false'. Refute it at one input. -/
def revokeMergesWrong : ChangeSpec := { name := "revokeMerges", fn := fun _ => fun
  | [d1, d2, d3, d4] => { results := [.lit (.bool false)], args := [d1, d2, d3, d4] }
  | _ => none }
def RevokeMergesWrongFalsely : Prop := revokeMergesRow.holds Try.pinned (OpenSpec.ofChange revokeMergesWrong)

/-- 'vigillaw08.RevokePlays': WHATEVER THE INPUT: true; the input reads as it did. -/
def revokePlaysSpec : ChangeSpec := { name := "revokePlays", fn := fun _ => fun
  | [d1, d2] => { results := [.lit (.bool true)], args := [d1, d2] }
  | _ => none }
def revokePlaysRow : OpenClaim := { program := "ytligpachgcmkcaa", sum := "7030f73f61cc52e106c96410e29a62e0325f5881cd1b0adf586d3b1e63e9659f", func := "vigil/vigillaw08.RevokePlays", spec := "revokePlays", unfollowed := true, recurses := true, apart := false }
def RevokePlaysSaid : Prop := revokePlaysRow.holds Try.pinned (OpenSpec.ofChange revokePlaysSpec)

/-- ITS FALSE NEIGHBOUR: 'it returns false'. Refute it at one input. -/
def revokePlaysWrong : ChangeSpec := { name := "revokePlays", fn := fun _ => fun
  | [d1, d2] => { results := [.lit (.bool false)], args := [d1, d2] }
  | _ => none }
def RevokePlaysWrongFalsely : Prop := revokePlaysRow.holds Try.pinned (OpenSpec.ofChange revokePlaysWrong)

/-- 'vigillaw08.RevokeNil': WHATEVER THE INPUT: true; the input reads as it did. -/
def revokeNilSpec : ChangeSpec := { name := "revokeNil", fn := fun _ => fun
  | [d1, d2, d3] => { results := [.lit (.bool true)], args := [d1, d2, d3] }
  | _ => none }
def revokeNilRow : OpenClaim := { program := "ytligpachgcmkcaa", sum := "7030f73f61cc52e106c96410e29a62e0325f5881cd1b0adf586d3b1e63e9659f", func := "vigil/vigillaw08.RevokeNil", spec := "revokeNil", unfollowed := true, recurses := true, apart := false }
def RevokeNilSaid : Prop := revokeNilRow.holds Try.pinned (OpenSpec.ofChange revokeNilSpec)

/-- ITS FALSE NEIGHBOUR: 'it returns false'. Refute it at one input. -/
def revokeNilWrong : ChangeSpec := { name := "revokeNil", fn := fun _ => fun
  | [d1, d2, d3] => { results := [.lit (.bool false)], args := [d1, d2, d3] }
  | _ => none }
def RevokeNilWrongFalsely : Prop := revokeNilRow.holds Try.pinned (OpenSpec.ofChange revokeNilWrong)

/-- 'vigillaw09.DeltaNil': WHATEVER THE INPUT: true; the input reads as it did. -/
def deltaNilSpec : ChangeSpec := { name := "deltaNil", fn := fun _ => fun
  | [d1, d2] => { results := [.lit (.bool true)], args := [d1, d2] }
  | _ => none }
def deltaNilRow : OpenClaim := { program := "ytligpachgcmkcaa", sum := "7030f73f61cc52e106c96410e29a62e0325f5881cd1b0adf586d3b1e63e9659f", func := "vigil/vigillaw09.DeltaNil", spec := "deltaNil", unfollowed := true, recurses := true, apart := false }
def DeltaNilSaid : Prop := deltaNilRow.holds Try.pinned (OpenSpec.ofChange deltaNilSpec)

/-- ITS FALSE NEIGHBOUR: 'it returns false'. Refute it at one input. -/
def deltaNilWrong : ChangeSpec := { name := "deltaNil", fn := fun _ => fun
  | [d1, d2] => { results := [.lit (.bool false)], args := [d1, d2] }
  | _ => none }
def DeltaNilWrongFalsely : Prop := deltaNilRow.holds Try.pinned (OpenSpec.ofChange deltaNilWrong)

/-- 'vigillaw09.DeltaMeets': WHATEVER THE INPUT: true; the input reads as it did. -/
def deltaMeetsSpec : ChangeSpec := { name := "deltaMeets", fn := fun _ => fun
  | [d1, d2, d3, d4] => { results := [.lit (.bool true)], args := [d1, d2, d3, d4] }
  | _ => none }
def deltaMeetsRow : OpenClaim := { program := "ytligpachgcmkcaa", sum := "7030f73f61cc52e106c96410e29a62e0325f5881cd1b0adf586d3b1e63e9659f", func := "vigil/vigillaw09.DeltaMeets", spec := "deltaMeets", unfollowed := true, recurses := true, apart := false }
def DeltaMeetsSaid : Prop := deltaMeetsRow.holds Try.pinned (OpenSpec.ofChange deltaMeetsSpec)

/-- ITS FALSE NEIGHBOUR: 'it returns false'. Refute it at one input. -/
def deltaMeetsWrong : ChangeSpec := { name := "deltaMeets", fn := fun _ => fun
  | [d1, d2, d3, d4] => { results := [.lit (.bool false)], args := [d1, d2, d3, d4] }
  | _ => none }
def DeltaMeetsWrongFalsely : Prop := deltaMeetsRow.holds Try.pinned (OpenSpec.ofChange deltaMeetsWrong)

/-- 'vigillaw09.DeltaAnswers': WHATEVER THE INPUT: true; the input reads as it did. -/
def deltaAnswersSpec : ChangeSpec := { name := "deltaAnswers", fn := fun _ => fun
  | [d1, d2, d3] => { results := [.lit (.bool true)], args := [d1, d2, d3] }
  | _ => none }
def deltaAnswersRow : OpenClaim := { program := "ytligpachgcmkcaa", sum := "7030f73f61cc52e106c96410e29a62e0325f5881cd1b0adf586d3b1e63e9659f", func := "vigil/vigillaw09.DeltaAnswers", spec := "deltaAnswers", unfollowed := true, recurses := true, apart := false }
def DeltaAnswersSaid : Prop := deltaAnswersRow.holds Try.pinned (OpenSpec.ofChange deltaAnswersSpec)

/-- ITS FALSE NEIGHBOUR: 'it returns false'. Refute it at one input. -/
def deltaAnswersWrong : ChangeSpec := { name := "deltaAnswers", fn := fun _ => fun
  | [d1, d2, d3] => { results := [.lit (.bool false)], args := [d1, d2, d3] }
  | _ => none }
def DeltaAnswersWrongFalsely : Prop := deltaAnswersRow.holds Try.pinned (OpenSpec.ofChange deltaAnswersWrong)

/- THE SECOND FORM. 'bulk': how many values and letters a reading holds, each counted each time it is reached (what is shared counts as often as it is met; a slice's spare places count too). A statement '..UptoSaid' is the law's where the arguments, and the package variables that the reading takes, are together of bulk at most 1048576: NARROWER than '..Said'. Prove '..Said' where nothing that the law and all that it calls make is longer than what came in: it says more and counts as full. Else prove '..UptoSaid'. A law counts once. -/
mutual
def uptoBulk {H : Type} : DataW H → Nat
  | .lit (.string bytes) => bytes.length + 1
  | .lit _ => 1
  | .nil => 1
  | .ptr d => uptoBulk d + 1
  | .slice elems spare => uptoBulkAll elems + uptoBulkAll spare + 1
  | .agg parts => uptoBulkAll parts + 1
  | .iface _ d => uptoBulk d + 1
  | .map entries => uptoBulkEntries entries + 1
  | .held _ => 1
def uptoBulkAll {H : Type} : List (DataW H) → Nat
  | [] => 0
  | d :: r => uptoBulk d + uptoBulkAll r
def uptoBulkEntries {H : Type} : List (Lit × DataW H) → Nat
  | [] => 0
  | x :: r => uptoBulkEntry x + uptoBulkEntries r
def uptoBulkEntry {H : Type} : Lit × DataW H → Nat
  | (.string bytes, d) => bytes.length + uptoBulk d + 1
  | (_, d) => uptoBulk d + 1
 end
def uptoSmall : (H : Type) → List (DataW H) → Bool := fun _ ds => decide (uptoBulkAll ds ≤ 1048576)
def OpenSpec.upto (s : _root_.Go.ChangeSpec) : _root_.Go.OpenSpec := { _root_.Go.OpenSpec.ofChange s with cond := some uptoSmall }

/-- 'vigillaw08.RevokeGrows', WHERE WHAT IT READS IS OF BULK AT MOST 1048576: true; the input reads as it did. -/
def revokeGrowsUptoRow : OpenClaim := { program := "ytligpachgcmkcaa", sum := "7030f73f61cc52e106c96410e29a62e0325f5881cd1b0adf586d3b1e63e9659f", func := "vigil/vigillaw08.RevokeGrows", spec := "revokeGrows", unfollowed := true, recurses := true, apart := false, narrowed := true }
def RevokeGrowsUptoSaid : Prop := revokeGrowsUptoRow.holds Try.pinned (OpenSpec.upto revokeGrowsSpec)

/-- 'vigillaw08.RevokeSince', WHERE WHAT IT READS IS OF BULK AT MOST 1048576: true; the input reads as it did. -/
def revokeSinceUptoRow : OpenClaim := { program := "ytligpachgcmkcaa", sum := "7030f73f61cc52e106c96410e29a62e0325f5881cd1b0adf586d3b1e63e9659f", func := "vigil/vigillaw08.RevokeSince", spec := "revokeSince", unfollowed := true, recurses := true, apart := false, narrowed := true }
def RevokeSinceUptoSaid : Prop := revokeSinceUptoRow.holds Try.pinned (OpenSpec.upto revokeSinceSpec)

/-- 'vigillaw08.RevokeBytes', WHERE WHAT IT READS IS OF BULK AT MOST 1048576: true; the input reads as it did. -/
def revokeBytesUptoRow : OpenClaim := { program := "ytligpachgcmkcaa", sum := "7030f73f61cc52e106c96410e29a62e0325f5881cd1b0adf586d3b1e63e9659f", func := "vigil/vigillaw08.RevokeBytes", spec := "revokeBytes", unfollowed := true, recurses := true, apart := false, narrowed := true }
def RevokeBytesUptoSaid : Prop := revokeBytesUptoRow.holds Try.pinned (OpenSpec.upto revokeBytesSpec)

/-- 'vigillaw08.RevokeMerges', WHERE WHAT IT READS IS OF BULK AT MOST 1048576: true; the input reads as it did. -/
def revokeMergesUptoRow : OpenClaim := { program := "ytligpachgcmkcaa", sum := "7030f73f61cc52e106c96410e29a62e0325f5881cd1b0adf586d3b1e63e9659f", func := "vigil/vigillaw08.RevokeMerges", spec := "revokeMerges", unfollowed := true, recurses := true, apart := false, narrowed := true }
def RevokeMergesUptoSaid : Prop := revokeMergesUptoRow.holds Try.pinned (OpenSpec.upto revokeMergesSpec)

/-- 'vigillaw08.RevokePlays', WHERE WHAT IT READS IS OF BULK AT MOST 1048576: true; the input reads as it did. -/
def revokePlaysUptoRow : OpenClaim := { program := "ytligpachgcmkcaa", sum := "7030f73f61cc52e106c96410e29a62e0325f5881cd1b0adf586d3b1e63e9659f", func := "vigil/vigillaw08.RevokePlays", spec := "revokePlays", unfollowed := true, recurses := true, apart := false, narrowed := true }
def RevokePlaysUptoSaid : Prop := revokePlaysUptoRow.holds Try.pinned (OpenSpec.upto revokePlaysSpec)

/-- 'vigillaw08.RevokeNil', WHERE WHAT IT READS IS OF BULK AT MOST 1048576: true; the input reads as it did. -/
def revokeNilUptoRow : OpenClaim := { program := "ytligpachgcmkcaa", sum := "7030f73f61cc52e106c96410e29a62e0325f5881cd1b0adf586d3b1e63e9659f", func := "vigil/vigillaw08.RevokeNil", spec := "revokeNil", unfollowed := true, recurses := true, apart := false, narrowed := true }
def RevokeNilUptoSaid : Prop := revokeNilUptoRow.holds Try.pinned (OpenSpec.upto revokeNilSpec)

/-- 'vigillaw09.DeltaNil', WHERE WHAT IT READS IS OF BULK AT MOST 1048576: true; the input reads as it did. -/
def deltaNilUptoRow : OpenClaim := { program := "ytligpachgcmkcaa", sum := "7030f73f61cc52e106c96410e29a62e0325f5881cd1b0adf586d3b1e63e9659f", func := "vigil/vigillaw09.DeltaNil", spec := "deltaNil", unfollowed := true, recurses := true, apart := false, narrowed := true }
def DeltaNilUptoSaid : Prop := deltaNilUptoRow.holds Try.pinned (OpenSpec.upto deltaNilSpec)

/-- 'vigillaw09.DeltaMeets', WHERE WHAT IT READS IS OF BULK AT MOST 1048576: true; the input reads as it did. -/
def deltaMeetsUptoRow : OpenClaim := { program := "ytligpachgcmkcaa", sum := "7030f73f61cc52e106c96410e29a62e0325f5881cd1b0adf586d3b1e63e9659f", func := "vigil/vigillaw09.DeltaMeets", spec := "deltaMeets", unfollowed := true, recurses := true, apart := false, narrowed := true }
def DeltaMeetsUptoSaid : Prop := deltaMeetsUptoRow.holds Try.pinned (OpenSpec.upto deltaMeetsSpec)

/-- 'vigillaw09.DeltaAnswers', WHERE WHAT IT READS IS OF BULK AT MOST 1048576: true; the input reads as it did. -/
def deltaAnswersUptoRow : OpenClaim := { program := "ytligpachgcmkcaa", sum := "7030f73f61cc52e106c96410e29a62e0325f5881cd1b0adf586d3b1e63e9659f", func := "vigil/vigillaw09.DeltaAnswers", spec := "deltaAnswers", unfollowed := true, recurses := true, apart := false, narrowed := true }
def DeltaAnswersUptoSaid : Prop := deltaAnswersUptoRow.holds Try.pinned (OpenSpec.upto deltaAnswersSpec)

end Rows
end Go.Proofs.Ytligpachgcmkcaa
