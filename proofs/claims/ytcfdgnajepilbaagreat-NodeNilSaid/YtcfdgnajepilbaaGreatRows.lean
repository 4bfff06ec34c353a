/-
  No cell of these rows narrows 'for every input' (looked for: loops, veiled, ifaces, maps, wideKeys, modest, calm, conditions, laid).
  DERIVED. THE GIVEN ROWS OF THIS SEAT. 3 by the template 'for every input the law returns true; each argument reads behind the call as it read before'; 0 by the template 'total and deterministic' (their statements: YtcfdgnajepilbaaGreatTotals.lean).
  GIVEN WITH THE SEED: the statements are not yours to turn. If you find one false, say at which input.
  Laid BY PROGRAM, IN A SANDBOX (cutbox-rows.mjs): the forced cells as the released guide's own fill.sh prints them over the translation d598290df4aef407… (all of the seat's roots in one cut). By AI agents, Wed Nov 11 2026. No macro, syntax, notation, axiom, sorry.
-/
import Derived.Test.YtcfdgnajepilbaaGreatChecked
import GoSem.Claim
import GoSem.ClaimJoined
import GoSem.ClaimMapViews
import Derived.JoinedTies
import Derived.KernelRfl
namespace Go.Proofs.YtcfdgnajepilbaaGreat
/- THE CELL 'sum', in the pinned program and in every row, IS THE sha256 OF THE DUMP (.gsa) THAT YtcfdgnajepilbaaGreatProg.lean LOADS. Nothing in Lean hashes anything: it is a label: what it is worth is what the hold of that sum in a sandbox is worth. -/
noncomputable def Tryz.pinned : Pinned := { name := "ytcfdgnajepilbaagreat", sum := "d598290df4aef4077baab60080b06d40d7a032d50424a62c39896e4457fc34c3", checked := Tryz.checked }
namespace Rows
def none {H : Type} : Left H := { results := [], args := [] }

/-- 'vigillaw28.NodeTicks': WHATEVER THE INPUT: true; the input reads as it did. -/
def nodeTicksSpec : ChangeSpec := { name := "nodeTicks", fn := fun _ => fun
  | [d1, d2, d3, d4] => { results := [.lit (.bool true)], args := [d1, d2, d3, d4] }
  | _ => none }
def nodeTicksRow : OpenClaim := { program := "ytcfdgnajepilbaagreat", sum := "d598290df4aef4077baab60080b06d40d7a032d50424a62c39896e4457fc34c3", func := "vigil/vigillaw28.NodeTicks", spec := "nodeTicks", inPlace := ["internal/bytealg.MakeNoZero"], unfollowed := true, recurses := true, plainKeys := false, apart := false }
def NodeTicksSaid : Prop := nodeTicksRow.holds Tryz.pinned (OpenSpec.ofChange nodeTicksSpec)

/-- ITS FALSE NEIGHBOUR: 'it returns false'. Refute it at one input. -/
def nodeTicksWrong : ChangeSpec := { name := "nodeTicks", fn := fun _ => fun
  | [d1, d2, d3, d4] => { results := [.lit (.bool false)], args := [d1, d2, d3, d4] }
  | _ => none }
def NodeTicksWrongFalsely : Prop := nodeTicksRow.holds Tryz.pinned (OpenSpec.ofChange nodeTicksWrong)

/-- 'vigillaw28.NodeSets': WHATEVER THE INPUT: true; the input reads as it did. -/
def nodeSetsSpec : ChangeSpec := { name := "nodeSets", fn := fun _ => fun
  | [d1, d2, d3, d4, d5] => { results := [.lit (.bool true)], args := [d1, d2, d3, d4, d5] }
  | _ => none }
def nodeSetsRow : OpenClaim := { program := "ytcfdgnajepilbaagreat", sum := "d598290df4aef4077baab60080b06d40d7a032d50424a62c39896e4457fc34c3", func := "vigil/vigillaw28.NodeSets", spec := "nodeSets", inPlace := ["internal/bytealg.MakeNoZero"], unfollowed := true, recurses := true, plainKeys := false, apart := false }
def NodeSetsSaid : Prop := nodeSetsRow.holds Tryz.pinned (OpenSpec.ofChange nodeSetsSpec)

/-- ITS FALSE NEIGHBOUR: 'it returns false'. Refute it at one input. -/
def nodeSetsWrong : ChangeSpec := { name := "nodeSets", fn := fun _ => fun
  | [d1, d2, d3, d4, d5] => { results := [.lit (.bool false)], args := [d1, d2, d3, d4, d5] }
  | _ => none }
def NodeSetsWrongFalsely : Prop := nodeSetsRow.holds Tryz.pinned (OpenSpec.ofChange nodeSetsWrong)

/-- 'vigillaw28.NodeNil': WHATEVER THE INPUT: true; the input reads as it did. -/
def nodeNilSpec : ChangeSpec := { name := "nodeNil", fn := fun _ => fun
  | [d1, d2, d3, d4] => { results := [.lit (.bool true)], args := [d1, d2, d3, d4] }
  | _ => none }
def nodeNilRow : OpenClaim := { program := "ytcfdgnajepilbaagreat", sum := "d598290df4aef4077baab60080b06d40d7a032d50424a62c39896e4457fc34c3", func := "vigil/vigillaw28.NodeNil", spec := "nodeNil", inPlace := ["internal/bytealg.MakeNoZero"], unfollowed := true, recurses := true, plainKeys := false, apart := false }
def NodeNilSaid : Prop := nodeNilRow.holds Tryz.pinned (OpenSpec.ofChange nodeNilSpec)

/-- ITS FALSE NEIGHBOUR: 'it returns false'. Refute it at one input. -/
def nodeNilWrong : ChangeSpec := { name := "nodeNil", fn := fun _ => fun
  | [d1, d2, d3, d4] => { results := [.lit (.bool false)], args := [d1, d2, d3, d4] }
  | _ => none }
def NodeNilWrongFalsely : Prop := nodeNilRow.holds Tryz.pinned (OpenSpec.ofChange nodeNilWrong)

/- THE SECOND FORM. 'bulk': how many values and letters a reading holds, each counted each time it is reached (what is shared counts as often as it is met; a slice's spare places count too). A statement '..UptoSaid' is the law's where the arguments, and the package variables that the reading takes, are together of bulk at most 1048576: NARROWER than '..Said'. Prove '..Said' where nothing that the law and all that it calls make is longer than what came in: it says more and counts as full. Else prove '..UptoSaid'. A law counts once. -/
mutual
def uptoBulk {H : Type} : DataW H → Nat
  | .lit (.string bytes) => bytes.length + 1
  | .lit _ => 1
  | .nil => 1
  | .ptr d => uptoBulk d + 1
  | .slice elems spare => uptoBulkAll elems + uptoBulkAll spare + 1
  | .agg parts => uptoBulkAll parts + 1
  | .iface _ d => uptoBulk d + 1
  | .map entries => uptoBulkEntries entries + 1
  | .held _ => 1
def uptoBulkAll {H : Type} : List (DataW H) → Nat
  | [] => 0
  | d :: r => uptoBulk d + uptoBulkAll r
def uptoBulkEntries {H : Type} : List (Lit × DataW H) → Nat
  | [] => 0
  | x :: r => uptoBulkEntry x + uptoBulkEntries r
def uptoBulkEntry {H : Type} : Lit × DataW H → Nat
  | (.string bytes, d) => bytes.length + uptoBulk d + 1
  | (_, d) => uptoBulk d + 1
 end
def uptoSmall : (H : Type) → List (DataW H) → Bool := fun _ ds => decide (uptoBulkAll ds ≤ 1048576)
def OpenSpec.upto (s : _root_.Go.ChangeSpec) : _root_.Go.OpenSpec := { _root_.Go.OpenSpec.ofChange s with cond := some uptoSmall }

/-- 'vigillaw28.NodeTicks', WHERE WHAT IT READS IS OF BULK AT MOST 1048576: true; the input reads as it did. -/
def nodeTicksUptoRow : OpenClaim := { program := "ytcfdgnajepilbaagreat", sum := "d598290df4aef4077baab60080b06d40d7a032d50424a62c39896e4457fc34c3", func := "vigil/vigillaw28.NodeTicks", spec := "nodeTicks", inPlace := ["internal/bytealg.MakeNoZero"], unfollowed := true, recurses := true, plainKeys := false, apart := false, narrowed := true }
def NodeTicksUptoSaid : Prop := nodeTicksUptoRow.holds Tryz.pinned (OpenSpec.upto nodeTicksSpec)

/-- 'vigillaw28.NodeSets', WHERE WHAT IT READS IS OF BULK AT MOST 1048576: true; the input reads as it did. -/
def nodeSetsUptoRow : OpenClaim := { program := "ytcfdgnajepilbaagreat", sum := "d598290df4aef4077baab60080b06d40d7a032d50424a62c39896e4457fc34c3", func := "vigil/vigillaw28.NodeSets", spec := "nodeSets", inPlace := ["internal/bytealg.MakeNoZero"], unfollowed := true, recurses := true, plainKeys := false, apart := false, narrowed := true }
def NodeSetsUptoSaid : Prop := nodeSetsUptoRow.holds Tryz.pinned (OpenSpec.upto nodeSetsSpec)

/-- 'vigillaw28.NodeNil', WHERE WHAT IT READS IS OF BULK AT MOST 1048576: true; the input reads as it did. -/
def nodeNilUptoRow : OpenClaim := { program := "ytcfdgnajepilbaagreat", sum := "d598290df4aef4077baab60080b06d40d7a032d50424a62c39896e4457fc34c3", func := "vigil/vigillaw28.NodeNil", spec := "nodeNil", inPlace := ["internal/bytealg.MakeNoZero"], unfollowed := true, recurses := true, plainKeys := false, apart := false, narrowed := true }
def NodeNilUptoSaid : Prop := nodeNilUptoRow.holds Tryz.pinned (OpenSpec.upto nodeNilSpec)

end Rows
end Go.Proofs.YtcfdgnajepilbaaGreat
