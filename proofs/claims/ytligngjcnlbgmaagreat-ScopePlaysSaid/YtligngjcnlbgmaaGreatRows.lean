/-
  No cell of these rows narrows 'for every input' (looked for: loops, veiled, ifaces, maps, wideKeys, modest, calm, conditions, laid).
  DERIVED. THE GIVEN ROWS OF THIS SEAT. 3 by the template 'for every input the law returns true; each argument reads behind the call as it read before'; 0 by the template 'total and deterministic' (their statements: YtligngjcnlbgmaaGreatTotals.lean).
  GIVEN WITH THE SEED: the statements are not yours to turn. If you find one false, say at which input.
  Laid BY PROGRAM, IN A SANDBOX (cutbox-rows.mjs): the forced cells as the released guide's own fill.sh prints them over the translation 99e7d4ecb68b655f… (all of the seat's roots in one cut). By AI agents, Wed Nov 11 2026. No macro, syntax, notation, axiom, sorry.
-/
import Derived.Test.YtligngjcnlbgmaaGreatChecked
import GoSem.Claim
import GoSem.ClaimJoined
import GoSem.ClaimMapViews
import Derived.JoinedTies
import Derived.KernelRfl
namespace Go.Proofs.YtligngjcnlbgmaaGreat
/- THE CELL 'sum', in the pinned program and in every row, IS THE sha256 OF THE DUMP (.gsa) THAT YtligngjcnlbgmaaGreatProg.lean LOADS. Nothing in Lean hashes anything: it is a label: what it is worth is what the hold of that sum in a sandbox is worth. -/
noncomputable def Tryz.pinned : Pinned := { name := "ytligngjcnlbgmaagreat", sum := "99e7d4ecb68b655fbe570f8d3b4bc48d4b8820c12ef8682b96a6fcf4382a0a69", checked := Tryz.checked }
namespace Rows
def none {H : Type} : Left H := { results := [], args := [] }

/-- 'vigillaw26.ScopeSeals': WHATEVER THE INPUT: true; the input reads as it did. -/
def scopeSealsSpec : ChangeSpec := { name := "scopeSeals", fn := fun _ => fun
  | [d1, d2, d3] => { results := [.lit (.bool true)], args := [d1, d2, d3] }
  | _ => none }
def scopeSealsRow : OpenClaim := { program := "ytligngjcnlbgmaagreat", sum := "99e7d4ecb68b655fbe570f8d3b4bc48d4b8820c12ef8682b96a6fcf4382a0a69", func := "vigil/vigillaw26.ScopeSeals", spec := "scopeSeals", unfollowed := true, recurses := true, plainKeys := false, apart := false }
def ScopeSealsSaid : Prop := scopeSealsRow.holds Tryz.pinned (OpenSpec.ofChange scopeSealsSpec)

/-- ITS FALSE NEIGHBOUR: 'it returns false'. Refute it at one input. -/
def scopeSealsWrong : ChangeSpec := { name := "scopeSeals", fn := fun _ => fun
  | [d1, d2, d3] => { results := [.lit (.bool false)], args := [d1, d2, d3] }
  | _ => none }
def ScopeSealsWrongFalsely : Prop := scopeSealsRow.holds Tryz.pinned (OpenSpec.ofChange scopeSealsWrong)

/-- 'vigillaw16.ChannelGrants': WHATEVER THE INPUT: true; the input reads as it did. -/
def channelGrantsSpec : ChangeSpec := { name := "channelGrants", fn := fun _ => fun
  | [d1, d2, d3, d4, d5] => { results := [.lit (.bool true)], args := [d1, d2, d3, d4, d5] }
  | _ => none }
def channelGrantsRow : OpenClaim := { program := "ytligngjcnlbgmaagreat", sum := "99e7d4ecb68b655fbe570f8d3b4bc48d4b8820c12ef8682b96a6fcf4382a0a69", func := "vigil/vigillaw16.ChannelGrants", spec := "channelGrants", inPlace := ["internal/bytealg.MakeNoZero"], unfollowed := true, recurses := true, plainKeys := false, apart := false }
def ChannelGrantsSaid : Prop := channelGrantsRow.holds Tryz.pinned (OpenSpec.ofChange channelGrantsSpec)

/-- ITS FALSE NEIGHBOUR: 'it returns false'. Refute it at one input. -/
def channelGrantsWrong : ChangeSpec := { name := "channelGrants", fn := fun _ => fun
  | [d1, d2, d3, d4, d5] => { results := [.lit (.bool false)], args := [d1, d2, d3, d4, d5] }
  | _ => none }
def ChannelGrantsWrongFalsely : Prop := channelGrantsRow.holds Tryz.pinned (OpenSpec.ofChange channelGrantsWrong)

/-- 'vigillaw26.ScopePlays': WHATEVER THE INPUT: true; the input reads as it did. -/
def scopePlaysSpec : ChangeSpec := { name := "scopePlays", fn := fun _ => fun
  | [d1, d2, d3] => { results := [.lit (.bool true)], args := [d1, d2, d3] }
  | _ => none }
def scopePlaysRow : OpenClaim := { program := "ytligngjcnlbgmaagreat", sum := "99e7d4ecb68b655fbe570f8d3b4bc48d4b8820c12ef8682b96a6fcf4382a0a69", func := "vigil/vigillaw26.ScopePlays", spec := "scopePlays", unfollowed := true, recurses := true, plainKeys := false, apart := false }
def ScopePlaysSaid : Prop := scopePlaysRow.holds Tryz.pinned (OpenSpec.ofChange scopePlaysSpec)

/-- ITS FALSE NEIGHBOUR: 'it returns false'. Refute it at one input. -/
def scopePlaysWrong : ChangeSpec := { name := "scopePlays", fn := fun _ => fun
  | [d1, d2, d3] => { results := [.lit (.bool false)], args := [d1, d2, d3] }
  | _ => none }
def ScopePlaysWrongFalsely : Prop := scopePlaysRow.holds Tryz.pinned (OpenSpec.ofChange scopePlaysWrong)

/- THE SECOND FORM. 'bulk': how many values and letters a reading holds, each counted each time it is reached (what is shared counts as often as it is met; a slice's spare places count too). A statement '..UptoSaid' is the law's where the arguments, and the package variables that the reading takes, are together of bulk at most 1048576: NARROWER than '..Said'. Prove '..Said' where nothing that the law and all that it calls make is longer than what came in: it says more and counts as full. Else prove '..UptoSaid'. A law counts once. -/
mutual
def uptoBulk {H : Type} : DataW H → Nat
  | .lit (.string bytes) => bytes.length + 1
  | .lit _ => 1
  | .nil => 1
  | .ptr d => uptoBulk d + 1
  | .slice elems spare => uptoBulkAll elems + uptoBulkAll spare + 1
  | .agg parts => uptoBulkAll parts + 1
  | .iface _ d => uptoBulk d + 1
  | .map entries => uptoBulkEntries entries + 1
  | .held _ => 1
def uptoBulkAll {H : Type} : List (DataW H) → Nat
  | [] => 0
  | d :: r => uptoBulk d + uptoBulkAll r
def uptoBulkEntries {H : Type} : List (Lit × DataW H) → Nat
  | [] => 0
  | x :: r => uptoBulkEntry x + uptoBulkEntries r
def uptoBulkEntry {H : Type} : Lit × DataW H → Nat
  | (.string bytes, d) => bytes.length + uptoBulk d + 1
  | (_, d) => uptoBulk d + 1
 end
def uptoSmall : (H : Type) → List (DataW H) → Bool := fun _ ds => decide (uptoBulkAll ds ≤ 1048576)
def OpenSpec.upto (s : _root_.Go.ChangeSpec) : _root_.Go.OpenSpec := { _root_.Go.OpenSpec.ofChange s with cond := some uptoSmall }

/-- 'vigillaw26.ScopeSeals', WHERE WHAT IT READS IS OF BULK AT MOST 1048576: true; the input reads as it did. -/
def scopeSealsUptoRow : OpenClaim := { program := "ytligngjcnlbgmaagreat", sum := "99e7d4ecb68b655fbe570f8d3b4bc48d4b8820c12ef8682b96a6fcf4382a0a69", func := "vigil/vigillaw26.ScopeSeals", spec := "scopeSeals", unfollowed := true, recurses := true, plainKeys := false, apart := false, narrowed := true }
def ScopeSealsUptoSaid : Prop := scopeSealsUptoRow.holds Tryz.pinned (OpenSpec.upto scopeSealsSpec)

/-- 'vigillaw16.ChannelGrants', WHERE WHAT IT READS IS OF BULK AT MOST 1048576: true; the input reads as it did. -/
def channelGrantsUptoRow : OpenClaim := { program := "ytligngjcnlbgmaagreat", sum := "99e7d4ecb68b655fbe570f8d3b4bc48d4b8820c12ef8682b96a6fcf4382a0a69", func := "vigil/vigillaw16.ChannelGrants", spec := "channelGrants", inPlace := ["internal/bytealg.MakeNoZero"], unfollowed := true, recurses := true, plainKeys := false, apart := false, narrowed := true }
def ChannelGrantsUptoSaid : Prop := channelGrantsUptoRow.holds Tryz.pinned (OpenSpec.upto channelGrantsSpec)

/-- 'vigillaw26.ScopePlays', WHERE WHAT IT READS IS OF BULK AT MOST 1048576: true; the input reads as it did. -/
def scopePlaysUptoRow : OpenClaim := { program := "ytligngjcnlbgmaagreat", sum := "99e7d4ecb68b655fbe570f8d3b4bc48d4b8820c12ef8682b96a6fcf4382a0a69", func := "vigil/vigillaw26.ScopePlays", spec := "scopePlays", unfollowed := true, recurses := true, plainKeys := false, apart := false, narrowed := true }
def ScopePlaysUptoSaid : Prop := scopePlaysUptoRow.holds Tryz.pinned (OpenSpec.upto scopePlaysSpec)

end Rows
end Go.Proofs.YtligngjcnlbgmaaGreat
