/-
  No cell of these rows narrows 'for every input' (looked for: loops, veiled, ifaces, maps, wideKeys, modest, calm, conditions, laid).
  DERIVED. THE GIVEN ROWS OF THIS SEAT. 5 by the template 'for every input the law returns true; each argument reads behind the call as it read before'; 0 by the template 'total and deterministic' (their statements: YtolnagbahceebaaGreatTotals.lean).
  GIVEN WITH THE SEED: the statements are not yours to turn. If you find one false, say at which input.
  Laid BY PROGRAM, IN A SANDBOX (cutbox-rows.mjs): the forced cells as the released guide's own fill.sh prints them over the translation 8791f804c5bbd97e… (all of the seat's roots in one cut). By AI agents, Wed Nov 11 2026. No macro, syntax, notation, axiom, sorry.
-/
import Derived.Test.YtolnagbahceebaaGreatChecked
import GoSem.Claim
import GoSem.ClaimJoined
import GoSem.ClaimMapViews
import Derived.JoinedTies
import Derived.KernelRfl
namespace Go.Proofs.YtolnagbahceebaaGreat
/- THE CELL 'sum', in the pinned program and in every row, IS THE sha256 OF THE DUMP (.gsa) THAT YtolnagbahceebaaGreatProg.lean LOADS. Nothing in Lean hashes anything: it is a label: what it is worth is what the hold of that sum in a sandbox is worth. -/
noncomputable def Tryz.pinned : Pinned := { name := "ytolnagbahceebaagreat", sum := "8791f804c5bbd97e07d32500e78dbd475288d99704df737a051a6a430368e313", checked := Tryz.checked }
namespace Rows
def none {H : Type} : Left H := { results := [], args := [] }

/-- 'vigillaw17.FreshNil': WHATEVER THE INPUT: true; the input reads as it did. -/
def freshNilSpec : ChangeSpec := { name := "freshNil", fn := fun _ => fun
  | [d1, d2, d3] => { results := [.lit (.bool true)], args := [d1, d2, d3] }
  | _ => none }
def freshNilRow : OpenClaim := { program := "ytolnagbahceebaagreat", sum := "8791f804c5bbd97e07d32500e78dbd475288d99704df737a051a6a430368e313", func := "vigil/vigillaw17.FreshNil", spec := "freshNil", unfollowed := true, recurses := true, plainKeys := false, apart := false }
def FreshNilSaid : Prop := freshNilRow.holds Tryz.pinned (OpenSpec.ofChange freshNilSpec)

/-- ITS FALSE NEIGHBOUR: 'it returns false'. Refute it at one input. -/
def freshNilWrong : ChangeSpec := { name := "freshNil", fn := fun _ => fun
  | [d1, d2, d3] => { results := [.lit (.bool false)], args := [d1, d2, d3] }
  | _ => none }
def FreshNilWrongFalsely : Prop := freshNilRow.holds Tryz.pinned (OpenSpec.ofChange freshNilWrong)

/-- 'vigillaw17.FreshPlays': WHATEVER THE INPUT: true; the input reads as it did. -/
def freshPlaysSpec : ChangeSpec := { name := "freshPlays", fn := fun _ => fun
  | [d1, d2, d3, d4] => { results := [.lit (.bool true)], args := [d1, d2, d3, d4] }
  | _ => none }
def freshPlaysRow : OpenClaim := { program := "ytolnagbahceebaagreat", sum := "8791f804c5bbd97e07d32500e78dbd475288d99704df737a051a6a430368e313", func := "vigil/vigillaw17.FreshPlays", spec := "freshPlays", unfollowed := true, recurses := true, plainKeys := false, apart := false }
def FreshPlaysSaid : Prop := freshPlaysRow.holds Tryz.pinned (OpenSpec.ofChange freshPlaysSpec)

/-- ITS FALSE NEIGHBOUR: 'it returns false'. Refute it at one input. -/
def freshPlaysWrong : ChangeSpec := { name := "freshPlays", fn := fun _ => fun
  | [d1, d2, d3, d4] => { results := [.lit (.bool false)], args := [d1, d2, d3, d4] }
  | _ => none }
def FreshPlaysWrongFalsely : Prop := freshPlaysRow.holds Tryz.pinned (OpenSpec.ofChange freshPlaysWrong)

/-- 'vigillaw17.FreshHolds': WHATEVER THE INPUT: true; the input reads as it did. -/
def freshHoldsSpec : ChangeSpec := { name := "freshHolds", fn := fun _ => fun
  | [d] => { results := [.lit (.bool true)], args := [d] }
  | _ => none }
def freshHoldsRow : OpenClaim := { program := "ytolnagbahceebaagreat", sum := "8791f804c5bbd97e07d32500e78dbd475288d99704df737a051a6a430368e313", func := "vigil/vigillaw17.FreshHolds", spec := "freshHolds", unfollowed := true, recurses := true, plainKeys := false, apart := false }
def FreshHoldsSaid : Prop := freshHoldsRow.holds Tryz.pinned (OpenSpec.ofChange freshHoldsSpec)

/-- ITS FALSE NEIGHBOUR: 'it returns false'. Refute it at one input. -/
def freshHoldsWrong : ChangeSpec := { name := "freshHolds", fn := fun _ => fun
  | [d] => { results := [.lit (.bool false)], args := [d] }
  | _ => none }
def FreshHoldsWrongFalsely : Prop := freshHoldsRow.holds Tryz.pinned (OpenSpec.ofChange freshHoldsWrong)

/-- 'vigillaw16.ChannelMeets': WHATEVER THE INPUT: true; the input reads as it did. -/
def channelMeetsSpec : ChangeSpec := { name := "channelMeets", fn := fun _ => fun
  | [d1, d2, d3] => { results := [.lit (.bool true)], args := [d1, d2, d3] }
  | _ => none }
def channelMeetsRow : OpenClaim := { program := "ytolnagbahceebaagreat", sum := "8791f804c5bbd97e07d32500e78dbd475288d99704df737a051a6a430368e313", func := "vigil/vigillaw16.ChannelMeets", spec := "channelMeets", inPlace := ["internal/bytealg.MakeNoZero"], unfollowed := true, recurses := true, plainKeys := false, apart := false }
def ChannelMeetsSaid : Prop := channelMeetsRow.holds Tryz.pinned (OpenSpec.ofChange channelMeetsSpec)

/-- ITS FALSE NEIGHBOUR: 'it returns false'. Refute it at one input. -/
def channelMeetsWrong : ChangeSpec := { name := "channelMeets", fn := fun _ => fun
  | [d1, d2, d3] => { results := [.lit (.bool false)], args := [d1, d2, d3] }
  | _ => none }
def ChannelMeetsWrongFalsely : Prop := channelMeetsRow.holds Tryz.pinned (OpenSpec.ofChange channelMeetsWrong)

/-- 'vigillaw18.JoinPlays': WHATEVER THE INPUT: true; the input reads as it did. -/
def joinPlaysSpec : ChangeSpec := { name := "joinPlays", fn := fun _ => fun
  | [d1, d2, d3, d4] => { results := [.lit (.bool true)], args := [d1, d2, d3, d4] }
  | _ => none }
def joinPlaysRow : OpenClaim := { program := "ytolnagbahceebaagreat", sum := "8791f804c5bbd97e07d32500e78dbd475288d99704df737a051a6a430368e313", func := "vigil/vigillaw18.JoinPlays", spec := "joinPlays", inPlace := ["internal/bytealg.MakeNoZero"], unfollowed := true, recurses := true, plainKeys := false, apart := false }
def JoinPlaysSaid : Prop := joinPlaysRow.holds Tryz.pinned (OpenSpec.ofChange joinPlaysSpec)

/-- ITS FALSE NEIGHBOUR: 'it returns false'. Refute it at one input. -/
def joinPlaysWrong : ChangeSpec := { name := "joinPlays", fn := fun _ => fun
  | [d1, d2, d3, d4] => { results := [.lit (.bool false)], args := [d1, d2, d3, d4] }
  | _ => none }
def JoinPlaysWrongFalsely : Prop := joinPlaysRow.holds Tryz.pinned (OpenSpec.ofChange joinPlaysWrong)

/- THE SECOND FORM. 'bulk': how many values and letters a reading holds, each counted each time it is reached (what is shared counts as often as it is met; a slice's spare places count too). A statement '..UptoSaid' is the law's where the arguments, and the package variables that the reading takes, are together of bulk at most 1048576: NARROWER than '..Said'. Prove '..Said' where nothing that the law and all that it calls make is longer than what came in: it says more and counts as full. Else prove '..UptoSaid'. A law counts once. -/
mutual
def uptoBulk {H : Type} : DataW H → Nat
  | .lit (.string bytes) => bytes.length + 1
  | .lit _ => 1
  | .nil => 1
  | .ptr d => uptoBulk d + 1
  | .slice elems spare => uptoBulkAll elems + uptoBulkAll spare + 1
  | .agg parts => uptoBulkAll parts + 1
  | .iface _ d => uptoBulk d + 1
  | .map entries => uptoBulkEntries entries + 1
  | .held _ => 1
def uptoBulkAll {H : Type} : List (DataW H) → Nat
  | [] => 0
  | d :: r => uptoBulk d + uptoBulkAll r
def uptoBulkEntries {H : Type} : List (Lit × DataW H) → Nat
  | [] => 0
  | x :: r => uptoBulkEntry x + uptoBulkEntries r
def uptoBulkEntry {H : Type} : Lit × DataW H → Nat
  | (.string bytes, d) => bytes.length + uptoBulk d + 1
  | (_, d) => uptoBulk d + 1
 end
def uptoSmall : (H : Type) → List (DataW H) → Bool := fun _ ds => decide (uptoBulkAll ds ≤ 1048576)
def OpenSpec.upto (s : _root_.Go.ChangeSpec) : _root_.Go.OpenSpec := { _root_.Go.OpenSpec.ofChange s with cond := some uptoSmall }

/-- 'vigillaw17.FreshNil', WHERE WHAT IT READS IS OF BULK AT MOST 1048576: true; the input reads as it did. -/
def freshNilUptoRow : OpenClaim := { program := "ytolnagbahceebaagreat", sum := "8791f804c5bbd97e07d32500e78dbd475288d99704df737a051a6a430368e313", func := "vigil/vigillaw17.FreshNil", spec := "freshNil", unfollowed := true, recurses := true, plainKeys := false, apart := false, narrowed := true }
def FreshNilUptoSaid : Prop := freshNilUptoRow.holds Tryz.pinned (OpenSpec.upto freshNilSpec)

/-- 'vigillaw17.FreshPlays', WHERE WHAT IT READS IS OF BULK AT MOST 1048576: true; the input reads as it did. -/
def freshPlaysUptoRow : OpenClaim := { program := "ytolnagbahceebaagreat", sum := "8791f804c5bbd97e07d32500e78dbd475288d99704df737a051a6a430368e313", func := "vigil/vigillaw17.FreshPlays", spec := "freshPlays", unfollowed := true, recurses := true, plainKeys := false, apart := false, narrowed := true }
def FreshPlaysUptoSaid : Prop := freshPlaysUptoRow.holds Tryz.pinned (OpenSpec.upto freshPlaysSpec)

/-- 'vigillaw17.FreshHolds', WHERE WHAT IT READS IS OF BULK AT MOST 1048576: true; the input reads as it did. -/
def freshHoldsUptoRow : OpenClaim := { program := "ytolnagbahceebaagreat", sum := "8791f804c5bbd97e07d32500e78dbd475288d99704df737a051a6a430368e313", func := "vigil/vigillaw17.FreshHolds", spec := "freshHolds", unfollowed := true, recurses := true, plainKeys := false, apart := false, narrowed := true }
def FreshHoldsUptoSaid : Prop := freshHoldsUptoRow.holds Tryz.pinned (OpenSpec.upto freshHoldsSpec)

/-- 'vigillaw16.ChannelMeets', WHERE WHAT IT READS IS OF BULK AT MOST 1048576: true; the input reads as it did. -/
def channelMeetsUptoRow : OpenClaim := { program := "ytolnagbahceebaagreat", sum := "8791f804c5bbd97e07d32500e78dbd475288d99704df737a051a6a430368e313", func := "vigil/vigillaw16.ChannelMeets", spec := "channelMeets", inPlace := ["internal/bytealg.MakeNoZero"], unfollowed := true, recurses := true, plainKeys := false, apart := false, narrowed := true }
def ChannelMeetsUptoSaid : Prop := channelMeetsUptoRow.holds Tryz.pinned (OpenSpec.upto channelMeetsSpec)

/-- 'vigillaw18.JoinPlays', WHERE WHAT IT READS IS OF BULK AT MOST 1048576: true; the input reads as it did. -/
def joinPlaysUptoRow : OpenClaim := { program := "ytolnagbahceebaagreat", sum := "8791f804c5bbd97e07d32500e78dbd475288d99704df737a051a6a430368e313", func := "vigil/vigillaw18.JoinPlays", spec := "joinPlays", inPlace := ["internal/bytealg.MakeNoZero"], unfollowed := true, recurses := true, plainKeys := false, apart := false, narrowed := true }
def JoinPlaysUptoSaid : Prop := joinPlaysUptoRow.holds Tryz.pinned (OpenSpec.upto joinPlaysSpec)

end Rows
end Go.Proofs.YtolnagbahceebaaGreat
