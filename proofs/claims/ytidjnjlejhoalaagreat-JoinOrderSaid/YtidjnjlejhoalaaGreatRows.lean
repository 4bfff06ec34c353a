/-
  No cell of these rows narrows 'for every input' (looked for: loops, veiled, ifaces, maps, wideKeys, modest, calm, conditions, laid).
  DERIVED. THE GIVEN ROWS OF THIS SEAT. 10 by the template 'for every input the law returns true; each argument reads behind the call as it read before'; 0 by the template 'total and deterministic' (their statements: YtidjnjlejhoalaaGreatTotals.lean).
  GIVEN WITH THE SEED: the statements are not yours to turn. If you find one false, say at which input.
  Laid BY PROGRAM, IN A SANDBOX (cutbox-rows.mjs): the forced cells as the released guide's own fill.sh prints them over the translation 503b0a707af820dd… (all of the seat's roots in one cut). By AI agents, Wed Nov 11 2026. No macro, syntax, notation, axiom, sorry.
-/
import Derived.Test.YtidjnjlejhoalaaGreatChecked
import GoSem.Claim
import GoSem.ClaimJoined
import GoSem.ClaimMapViews
import Derived.JoinedTies
import Derived.KernelRfl
namespace Go.Proofs.YtidjnjlejhoalaaGreat
/- THE CELL 'sum', in the pinned program and in every row, IS THE sha256 OF THE DUMP (.gsa) THAT YtidjnjlejhoalaaGreatProg.lean LOADS. Nothing in Lean hashes anything: it is a label: what it is worth is what the hold of that sum in a sandbox is worth. -/
noncomputable def Tryz.pinned : Pinned := { name := "ytidjnjlejhoalaagreat", sum := "503b0a707af820ddaab20a86fe3096df9a26ce10c4a5aa729f9a130149e00a52", checked := Tryz.checked }
namespace Rows
def none {H : Type} : Left H := { results := [], args := [] }

/-- 'vigillaw16.ChannelGrants': WHATEVER THE INPUT: true; the input reads as it did. -/
def channelGrantsSpec : ChangeSpec := { name := "channelGrants", fn := fun _ => fun
  | [d1, d2, d3, d4, d5] => { results := [.lit (.bool true)], args := [d1, d2, d3, d4, d5] }
  | _ => none }
def channelGrantsRow : OpenClaim := { program := "ytidjnjlejhoalaagreat", sum := "503b0a707af820ddaab20a86fe3096df9a26ce10c4a5aa729f9a130149e00a52", func := "vigil/vigillaw16.ChannelGrants", spec := "channelGrants", inPlace := ["internal/bytealg.MakeNoZero"], unfollowed := true, recurses := true, plainKeys := false, apart := false }
def ChannelGrantsSaid : Prop := channelGrantsRow.holds Tryz.pinned (OpenSpec.ofChange channelGrantsSpec)

/-- ITS FALSE NEIGHBOUR: 'it returns false'. Refute it at one input. -/
def channelGrantsWrong : ChangeSpec := { name := "channelGrants", fn := fun _ => fun
  | [d1, d2, d3, d4, d5] => { results := [.lit (.bool false)], args := [d1, d2, d3, d4, d5] }
  | _ => none }
def ChannelGrantsWrongFalsely : Prop := channelGrantsRow.holds Tryz.pinned (OpenSpec.ofChange channelGrantsWrong)

/-- 'vigillaw17.FreshNil': WHATEVER THE INPUT: true; the input reads as it did. -/
def freshNilSpec : ChangeSpec := { name := "freshNil", fn := fun _ => fun
  | [d1, d2, d3] => { results := [.lit (.bool true)], args := [d1, d2, d3] }
  | _ => none }
def freshNilRow : OpenClaim := { program := "ytidjnjlejhoalaagreat", sum := "503b0a707af820ddaab20a86fe3096df9a26ce10c4a5aa729f9a130149e00a52", func := "vigil/vigillaw17.FreshNil", spec := "freshNil", unfollowed := true, recurses := true, plainKeys := false, apart := false }
def FreshNilSaid : Prop := freshNilRow.holds Tryz.pinned (OpenSpec.ofChange freshNilSpec)

/-- ITS FALSE NEIGHBOUR: 'it returns false'. Refute it at one input. -/
def freshNilWrong : ChangeSpec := { name := "freshNil", fn := fun _ => fun
  | [d1, d2, d3] => { results := [.lit (.bool false)], args := [d1, d2, d3] }
  | _ => none }
def FreshNilWrongFalsely : Prop := freshNilRow.holds Tryz.pinned (OpenSpec.ofChange freshNilWrong)

/-- 'vigillaw17.FreshPlays': WHATEVER THE INPUT: true; the input reads as it did. -/
def freshPlaysSpec : ChangeSpec := { name := "freshPlays", fn := fun _ => fun
  | [d1, d2, d3, d4] => { results := [.lit (.bool true)], args := [d1, d2, d3, d4] }
  | _ => none }
def freshPlaysRow : OpenClaim := { program := "ytidjnjlejhoalaagreat", sum := "503b0a707af820ddaab20a86fe3096df9a26ce10c4a5aa729f9a130149e00a52", func := "vigil/vigillaw17.FreshPlays", spec := "freshPlays", unfollowed := true, recurses := true, plainKeys := false, apart := false }
def FreshPlaysSaid : Prop := freshPlaysRow.holds Tryz.pinned (OpenSpec.ofChange freshPlaysSpec)

/-- ITS FALSE NEIGHBOUR: 'it returns false'. Refute it at one input. -/
def freshPlaysWrong : ChangeSpec := { name := "freshPlays", fn := fun _ => fun
  | [d1, d2, d3, d4] => { results := [.lit (.bool false)], args := [d1, d2, d3, d4] }
  | _ => none }
def FreshPlaysWrongFalsely : Prop := freshPlaysRow.holds Tryz.pinned (OpenSpec.ofChange freshPlaysWrong)

/-- 'vigillaw18.JoinPeople': WHATEVER THE INPUT: true; the input reads as it did. -/
def joinPeopleSpec : ChangeSpec := { name := "joinPeople", fn := fun _ => fun
  | [d1, d2] => { results := [.lit (.bool true)], args := [d1, d2] }
  | _ => none }
def joinPeopleRow : OpenClaim := { program := "ytidjnjlejhoalaagreat", sum := "503b0a707af820ddaab20a86fe3096df9a26ce10c4a5aa729f9a130149e00a52", func := "vigil/vigillaw18.JoinPeople", spec := "joinPeople", inPlace := ["internal/bytealg.MakeNoZero"], unfollowed := true, recurses := true, plainKeys := false, apart := false }
def JoinPeopleSaid : Prop := joinPeopleRow.holds Tryz.pinned (OpenSpec.ofChange joinPeopleSpec)

/-- ITS FALSE NEIGHBOUR: 'it returns false'. Refute it at one input. -/
def joinPeopleWrong : ChangeSpec := { name := "joinPeople", fn := fun _ => fun
  | [d1, d2] => { results := [.lit (.bool false)], args := [d1, d2] }
  | _ => none }
def JoinPeopleWrongFalsely : Prop := joinPeopleRow.holds Tryz.pinned (OpenSpec.ofChange joinPeopleWrong)

/-- 'vigillaw17.FreshHolds': WHATEVER THE INPUT: true; the input reads as it did. -/
def freshHoldsSpec : ChangeSpec := { name := "freshHolds", fn := fun _ => fun
  | [d] => { results := [.lit (.bool true)], args := [d] }
  | _ => none }
def freshHoldsRow : OpenClaim := { program := "ytidjnjlejhoalaagreat", sum := "503b0a707af820ddaab20a86fe3096df9a26ce10c4a5aa729f9a130149e00a52", func := "vigil/vigillaw17.FreshHolds", spec := "freshHolds", unfollowed := true, recurses := true, plainKeys := false, apart := false }
def FreshHoldsSaid : Prop := freshHoldsRow.holds Tryz.pinned (OpenSpec.ofChange freshHoldsSpec)

/-- ITS FALSE NEIGHBOUR: 'it returns false'. Refute it at one input. -/
def freshHoldsWrong : ChangeSpec := { name := "freshHolds", fn := fun _ => fun
  | [d] => { results := [.lit (.bool false)], args := [d] }
  | _ => none }
def FreshHoldsWrongFalsely : Prop := freshHoldsRow.holds Tryz.pinned (OpenSpec.ofChange freshHoldsWrong)

/-- 'vigillaw16.ChannelWrites': WHATEVER THE INPUT: true; the input reads as it did. -/
def channelWritesSpec : ChangeSpec := { name := "channelWrites", fn := fun _ => fun
  | [d1, d2, d3, d4] => { results := [.lit (.bool true)], args := [d1, d2, d3, d4] }
  | _ => none }
def channelWritesRow : OpenClaim := { program := "ytidjnjlejhoalaagreat", sum := "503b0a707af820ddaab20a86fe3096df9a26ce10c4a5aa729f9a130149e00a52", func := "vigil/vigillaw16.ChannelWrites", spec := "channelWrites", inPlace := ["internal/bytealg.MakeNoZero"], unfollowed := true, recurses := true, plainKeys := false, apart := false }
def ChannelWritesSaid : Prop := channelWritesRow.holds Tryz.pinned (OpenSpec.ofChange channelWritesSpec)

/-- ITS FALSE NEIGHBOUR: 'it returns false'. Refute it at one input. -/
def channelWritesWrong : ChangeSpec := { name := "channelWrites", fn := fun _ => fun
  | [d1, d2, d3, d4] => { results := [.lit (.bool false)], args := [d1, d2, d3, d4] }
  | _ => none }
def ChannelWritesWrongFalsely : Prop := channelWritesRow.holds Tryz.pinned (OpenSpec.ofChange channelWritesWrong)

/-- 'vigillaw16.ChannelNil': WHATEVER THE INPUT: true; the input reads as it did. -/
def channelNilSpec : ChangeSpec := { name := "channelNil", fn := fun _ => fun
  | [d1, d2, d3] => { results := [.lit (.bool true)], args := [d1, d2, d3] }
  | _ => none }
def channelNilRow : OpenClaim := { program := "ytidjnjlejhoalaagreat", sum := "503b0a707af820ddaab20a86fe3096df9a26ce10c4a5aa729f9a130149e00a52", func := "vigil/vigillaw16.ChannelNil", spec := "channelNil", inPlace := ["internal/bytealg.MakeNoZero"], unfollowed := true, recurses := true, plainKeys := false, apart := false }
def ChannelNilSaid : Prop := channelNilRow.holds Tryz.pinned (OpenSpec.ofChange channelNilSpec)

/-- ITS FALSE NEIGHBOUR: 'it returns false'. Refute it at one input. -/
def channelNilWrong : ChangeSpec := { name := "channelNil", fn := fun _ => fun
  | [d1, d2, d3] => { results := [.lit (.bool false)], args := [d1, d2, d3] }
  | _ => none }
def ChannelNilWrongFalsely : Prop := channelNilRow.holds Tryz.pinned (OpenSpec.ofChange channelNilWrong)

/-- 'vigillaw16.ChannelMeets': WHATEVER THE INPUT: true; the input reads as it did. -/
def channelMeetsSpec : ChangeSpec := { name := "channelMeets", fn := fun _ => fun
  | [d1, d2, d3] => { results := [.lit (.bool true)], args := [d1, d2, d3] }
  | _ => none }
def channelMeetsRow : OpenClaim := { program := "ytidjnjlejhoalaagreat", sum := "503b0a707af820ddaab20a86fe3096df9a26ce10c4a5aa729f9a130149e00a52", func := "vigil/vigillaw16.ChannelMeets", spec := "channelMeets", inPlace := ["internal/bytealg.MakeNoZero"], unfollowed := true, recurses := true, plainKeys := false, apart := false }
def ChannelMeetsSaid : Prop := channelMeetsRow.holds Tryz.pinned (OpenSpec.ofChange channelMeetsSpec)

/-- ITS FALSE NEIGHBOUR: 'it returns false'. Refute it at one input. -/
def channelMeetsWrong : ChangeSpec := { name := "channelMeets", fn := fun _ => fun
  | [d1, d2, d3] => { results := [.lit (.bool false)], args := [d1, d2, d3] }
  | _ => none }
def ChannelMeetsWrongFalsely : Prop := channelMeetsRow.holds Tryz.pinned (OpenSpec.ofChange channelMeetsWrong)

/-- 'vigillaw18.JoinPlays': WHATEVER THE INPUT: true; the input reads as it did. -/
def joinPlaysSpec : ChangeSpec := { name := "joinPlays", fn := fun _ => fun
  | [d1, d2, d3, d4] => { results := [.lit (.bool true)], args := [d1, d2, d3, d4] }
  | _ => none }
def joinPlaysRow : OpenClaim := { program := "ytidjnjlejhoalaagreat", sum := "503b0a707af820ddaab20a86fe3096df9a26ce10c4a5aa729f9a130149e00a52", func := "vigil/vigillaw18.JoinPlays", spec := "joinPlays", inPlace := ["internal/bytealg.MakeNoZero"], unfollowed := true, recurses := true, plainKeys := false, apart := false }
def JoinPlaysSaid : Prop := joinPlaysRow.holds Tryz.pinned (OpenSpec.ofChange joinPlaysSpec)

/-- ITS FALSE NEIGHBOUR: 'it returns false'. Refute it at one input. -/
def joinPlaysWrong : ChangeSpec := { name := "joinPlays", fn := fun _ => fun
  | [d1, d2, d3, d4] => { results := [.lit (.bool false)], args := [d1, d2, d3, d4] }
  | _ => none }
def JoinPlaysWrongFalsely : Prop := joinPlaysRow.holds Tryz.pinned (OpenSpec.ofChange joinPlaysWrong)

/-- 'vigillaw18.JoinOrder': WHATEVER THE INPUT: true; the input reads as it did. -/
def joinOrderSpec : ChangeSpec := { name := "joinOrder", fn := fun _ => fun
  | [d1, d2, d3] => { results := [.lit (.bool true)], args := [d1, d2, d3] }
  | _ => none }
def joinOrderRow : OpenClaim := { program := "ytidjnjlejhoalaagreat", sum := "503b0a707af820ddaab20a86fe3096df9a26ce10c4a5aa729f9a130149e00a52", func := "vigil/vigillaw18.JoinOrder", spec := "joinOrder", inPlace := ["internal/bytealg.MakeNoZero"], unfollowed := true, recurses := true, plainKeys := false, apart := false }
def JoinOrderSaid : Prop := joinOrderRow.holds Tryz.pinned (OpenSpec.ofChange joinOrderSpec)

/-- ITS FALSE NEIGHBOUR: 'it returns false'. Refute it at one input. -/
def joinOrderWrong : ChangeSpec := { name := "joinOrder", fn := fun _ => fun
  | [d1, d2, d3] => { results := [.lit (.bool false)], args := [d1, d2, d3] }
  | _ => none }
def JoinOrderWrongFalsely : Prop := joinOrderRow.holds Tryz.pinned (OpenSpec.ofChange joinOrderWrong)

/- THE SECOND FORM. 'bulk': how many values and letters a reading holds, each counted each time it is reached (what is shared counts as often as it is met; a slice's spare places count too). A statement '..UptoSaid' is the law's where the arguments, and the package variables that the reading takes, are together of bulk at most 1048576: NARROWER than '..Said'. Prove '..Said' where nothing that the law and all that it calls make is longer than what came in: it says more and counts as full. Else prove '..UptoSaid'. A law counts once. -/
mutual
def uptoBulk {H : Type} : DataW H → Nat
  | .lit (.string bytes) => bytes.length + 1
  | .lit _ => 1
  | .nil => 1
  | .ptr d => uptoBulk d + 1
  | .slice elems spare => uptoBulkAll elems + uptoBulkAll spare + 1
  | .agg parts => uptoBulkAll parts + 1
  | .iface _ d => uptoBulk d + 1
  | .map entries => uptoBulkEntries entries + 1
  | .held _ => 1
def uptoBulkAll {H : Type} : List (DataW H) → Nat
  | [] => 0
  | d :: r => uptoBulk d + uptoBulkAll r
def uptoBulkEntries {H : Type} : List (Lit × DataW H) → Nat
  | [] => 0
  | x :: r => uptoBulkEntry x + uptoBulkEntries r
def uptoBulkEntry {H : Type} : Lit × DataW H → Nat
  | (.string bytes, d) => bytes.length + uptoBulk d + 1
  | (_, d) => uptoBulk d + 1
 end
def uptoSmall : (H : Type) → List (DataW H) → Bool := fun _ ds => decide (uptoBulkAll ds ≤ 1048576)
def OpenSpec.upto (s : _root_.Go.ChangeSpec) : _root_.Go.OpenSpec := { _root_.Go.OpenSpec.ofChange s with cond := some uptoSmall }

/-- 'vigillaw16.ChannelGrants', WHERE WHAT IT READS IS OF BULK AT MOST 1048576: true; the input reads as it did. -/
def channelGrantsUptoRow : OpenClaim := { program := "ytidjnjlejhoalaagreat", sum := "503b0a707af820ddaab20a86fe3096df9a26ce10c4a5aa729f9a130149e00a52", func := "vigil/vigillaw16.ChannelGrants", spec := "channelGrants", inPlace := ["internal/bytealg.MakeNoZero"], unfollowed := true, recurses := true, plainKeys := false, apart := false, narrowed := true }
def ChannelGrantsUptoSaid : Prop := channelGrantsUptoRow.holds Tryz.pinned (OpenSpec.upto channelGrantsSpec)

/-- 'vigillaw17.FreshNil', WHERE WHAT IT READS IS OF BULK AT MOST 1048576: true; the input reads as it did. -/
def freshNilUptoRow : OpenClaim := { program := "ytidjnjlejhoalaagreat", sum := "503b0a707af820ddaab20a86fe3096df9a26ce10c4a5aa729f9a130149e00a52", func := "vigil/vigillaw17.FreshNil", spec := "freshNil", unfollowed := true, recurses := true, plainKeys := false, apart := false, narrowed := true }
def FreshNilUptoSaid : Prop := freshNilUptoRow.holds Tryz.pinned (OpenSpec.upto freshNilSpec)

/-- 'vigillaw17.FreshPlays', WHERE WHAT IT READS IS OF BULK AT MOST 1048576: true; the input reads as it did. -/
def freshPlaysUptoRow : OpenClaim := { program := "ytidjnjlejhoalaagreat", sum := "503b0a707af820ddaab20a86fe3096df9a26ce10c4a5aa729f9a130149e00a52", func := "vigil/vigillaw17.FreshPlays", spec := "freshPlays", unfollowed := true, recurses := true, plainKeys := false, apart := false, narrowed := true }
def FreshPlaysUptoSaid : Prop := freshPlaysUptoRow.holds Tryz.pinned (OpenSpec.upto freshPlaysSpec)

/-- 'vigillaw18.JoinPeople', WHERE WHAT IT READS IS OF BULK AT MOST 1048576: true; the input reads as it did. -/
def joinPeopleUptoRow : OpenClaim := { program := "ytidjnjlejhoalaagreat", sum := "503b0a707af820ddaab20a86fe3096df9a26ce10c4a5aa729f9a130149e00a52", func := "vigil/vigillaw18.JoinPeople", spec := "joinPeople", inPlace := ["internal/bytealg.MakeNoZero"], unfollowed := true, recurses := true, plainKeys := false, apart := false, narrowed := true }
def JoinPeopleUptoSaid : Prop := joinPeopleUptoRow.holds Tryz.pinned (OpenSpec.upto joinPeopleSpec)

/-- 'vigillaw17.FreshHolds', WHERE WHAT IT READS IS OF BULK AT MOST 1048576: true; the input reads as it did. -/
def freshHoldsUptoRow : OpenClaim := { program := "ytidjnjlejhoalaagreat", sum := "503b0a707af820ddaab20a86fe3096df9a26ce10c4a5aa729f9a130149e00a52", func := "vigil/vigillaw17.FreshHolds", spec := "freshHolds", unfollowed := true, recurses := true, plainKeys := false, apart := false, narrowed := true }
def FreshHoldsUptoSaid : Prop := freshHoldsUptoRow.holds Tryz.pinned (OpenSpec.upto freshHoldsSpec)

/-- 'vigillaw16.ChannelWrites', WHERE WHAT IT READS IS OF BULK AT MOST 1048576: true; the input reads as it did. -/
def channelWritesUptoRow : OpenClaim := { program := "ytidjnjlejhoalaagreat", sum := "503b0a707af820ddaab20a86fe3096df9a26ce10c4a5aa729f9a130149e00a52", func := "vigil/vigillaw16.ChannelWrites", spec := "channelWrites", inPlace := ["internal/bytealg.MakeNoZero"], unfollowed := true, recurses := true, plainKeys := false, apart := false, narrowed := true }
def ChannelWritesUptoSaid : Prop := channelWritesUptoRow.holds Tryz.pinned (OpenSpec.upto channelWritesSpec)

/-- 'vigillaw16.ChannelNil', WHERE WHAT IT READS IS OF BULK AT MOST 1048576: true; the input reads as it did. -/
def channelNilUptoRow : OpenClaim := { program := "ytidjnjlejhoalaagreat", sum := "503b0a707af820ddaab20a86fe3096df9a26ce10c4a5aa729f9a130149e00a52", func := "vigil/vigillaw16.ChannelNil", spec := "channelNil", inPlace := ["internal/bytealg.MakeNoZero"], unfollowed := true, recurses := true, plainKeys := false, apart := false, narrowed := true }
def ChannelNilUptoSaid : Prop := channelNilUptoRow.holds Tryz.pinned (OpenSpec.upto channelNilSpec)

/-- 'vigillaw16.ChannelMeets', WHERE WHAT IT READS IS OF BULK AT MOST 1048576: true; the input reads as it did. -/
def channelMeetsUptoRow : OpenClaim := { program := "ytidjnjlejhoalaagreat", sum := "503b0a707af820ddaab20a86fe3096df9a26ce10c4a5aa729f9a130149e00a52", func := "vigil/vigillaw16.ChannelMeets", spec := "channelMeets", inPlace := ["internal/bytealg.MakeNoZero"], unfollowed := true, recurses := true, plainKeys := false, apart := false, narrowed := true }
def ChannelMeetsUptoSaid : Prop := channelMeetsUptoRow.holds Tryz.pinned (OpenSpec.upto channelMeetsSpec)

/-- 'vigillaw18.JoinPlays', WHERE WHAT IT READS IS OF BULK AT MOST 1048576: true; the input reads as it did. -/
def joinPlaysUptoRow : OpenClaim := { program := "ytidjnjlejhoalaagreat", sum := "503b0a707af820ddaab20a86fe3096df9a26ce10c4a5aa729f9a130149e00a52", func := "vigil/vigillaw18.JoinPlays", spec := "joinPlays", inPlace := ["internal/bytealg.MakeNoZero"], unfollowed := true, recurses := true, plainKeys := false, apart := false, narrowed := true }
def JoinPlaysUptoSaid : Prop := joinPlaysUptoRow.holds Tryz.pinned (OpenSpec.upto joinPlaysSpec)

/-- 'vigillaw18.JoinOrder', WHERE WHAT IT READS IS OF BULK AT MOST 1048576: true; the input reads as it did. -/
def joinOrderUptoRow : OpenClaim := { program := "ytidjnjlejhoalaagreat", sum := "503b0a707af820ddaab20a86fe3096df9a26ce10c4a5aa729f9a130149e00a52", func := "vigil/vigillaw18.JoinOrder", spec := "joinOrder", inPlace := ["internal/bytealg.MakeNoZero"], unfollowed := true, recurses := true, plainKeys := false, apart := false, narrowed := true }
def JoinOrderUptoSaid : Prop := joinOrderUptoRow.holds Tryz.pinned (OpenSpec.upto joinOrderSpec)

end Rows
end Go.Proofs.YtidjnjlejhoalaaGreat
