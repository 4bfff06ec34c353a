/-
  No cell of these rows narrows 'for every input' (looked for: loops, veiled, ifaces, maps, wideKeys, modest, calm, conditions, laid).
  DERIVED. THE GIVEN ROWS OF THIS SEAT. 8 by the template 'for every input the law returns true; each argument reads behind the call as it read before'; 0 by the template 'total and deterministic' (their statements: YtdoljkafkpgkbaaTotals.lean).
  GIVEN WITH THE SEED: the statements are not yours to turn. If you find one false, say at which input.
  Laid BY PROGRAM, IN A SANDBOX (cutbox-rows.mjs): the forced cells as the released guide's own fill.sh prints them over the translation 2ed6055485a374d7… (all of the seat's roots in one cut). By AI agents, Wed Nov 11 2026. No macro, syntax, notation, axiom, sorry.
-/
import Derived.Test.YtdoljkafkpgkbaaChecked
import GoSem.Claim
import GoSem.ClaimJoined
import GoSem.ClaimMapViews
import Derived.JoinedTies
import Derived.KernelRfl
namespace Go.Proofs.Ytdoljkafkpgkbaa
/- THE CELL 'sum', in the pinned program and in every row, IS THE sha256 OF THE DUMP (.gsa) THAT YtdoljkafkpgkbaaProg.lean LOADS. Nothing in Lean hashes anything: it is a label: what it is worth is what the hold of that sum in a sandbox is worth. -/
noncomputable def Try.pinned : Pinned := { name := "ytdoljkafkpgkbaa", sum := "2ed6055485a374d7f94104bd1d729650f7a186c5b4a80004f453217ba6556b29", checked := Try.checked }
namespace Rows
def none {H : Type} : Left H := { results := [], args := [] }

/-- 'vigillaw19.MemberMerges': WHATEVER THE INPUT: true; the input reads as it did. -/
def memberMergesSpec : ChangeSpec := { name := "memberMerges", fn := fun _ => fun
  | [d1, d2] => { results := [.lit (.bool true)], args := [d1, d2] }
  | _ => none }
def memberMergesRow : OpenClaim := { program := "ytdoljkafkpgkbaa", sum := "2ed6055485a374d7f94104bd1d729650f7a186c5b4a80004f453217ba6556b29", func := "vigil/vigillaw19.MemberMerges", spec := "memberMerges", unfollowed := true, recurses := true, plainKeys := false, apart := false }
def MemberMergesSaid : Prop := memberMergesRow.holds Try.pinned (OpenSpec.ofChange memberMergesSpec)

/-- ITS FALSE NEIGHBOUR: 'it returns false'. Refute it at one input. -/
def memberMergesWrong : ChangeSpec := { name := "memberMerges", fn := fun _ => fun
  | [d1, d2] => { results := [.lit (.bool false)], args := [d1, d2] }
  | _ => none }
def MemberMergesWrongFalsely : Prop := memberMergesRow.holds Try.pinned (OpenSpec.ofChange memberMergesWrong)

/-- 'vigillaw19.MemberCounts': WHATEVER THE INPUT: true; the input reads as it did. -/
def memberCountsSpec : ChangeSpec := { name := "memberCounts", fn := fun _ => fun
  | [d1, d2] => { results := [.lit (.bool true)], args := [d1, d2] }
  | _ => none }
def memberCountsRow : OpenClaim := { program := "ytdoljkafkpgkbaa", sum := "2ed6055485a374d7f94104bd1d729650f7a186c5b4a80004f453217ba6556b29", func := "vigil/vigillaw19.MemberCounts", spec := "memberCounts", unfollowed := true, recurses := true, plainKeys := false, apart := false }
def MemberCountsSaid : Prop := memberCountsRow.holds Try.pinned (OpenSpec.ofChange memberCountsSpec)

/-- ITS FALSE NEIGHBOUR: 'it returns false'. Refute it at one input. -/
def memberCountsWrong : ChangeSpec := { name := "memberCounts", fn := fun _ => fun
  | [d1, d2] => { results := [.lit (.bool false)], args := [d1, d2] }
  | _ => none }
def MemberCountsWrongFalsely : Prop := memberCountsRow.holds Try.pinned (OpenSpec.ofChange memberCountsWrong)

/-- 'vigillaw19.MemberWords': WHATEVER THE INPUT: true; the input reads as it did. -/
def memberWordsSpec : ChangeSpec := { name := "memberWords", fn := fun _ => fun
  | [d] => { results := [.lit (.bool true)], args := [d] }
  | _ => none }
def memberWordsRow : OpenClaim := { program := "ytdoljkafkpgkbaa", sum := "2ed6055485a374d7f94104bd1d729650f7a186c5b4a80004f453217ba6556b29", func := "vigil/vigillaw19.MemberWords", spec := "memberWords", unfollowed := true, recurses := true, plainKeys := false, apart := false }
def MemberWordsSaid : Prop := memberWordsRow.holds Try.pinned (OpenSpec.ofChange memberWordsSpec)

/-- ITS FALSE NEIGHBOUR: 'it returns false'. Refute it at one input. -/
def memberWordsWrong : ChangeSpec := { name := "memberWords", fn := fun _ => fun
  | [d] => { results := [.lit (.bool false)], args := [d] }
  | _ => none }
def MemberWordsWrongFalsely : Prop := memberWordsRow.holds Try.pinned (OpenSpec.ofChange memberWordsWrong)

/-- 'vigillaw19.MemberAnswers': WHATEVER THE INPUT: true; the input reads as it did. -/
def memberAnswersSpec : ChangeSpec := { name := "memberAnswers", fn := fun _ => fun
  | [d1, d2, d3] => { results := [.lit (.bool true)], args := [d1, d2, d3] }
  | _ => none }
def memberAnswersRow : OpenClaim := { program := "ytdoljkafkpgkbaa", sum := "2ed6055485a374d7f94104bd1d729650f7a186c5b4a80004f453217ba6556b29", func := "vigil/vigillaw19.MemberAnswers", spec := "memberAnswers", unfollowed := true, recurses := true, plainKeys := false, apart := false }
def MemberAnswersSaid : Prop := memberAnswersRow.holds Try.pinned (OpenSpec.ofChange memberAnswersSpec)

/-- ITS FALSE NEIGHBOUR: 'it returns false'. Refute it at one input. -/
def memberAnswersWrong : ChangeSpec := { name := "memberAnswers", fn := fun _ => fun
  | [d1, d2, d3] => { results := [.lit (.bool false)], args := [d1, d2, d3] }
  | _ => none }
def MemberAnswersWrongFalsely : Prop := memberAnswersRow.holds Try.pinned (OpenSpec.ofChange memberAnswersWrong)

/-- 'vigillaw23.QueueOrder': WHATEVER THE INPUT: true; the input reads as it did. -/
def queueOrderSpec : ChangeSpec := { name := "queueOrder", fn := fun _ => fun
  | [d1, d2] => { results := [.lit (.bool true)], args := [d1, d2] }
  | _ => none }
def queueOrderRow : OpenClaim := { program := "ytdoljkafkpgkbaa", sum := "2ed6055485a374d7f94104bd1d729650f7a186c5b4a80004f453217ba6556b29", func := "vigil/vigillaw23.QueueOrder", spec := "queueOrder", unfollowed := true, recurses := true, plainKeys := false, apart := false }
def QueueOrderSaid : Prop := queueOrderRow.holds Try.pinned (OpenSpec.ofChange queueOrderSpec)

/-- ITS FALSE NEIGHBOUR: 'it returns false'. Refute it at one input. -/
def queueOrderWrong : ChangeSpec := { name := "queueOrder", fn := fun _ => fun
  | [d1, d2] => { results := [.lit (.bool false)], args := [d1, d2] }
  | _ => none }
def QueueOrderWrongFalsely : Prop := queueOrderRow.holds Try.pinned (OpenSpec.ofChange queueOrderWrong)

/-- 'vigillaw23.QueueTells': WHATEVER THE INPUT: true; the input reads as it did. -/
def queueTellsSpec : ChangeSpec := { name := "queueTells", fn := fun _ => fun
  | [d1, d2, d3] => { results := [.lit (.bool true)], args := [d1, d2, d3] }
  | _ => none }
def queueTellsRow : OpenClaim := { program := "ytdoljkafkpgkbaa", sum := "2ed6055485a374d7f94104bd1d729650f7a186c5b4a80004f453217ba6556b29", func := "vigil/vigillaw23.QueueTells", spec := "queueTells", unfollowed := true, recurses := true, plainKeys := false, apart := false }
def QueueTellsSaid : Prop := queueTellsRow.holds Try.pinned (OpenSpec.ofChange queueTellsSpec)

/-- ITS FALSE NEIGHBOUR: 'it returns false'. Refute it at one input. -/
def queueTellsWrong : ChangeSpec := { name := "queueTells", fn := fun _ => fun
  | [d1, d2, d3] => { results := [.lit (.bool false)], args := [d1, d2, d3] }
  | _ => none }
def QueueTellsWrongFalsely : Prop := queueTellsRow.holds Try.pinned (OpenSpec.ofChange queueTellsWrong)

/-- 'vigillaw23.QueuePlays': WHATEVER THE INPUT: true; the input reads as it did. -/
def queuePlaysSpec : ChangeSpec := { name := "queuePlays", fn := fun _ => fun
  | [d1, d2] => { results := [.lit (.bool true)], args := [d1, d2] }
  | _ => none }
def queuePlaysRow : OpenClaim := { program := "ytdoljkafkpgkbaa", sum := "2ed6055485a374d7f94104bd1d729650f7a186c5b4a80004f453217ba6556b29", func := "vigil/vigillaw23.QueuePlays", spec := "queuePlays", unfollowed := true, recurses := true, plainKeys := false, apart := false }
def QueuePlaysSaid : Prop := queuePlaysRow.holds Try.pinned (OpenSpec.ofChange queuePlaysSpec)

/-- ITS FALSE NEIGHBOUR: 'it returns false'. Refute it at one input. -/
def queuePlaysWrong : ChangeSpec := { name := "queuePlays", fn := fun _ => fun
  | [d1, d2] => { results := [.lit (.bool false)], args := [d1, d2] }
  | _ => none }
def QueuePlaysWrongFalsely : Prop := queuePlaysRow.holds Try.pinned (OpenSpec.ofChange queuePlaysWrong)

/-- 'vigillaw23.QueueNil': WHATEVER THE INPUT: true; the input reads as it did. -/
def queueNilSpec : ChangeSpec := { name := "queueNil", fn := fun _ => fun
  | [d1, d2] => { results := [.lit (.bool true)], args := [d1, d2] }
  | _ => none }
def queueNilRow : OpenClaim := { program := "ytdoljkafkpgkbaa", sum := "2ed6055485a374d7f94104bd1d729650f7a186c5b4a80004f453217ba6556b29", func := "vigil/vigillaw23.QueueNil", spec := "queueNil", unfollowed := true, recurses := true, plainKeys := false, apart := false }
def QueueNilSaid : Prop := queueNilRow.holds Try.pinned (OpenSpec.ofChange queueNilSpec)

/-- ITS FALSE NEIGHBOUR: 'it returns false'. Refute it at one input. -/
def queueNilWrong : ChangeSpec := { name := "queueNil", fn := fun _ => fun
  | [d1, d2] => { results := [.lit (.bool false)], args := [d1, d2] }
  | _ => none }
def QueueNilWrongFalsely : Prop := queueNilRow.holds Try.pinned (OpenSpec.ofChange queueNilWrong)

/- THE SECOND FORM. 'bulk': how many values and letters a reading holds, each counted each time it is reached (what is shared counts as often as it is met; a slice's spare places count too). A statement '..UptoSaid' is the law's where the arguments, and the package variables that the reading takes, are together of bulk at most 1048576: NARROWER than '..Said'. Prove '..Said' where nothing that the law and all that it calls make is longer than what came in: it says more and counts as full. Else prove '..UptoSaid'. A law counts once. -/
mutual
def uptoBulk {H : Type} : DataW H → Nat
  | .lit (.string bytes) => bytes.length + 1
  | .lit _ => 1
  | .nil => 1
  | .ptr d => uptoBulk d + 1
  | .slice elems spare => uptoBulkAll elems + uptoBulkAll spare + 1
  | .agg parts => uptoBulkAll parts + 1
  | .iface _ d => uptoBulk d + 1
  | .map entries => uptoBulkEntries entries + 1
  | .held _ => 1
def uptoBulkAll {H : Type} : List (DataW H) → Nat
  | [] => 0
  | d :: r => uptoBulk d + uptoBulkAll r
def uptoBulkEntries {H : Type} : List (Lit × DataW H) → Nat
  | [] => 0
  | x :: r => uptoBulkEntry x + uptoBulkEntries r
def uptoBulkEntry {H : Type} : Lit × DataW H → Nat
  | (.string bytes, d) => bytes.length + uptoBulk d + 1
  | (_, d) => uptoBulk d + 1
 end
def uptoSmall : (H : Type) → List (DataW H) → Bool := fun _ ds => decide (uptoBulkAll ds ≤ 1048576)
def OpenSpec.upto (s : _root_.Go.ChangeSpec) : _root_.Go.OpenSpec := { _root_.Go.OpenSpec.ofChange s with cond := some uptoSmall }

/-- 'vigillaw19.MemberMerges', WHERE WHAT IT READS IS OF BULK AT MOST 1048576: true; the input reads as it did. -/
def memberMergesUptoRow : OpenClaim := { program := "ytdoljkafkpgkbaa", sum := "2ed6055485a374d7f94104bd1d729650f7a186c5b4a80004f453217ba6556b29", func := "vigil/vigillaw19.MemberMerges", spec := "memberMerges", unfollowed := true, recurses := true, plainKeys := false, apart := false, narrowed := true }
def MemberMergesUptoSaid : Prop := memberMergesUptoRow.holds Try.pinned (OpenSpec.upto memberMergesSpec)

/-- 'vigillaw19.MemberCounts', WHERE WHAT IT READS IS OF BULK AT MOST 1048576: true; the input reads as it did. -/
def memberCountsUptoRow : OpenClaim := { program := "ytdoljkafkpgkbaa", sum := "2ed6055485a374d7f94104bd1d729650f7a186c5b4a80004f453217ba6556b29", func := "vigil/vigillaw19.MemberCounts", spec := "memberCounts", unfollowed := true, recurses := true, plainKeys := false, apart := false, narrowed := true }
def MemberCountsUptoSaid : Prop := memberCountsUptoRow.holds Try.pinned (OpenSpec.upto memberCountsSpec)

/-- 'vigillaw19.MemberWords', WHERE WHAT IT READS IS OF BULK AT MOST 1048576: true; the input reads as it did. -/
def memberWordsUptoRow : OpenClaim := { program := "ytdoljkafkpgkbaa", sum := "2ed6055485a374d7f94104bd1d729650f7a186c5b4a80004f453217ba6556b29", func := "vigil/vigillaw19.MemberWords", spec := "memberWords", unfollowed := true, recurses := true, plainKeys := false, apart := false, narrowed := true }
def MemberWordsUptoSaid : Prop := memberWordsUptoRow.holds Try.pinned (OpenSpec.upto memberWordsSpec)

/-- 'vigillaw19.MemberAnswers', WHERE WHAT IT READS IS OF BULK AT MOST 1048576: true; the input reads as it did. -/
def memberAnswersUptoRow : OpenClaim := { program := "ytdoljkafkpgkbaa", sum := "2ed6055485a374d7f94104bd1d729650f7a186c5b4a80004f453217ba6556b29", func := "vigil/vigillaw19.MemberAnswers", spec := "memberAnswers", unfollowed := true, recurses := true, plainKeys := false, apart := false, narrowed := true }
def MemberAnswersUptoSaid : Prop := memberAnswersUptoRow.holds Try.pinned (OpenSpec.upto memberAnswersSpec)

/-- 'vigillaw23.QueueOrder', WHERE WHAT IT READS IS OF BULK AT MOST 1048576: true; the input reads as it did. -/
def queueOrderUptoRow : OpenClaim := { program := "ytdoljkafkpgkbaa", sum := "2ed6055485a374d7f94104bd1d729650f7a186c5b4a80004f453217ba6556b29", func := "vigil/vigillaw23.QueueOrder", spec := "queueOrder", unfollowed := true, recurses := true, plainKeys := false, apart := false, narrowed := true }
def QueueOrderUptoSaid : Prop := queueOrderUptoRow.holds Try.pinned (OpenSpec.upto queueOrderSpec)

/-- 'vigillaw23.QueueTells', WHERE WHAT IT READS IS OF BULK AT MOST 1048576: true; the input reads as it did. -/
def queueTellsUptoRow : OpenClaim := { program := "ytdoljkafkpgkbaa", sum := "2ed6055485a374d7f94104bd1d729650f7a186c5b4a80004f453217ba6556b29", func := "vigil/vigillaw23.QueueTells", spec := "queueTells", unfollowed := true, recurses := true, plainKeys := false, apart := false, narrowed := true }
def QueueTellsUptoSaid : Prop := queueTellsUptoRow.holds Try.pinned (OpenSpec.upto queueTellsSpec)

/-- 'vigillaw23.QueuePlays', WHERE WHAT IT READS IS OF BULK AT MOST 1048576: true; the input reads as it did. -/
def queuePlaysUptoRow : OpenClaim := { program := "ytdoljkafkpgkbaa", sum := "2ed6055485a374d7f94104bd1d729650f7a186c5b4a80004f453217ba6556b29", func := "vigil/vigillaw23.QueuePlays", spec := "queuePlays", unfollowed := true, recurses := true, plainKeys := false, apart := false, narrowed := true }
def QueuePlaysUptoSaid : Prop := queuePlaysUptoRow.holds Try.pinned (OpenSpec.upto queuePlaysSpec)

/-- 'vigillaw23.QueueNil', WHERE WHAT IT READS IS OF BULK AT MOST 1048576: true; the input reads as it did. -/
def queueNilUptoRow : OpenClaim := { program := "ytdoljkafkpgkbaa", sum := "2ed6055485a374d7f94104bd1d729650f7a186c5b4a80004f453217ba6556b29", func := "vigil/vigillaw23.QueueNil", spec := "queueNil", unfollowed := true, recurses := true, plainKeys := false, apart := false, narrowed := true }
def QueueNilUptoSaid : Prop := queueNilUptoRow.holds Try.pinned (OpenSpec.upto queueNilSpec)

end Rows
end Go.Proofs.Ytdoljkafkpgkbaa
