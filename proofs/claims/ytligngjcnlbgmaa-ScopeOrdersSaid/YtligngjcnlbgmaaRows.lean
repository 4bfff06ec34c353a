/-
  No cell of these rows narrows 'for every input' (looked for: loops, veiled, ifaces, maps, wideKeys, modest, calm, conditions, laid).
  DERIVED. THE GIVEN ROWS OF THIS SEAT. 3 by the template 'for every input the law returns true; each argument reads behind the call as it read before'; 0 by the template 'total and deterministic' (their statements: YtligngjcnlbgmaaTotals.lean).
  GIVEN WITH THE SEED: the statements are not yours to turn. If you find one false, say at which input.
  Laid BY PROGRAM, IN A SANDBOX (cutbox-rows.mjs): the forced cells as the released guide's own fill.sh prints them over the translation 0085c6a00f6b4e04… (all of the seat's roots in one cut). By AI agents, Wed Nov 11 2026. No macro, syntax, notation, axiom, sorry.
-/
import Derived.Test.YtligngjcnlbgmaaChecked
import GoSem.Claim
import GoSem.ClaimJoined
import GoSem.ClaimMapViews
import Derived.JoinedTies
import Derived.KernelRfl
namespace Go.Proofs.Ytligngjcnlbgmaa
/- THE CELL 'sum', in the pinned program and in every row, IS THE sha256 OF THE DUMP (.gsa) THAT YtligngjcnlbgmaaProg.lean LOADS. Nothing in Lean hashes anything: it is a label: what it is worth is what the hold of that sum in a sandbox is worth. -/
noncomputable def Try.pinned : Pinned := { name := "ytligngjcnlbgmaa", sum := "0085c6a00f6b4e04405ea244a805da624606e4c7d882dadad179a8a473304bf5", checked := Try.checked }
namespace Rows
def none {H : Type} : Left H := { results := [], args := [] }

/-- 'vigillaw26.ScopeHides': WHATEVER THE INPUT: true; the input reads as it did. -/
def scopeHidesSpec : ChangeSpec := { name := "scopeHides", fn := fun _ => fun
  | [d1, d2, d3, d4] => { results := [.lit (.bool true)], args := [d1, d2, d3, d4] }
  | _ => none }
def scopeHidesRow : OpenClaim := { program := "ytligngjcnlbgmaa", sum := "0085c6a00f6b4e04405ea244a805da624606e4c7d882dadad179a8a473304bf5", func := "vigil/vigillaw26.ScopeHides", spec := "scopeHides", unfollowed := true, recurses := true, plainKeys := false, apart := false }
def ScopeHidesSaid : Prop := scopeHidesRow.holds Try.pinned (OpenSpec.ofChange scopeHidesSpec)

/-- ITS FALSE NEIGHBOUR: 'it returns false'. Refute it at one input. -/
def scopeHidesWrong : ChangeSpec := { name := "scopeHides", fn := fun _ => fun
  | [d1, d2, d3, d4] => { results := [.lit (.bool false)], args := [d1, d2, d3, d4] }
  | _ => none }
def ScopeHidesWrongFalsely : Prop := scopeHidesRow.holds Try.pinned (OpenSpec.ofChange scopeHidesWrong)

/-- 'vigillaw26.ScopeOrders': WHATEVER THE INPUT: true; the input reads as it did. -/
def scopeOrdersSpec : ChangeSpec := { name := "scopeOrders", fn := fun _ => fun
  | [d1, d2, d3] => { results := [.lit (.bool true)], args := [d1, d2, d3] }
  | _ => none }
def scopeOrdersRow : OpenClaim := { program := "ytligngjcnlbgmaa", sum := "0085c6a00f6b4e04405ea244a805da624606e4c7d882dadad179a8a473304bf5", func := "vigil/vigillaw26.ScopeOrders", spec := "scopeOrders", unfollowed := true, recurses := true, plainKeys := false, apart := false }
def ScopeOrdersSaid : Prop := scopeOrdersRow.holds Try.pinned (OpenSpec.ofChange scopeOrdersSpec)

/-- ITS FALSE NEIGHBOUR: 'it returns false'. Refute it at one input. -/
def scopeOrdersWrong : ChangeSpec := { name := "scopeOrders", fn := fun _ => fun
  | [d1, d2, d3] => { results := [.lit (.bool false)], args := [d1, d2, d3] }
  | _ => none }
def ScopeOrdersWrongFalsely : Prop := scopeOrdersRow.holds Try.pinned (OpenSpec.ofChange scopeOrdersWrong)

/-- 'vigillaw26.ScopeNil': WHATEVER THE INPUT: true; the input reads as it did. -/
def scopeNilSpec : ChangeSpec := { name := "scopeNil", fn := fun _ => fun
  | [d1, d2] => { results := [.lit (.bool true)], args := [d1, d2] }
  | _ => none }
def scopeNilRow : OpenClaim := { program := "ytligngjcnlbgmaa", sum := "0085c6a00f6b4e04405ea244a805da624606e4c7d882dadad179a8a473304bf5", func := "vigil/vigillaw26.ScopeNil", spec := "scopeNil", unfollowed := true, recurses := true, plainKeys := false, apart := false }
def ScopeNilSaid : Prop := scopeNilRow.holds Try.pinned (OpenSpec.ofChange scopeNilSpec)

/-- ITS FALSE NEIGHBOUR: 'it returns false'. Refute it at one input. -/
def scopeNilWrong : ChangeSpec := { name := "scopeNil", fn := fun _ => fun
  | [d1, d2] => { results := [.lit (.bool false)], args := [d1, d2] }
  | _ => none }
def ScopeNilWrongFalsely : Prop := scopeNilRow.holds Try.pinned (OpenSpec.ofChange scopeNilWrong)

/- THE SECOND FORM. 'bulk': how many values and letters a reading holds, each counted each time it is reached (what is shared counts as often as it is met; a slice's spare places count too). A statement '..UptoSaid' is the law's where the arguments, and the package variables that the reading takes, are together of bulk at most 1048576: NARROWER than '..Said'. Prove '..Said' where nothing that the law and all that it calls make is longer than what came in: it says more and counts as full. Else prove '..UptoSaid'. A law counts once. -/
mutual
def uptoBulk {H : Type} : DataW H → Nat
  | .lit (.string bytes) => bytes.length + 1
  | .lit _ => 1
  | .nil => 1
  | .ptr d => uptoBulk d + 1
  | .slice elems spare => uptoBulkAll elems + uptoBulkAll spare + 1
  | .agg parts => uptoBulkAll parts + 1
  | .iface _ d => uptoBulk d + 1
  | .map entries => uptoBulkEntries entries + 1
  | .held _ => 1
def uptoBulkAll {H : Type} : List (DataW H) → Nat
  | [] => 0
  | d :: r => uptoBulk d + uptoBulkAll r
def uptoBulkEntries {H : Type} : List (Lit × DataW H) → Nat
  | [] => 0
  | x :: r => uptoBulkEntry x + uptoBulkEntries r
def uptoBulkEntry {H : Type} : Lit × DataW H → Nat
  | (.string bytes, d) => bytes.length + uptoBulk d + 1
  | (_, d) => uptoBulk d + 1
 end
def uptoSmall : (H : Type) → List (DataW H) → Bool := fun _ ds => decide (uptoBulkAll ds ≤ 1048576)
def OpenSpec.upto (s : _root_.Go.ChangeSpec) : _root_.Go.OpenSpec := { _root_.Go.OpenSpec.ofChange s with cond := some uptoSmall }

/-- 'vigillaw26.ScopeHides', WHERE WHAT IT READS IS OF BULK AT MOST 1048576: true; the input reads as it did. -/
def scopeHidesUptoRow : OpenClaim := { program := "ytligngjcnlbgmaa", sum := "0085c6a00f6b4e04405ea244a805da624606e4c7d882dadad179a8a473304bf5", func := "vigil/vigillaw26.ScopeHides", spec := "scopeHides", unfollowed := true, recurses := true, plainKeys := false, apart := false, narrowed := true }
def ScopeHidesUptoSaid : Prop := scopeHidesUptoRow.holds Try.pinned (OpenSpec.upto scopeHidesSpec)

/-- 'vigillaw26.ScopeOrders', WHERE WHAT IT READS IS OF BULK AT MOST 1048576: true; the input reads as it did. -/
def scopeOrdersUptoRow : OpenClaim := { program := "ytligngjcnlbgmaa", sum := "0085c6a00f6b4e04405ea244a805da624606e4c7d882dadad179a8a473304bf5", func := "vigil/vigillaw26.ScopeOrders", spec := "scopeOrders", unfollowed := true, recurses := true, plainKeys := false, apart := false, narrowed := true }
def ScopeOrdersUptoSaid : Prop := scopeOrdersUptoRow.holds Try.pinned (OpenSpec.upto scopeOrdersSpec)

/-- 'vigillaw26.ScopeNil', WHERE WHAT IT READS IS OF BULK AT MOST 1048576: true; the input reads as it did. -/
def scopeNilUptoRow : OpenClaim := { program := "ytligngjcnlbgmaa", sum := "0085c6a00f6b4e04405ea244a805da624606e4c7d882dadad179a8a473304bf5", func := "vigil/vigillaw26.ScopeNil", spec := "scopeNil", unfollowed := true, recurses := true, plainKeys := false, apart := false, narrowed := true }
def ScopeNilUptoSaid : Prop := scopeNilUptoRow.holds Try.pinned (OpenSpec.upto scopeNilSpec)

end Rows
end Go.Proofs.Ytligngjcnlbgmaa
