/- The statement DeltaMeets: its walk, for any arguments. -/
import Derived.Test.YtligpachgcmkcaaDm4
import Derived.Test.YtligpachgcmkcaaL08x
set_option linter.unusedSimpArgs false
set_option linter.unusedVariables false
namespace Go.Proofs.Ytligpachgcmkcaa
open Go.RowKit Go.Shelf
theorem meets_all (ls cs ds : List Value) (room : Int) (w : World) (hl : ∃ l0 l1 l2 l3, ls = [Pi.w l0, Pi.w l1, Pi.w l2, Pi.w l3] ∧ ∀ z ∈ [l0, l1, l2, l3], RdSl w z.p iV z.xs ∧ z.xs.length ≤ z.cap) (hc : V4 cs) (hd : V4 ds) :
    CallW Try.prog 10 [.agg ⟨ls⟩, .agg ⟨cs⟩, .agg ⟨ds⟩, .int .i64 room] w fun v _ => v = .bool true := by
  obtain ⟨l0, l1, l2, l3, rfl, hl⟩ := hl
  obtain ⟨a0, a1, a2, a3, rfl⟩ := hc
  obtain ⟨b0, b1, b2, b3, rfl⟩ := hd
  exact meets_ok [l0, l1, l2, l3] rfl [a0, a1, a2, a3] [b0, b1, b2, b3] rfl rfl room w hl
end Go.Proofs.Ytligpachgcmkcaa
