/- The statement RevokeMerges: its walk, for any arguments. -/
import Derived.Test.YtligpachgcmkcaaRm2
import Derived.Test.YtligpachgcmkcaaL08x
set_option linter.unusedSimpArgs false
set_option linter.unusedVariables false
namespace Go.Proofs.Ytligpachgcmkcaa
open Go.RowKit Go.Shelf
theorem merges_all (ls cs ds es : List Value) (w : World) (hl : ∃ l0 l1 l2 l3, ls = [Pi.w l0, Pi.w l1, Pi.w l2, Pi.w l3] ∧ ∀ z ∈ [l0, l1, l2, l3], RdSl w z.p iV z.xs ∧ z.xs.length ≤ z.cap) (hc : V4 cs) (hd : V4 ds) (he : V4 es) :
    CallW Try.prog 6 [.agg ⟨ls⟩, .agg ⟨cs⟩, .agg ⟨ds⟩, .agg ⟨es⟩] w fun v _ => v = .bool true := by
  obtain ⟨l0, l1, l2, l3, rfl, hl⟩ := hl
  obtain ⟨a0, a1, a2, a3, rfl⟩ := hc
  obtain ⟨b0, b1, b2, b3, rfl⟩ := hd
  obtain ⟨c0, c1, c2, c3, rfl⟩ := he
  exact merges_ok [l0, l1, l2, l3] rfl [a0, a1, a2, a3] [b0, b1, b2, b3] [c0, c1, c2, c3] rfl rfl rfl w hl
end Go.Proofs.Ytligpachgcmkcaa
