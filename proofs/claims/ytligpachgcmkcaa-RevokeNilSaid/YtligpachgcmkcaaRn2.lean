/- The statement RevokeNil: its walk, for any arguments. -/
import Derived.Test.YtligpachgcmkcaaRn1
import Derived.Test.YtligpachgcmkcaaL08x
set_option linter.unusedSimpArgs false
set_option linter.unusedVariables false
namespace Go.Proofs.Ytligpachgcmkcaa
open Go.RowKit Go.Shelf
theorem DOp.dl {w : World} {cs : List Value} (h : DOp w cs) : ∃ d : Dl, cs = dlV d ∧ d.length = 4 ∧ (∀ x ∈ d, RdSl w x.2.p iV x.2.xs) ∧ ∀ x ∈ d, x.2.xs.length ≤ x.2.cap := by
  obtain ⟨f0, f1, f2, f3, l0, l1, l2, l3, rfl, h⟩ := h
  refine ⟨[(f0, l0), (f1, l1), (f2, l2), (f3, l3)], rfl, rfl, fun x hx => (h x.2 ?_).1, fun x hx => (h x.2 ?_).2⟩
  · simpa using List.mem_map.2 ⟨x, hx, rfl⟩
  · simpa using List.mem_map.2 ⟨x, hx, rfl⟩
theorem revokeNil_all (seed serial : Int) (cs : List Value) (w : World) (h : DOp w cs) : CallW Try.prog 8 [.int .i64 seed, .int .i64 serial, .agg ⟨cs⟩] w fun v _ => v = .bool true := by
  obtain ⟨d, rfl, hd, hr, hc⟩ := h.dl
  exact revokeNil_ok seed serial d hd w hr hc
end Go.Proofs.Ytligpachgcmkcaa
