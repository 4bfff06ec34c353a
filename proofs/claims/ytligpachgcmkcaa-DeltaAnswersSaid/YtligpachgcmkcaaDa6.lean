/- The statement DeltaAnswers: its walk, for any arguments. -/
import Derived.Test.YtligpachgcmkcaaDa5
import Derived.Test.YtligpachgcmkcaaL08x
set_option linter.unusedSimpArgs false
set_option linter.unusedVariables false
namespace Go.Proofs.Ytligpachgcmkcaa
open Go.RowKit Go.Shelf
theorem wf_le {n : Int} (h : (Lit.int .i64 n).wf = true) : n ≤ 9223372036854775807 := by
  simp only [Lit.wf, Bool.and_eq_true, decide_eq_true_eq] at h
  have e : IntKind.i64.max = 9223372036854775807 := rfl
  omega
theorem answers_all (ls cs : List Value) (room : Int) (w : World) (hl : ∃ l0 l1 l2 l3, ls = [Pi.w l0, Pi.w l1, Pi.w l2, Pi.w l3] ∧ ∀ z ∈ [l0, l1, l2, l3], RdSl w z.p iV z.xs ∧ z.xs.length ≤ z.cap) (hc : V4 cs) (hr : (Lit.int .i64 room).wf = true) :
    CallW Try.prog 11 [.agg ⟨ls⟩, .agg ⟨cs⟩, .int .i64 room] w fun v _ => v = .bool true := by
  obtain ⟨l0, l1, l2, l3, rfl, hl⟩ := hl
  obtain ⟨a0, a1, a2, a3, rfl⟩ := hc
  exact answers_ok [l0, l1, l2, l3] rfl a0 a1 a2 a3 room (wf_le hr) w hl
end Go.Proofs.Ytligpachgcmkcaa
