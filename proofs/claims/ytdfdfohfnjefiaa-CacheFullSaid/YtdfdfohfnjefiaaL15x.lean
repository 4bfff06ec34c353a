/- What the statements about the cache share: the program's facts, claims and nonces out of cells. -/
import Derived.Test.YtdfdfohfnjefiaaC1
import Derived.Test.YtdfdfohfnjefiaaEng22
set_option linter.unusedSimpArgs false
set_option linter.unusedVariables false
namespace Go.Proofs.Ytdfdfohfnjefiaa
open Go.ChangeShapes Go.WideShapes Go.ChangeAt Go.RowKit

theorem Try.own : ownKnob Try.prog.godebug = none := by kernel_rfl
theorem Try.laidOut : laidOutB Try.prog = true := by kernel_rfl
def clKs : List TK := [.int .i64, .int .i64, .int .i64, .int .i64]
theorem cl_dec : ∀ cs, allW clKs cs → ∃ c : Cl, c.v = cs := by
  rintro cs h
  simp only [clKs] at h
  match cs, h with
  | [.int k1 a, .int k2 b, .int k3 c, .int k4 d], h =>
    obtain ⟨⟨rfl, _⟩, ⟨rfl, _⟩, ⟨rfl, _⟩, ⟨rfl, _⟩, _⟩ := h
    exact ⟨⟨a, b, c, d⟩, rfl⟩
def ncL (p : Int × Int) : List Value := [.int .i64 p.1, .int .i64 p.2]
def ncKs : List TK := [.int .i64, .int .i64]
theorem nc_dec : ∀ cs, allW ncKs cs → ∃ p, ncL p = cs := by
  rintro cs h
  simp only [ncKs] at h
  match cs, h with
  | [.int k1 a, .int k2 b], h =>
    obtain ⟨⟨rfl, _⟩, ⟨rfl, _⟩, _⟩ := h
    exact ⟨⟨a, b⟩, rfl⟩
end Go.Proofs.Ytdfdfohfnjefiaa
