/- What the statements about rumours share: the program's facts, rumours out of cells. -/
import Derived.Test.YtdoljkafkpgkbaaP2
import Derived.Test.YtdoljkafkpgkbaaEng22
set_option linter.unusedSimpArgs false
set_option linter.unusedVariables false
namespace Go.Proofs.Ytdoljkafkpgkbaa
open Go.ChangeShapes Go.WideShapes Go.ChangeAt Go.RowKit

theorem Try.own : ownKnob Try.prog.godebug = none := by kernel_rfl
theorem Try.laidOut : laidOutB Try.prog = true := by kernel_rfl
def rmKs : List TK := [.int .i64, .int .i64, .int .i64, .int .i64, .int .i64, .int .i64]
theorem rm_dec : ∀ cs, allW rmKs cs → ∃ r : Rm, r.v = cs := by
  rintro cs h
  simp only [rmKs] at h
  match cs, h with
  | [.int k1 a, .int k2 b, .int k3 c, .int k4 d, .int k5 e, .int k6 f], h =>
    obtain ⟨⟨rfl, _⟩, ⟨rfl, _⟩, ⟨rfl, _⟩, ⟨rfl, _⟩, ⟨rfl, _⟩, ⟨rfl, _⟩, _⟩ := h
    exact ⟨⟨a, ⟨b, c, d, e⟩, f⟩, rfl⟩

def clKs : List TK := [.int .i64, .int .i64, .int .i64, .int .i64]
theorem cl_dec : ∀ cs, allW clKs cs → ∃ c : Cl, c.v = cs := by
  rintro cs h
  simp only [clKs] at h
  match cs, h with
  | [.int k1 a, .int k2 b, .int k3 c, .int k4 d], h =>
    obtain ⟨⟨rfl, _⟩, ⟨rfl, _⟩, ⟨rfl, _⟩, ⟨rfl, _⟩, _⟩ := h
    exact ⟨⟨a, b, c, d⟩, rfl⟩
end Go.Proofs.Ytdoljkafkpgkbaa
