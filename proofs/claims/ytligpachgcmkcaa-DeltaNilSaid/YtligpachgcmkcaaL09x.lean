/- What the statement DeltaNil needs: the program's facts; four integers. -/
import Derived.Test.YtligpachgcmkcaaDn4
import Derived.Test.YtligpachgcmkcaaEng22
set_option linter.unusedSimpArgs false
set_option linter.unusedVariables false
namespace Go.Proofs.Ytligpachgcmkcaa
open Go.ChangeShapes Go.WideShapes Go.ChangeAt Go.RowKit

theorem Try.own : ownKnob Try.prog.godebug = none := by kernel_rfl
theorem Try.laidOut : laidOutB Try.prog = true := by kernel_rfl
theorem v4_dec {cs : List Value} (h : allW [.int .i64, .int .i64, .int .i64, .int .i64] cs) : ∃ a b c d : Int, cs = [.int .i64 a, .int .i64 b, .int .i64 c, .int .i64 d] := by
  match cs, h with
  | [.int k1 a, .int k2 b, .int k3 c, .int k4 d], h =>
    obtain ⟨⟨rfl, _⟩, ⟨rfl, _⟩, ⟨rfl, _⟩, ⟨rfl, _⟩, _⟩ := h
    exact ⟨a, b, c, d, rfl⟩
def V4 (cs : List Value) : Prop := ∃ a b c d : Int, cs = [.int .i64 a, .int .i64 b, .int .i64 c, .int .i64 d]
theorem v4_opens {H : Type} {enc : TypeId × Value → H} {w : World} {base : Nat} {spare : Nat → Bool} {held : Bool} : Opens enc Try.prog w base spare held 27 V4 := (Opens.flat (ks := [.int .i64, .int .i64, .int .i64, .int .i64]) tb rfl rfl rfl).mono fun cs h => v4_dec h
theorem deltaNil_all (cs : List Value) (room : Int) (w : World) (h : V4 cs) : CallW Try.prog 9 [.agg ⟨cs⟩, .int .i64 room] w fun v _ => v = .bool true := by
  obtain ⟨a, b, c, d, rfl⟩ := h
  exact deltaNil_ok a b c d room w
end Go.Proofs.Ytligpachgcmkcaa
