/- The statement RevokeSince: its walk, for any arguments. -/
import Derived.Test.YtligpachgcmkcaaRs4
import Derived.Test.YtligpachgcmkcaaL08x
set_option linter.unusedSimpArgs false
set_option linter.unusedVariables false
namespace Go.Proofs.Ytligpachgcmkcaa
open Go.RowKit Go.Shelf
theorem since8_all (p : Option Addr) (cap : Nat) (ls : List RAct) (cs : List Value) (h : V4 cs) (w : World) (hp : RdSl w p RAct.v ls) (hok : ∀ a ∈ ls, a.ok w) : CallW Try.prog 4 [.slice p ls.length cap, .agg ⟨cs⟩] w fun v _ => v = .bool true := by
  obtain ⟨a, b, c, d, rfl⟩ := h
  exact since8_ok p cap ls [a, b, c, d] rfl w hp hok
end Go.Proofs.Ytligpachgcmkcaa
