/- The statement KeysApart: its walk, for any arguments. -/
import Derived.Test.YtiegdpmkgegbaaaAp1
import Derived.Test.YtiegdpmkgegbaaaL07x
set_option linter.unusedSimpArgs false
set_option linter.unusedVariables false
namespace Go.Proofs.Ytiegdpmkgegbaaa
open Go.RowKit Go.Shelf
theorem apart_all (p : Option Addr) (cap : Nat) (xs : List Int) (c d : Cl) (v w : Int) (W : World) (hp : RdSl W p u8V xs) (hcp : xs.length ≤ cap ∧ cap ≤ maxLen ∧ (∀ x ∈ xs, allW byKs (u8V x)) ∧ (p = none → cap = 0)) :
    CallW Try.prog 3 [.slice p xs.length cap, .agg ⟨c.v⟩, .agg ⟨d.v⟩, .int .i64 v, .int .i64 w] W fun x _ => x = .bool true := by
  by_cases h : c.right ∧ d.right
  · exact apart_ok p xs.length cap xs rfl hcp.1 (byt_of hcp.2.2.1) c d h.1 h.2 v w W hp
  · exact (apart_known p xs.length cap hcp.1 c d v w h).w W
end Go.Proofs.Ytiegdpmkgegbaaa
