/- Plain laws: the orders of claims and of the queue's entries. -/
import Derived.Test.YtdoljkafkpgkbaaC9
import Derived.Test.YtdoljkafkpgkbaaD0
import Derived.Sort.Statements
import Derived.Shelf.SlSortCmp.Insertion
set_option linter.unusedSimpArgs false
set_option linter.unusedVariables false
namespace Go.Proofs.Ytdoljkafkpgkbaa
open Go.RowKit Go.Shelf Go.Sort

/-- The order of All: by claims. -/
def cfA (x y : Rm × Int) : Int := or2 0 (cmpCl x.1.cl y.1.cl)
/-- The order of Look: who is to be told oftenest first, then by claims. -/
def cfL (x y : Rm × Int) : Int := or2 (IntKind.i64.wrap (y.2 - x.2)) (cmpCl x.1.cl y.1.cl)
theorem cfA_neg (x y : Rm × Int) : cfA x y < 0 ↔ ltC x.1.cl y.1.cl := by
  rw [← cmpCl_neg]; simp [cfA, or2]
abbrev Bd (x : Rm × Int) : Prop := 0 ≤ x.2 ∧ x.2 ≤ 1000
theorem cfL_neg {x y : Rm × Int} (hx : Bd x) (hy : Bd y) : cfL x y < 0 ↔ y.2 < x.2 ∨ y.2 = x.2 ∧ ltC x.1.cl y.1.cl := by
  rw [← cmpCl_neg]
  unfold cfL or2
  rw [IntWalk.i64_in _ ⟨by have := hx.1; have := hx.2; have := hy.1; have := hy.2; omega, by have := hx.1; have := hx.2; have := hy.1; have := hy.2; omega⟩]
  split <;> omega
theorem swoA : SWO (ltOf fun x y : {x : Rm × Int // Bd x} => cfA x.1 y.1) where
  irrefl := fun x => by simp only [ltOf, decide_eq_false_iff_not, cfA_neg, ltC]; omega
  trans := fun x y z => by simp only [ltOf, decide_eq_true_eq, cfA_neg, ltC]; omega
  ntrans := fun x y z => by simp only [ltOf, decide_eq_false_iff_not, cfA_neg, ltC]; omega
theorem swoL : SWO (ltOf fun x y : {x : Rm × Int // Bd x} => cfL x.1 y.1) where
  irrefl := fun x => by simp only [ltOf, decide_eq_false_iff_not, cfL_neg x.2 x.2, ltC]; omega
  trans := fun x y z => by simp only [ltOf, decide_eq_true_eq, cfL_neg x.2 y.2, cfL_neg y.2 z.2, cfL_neg x.2 z.2, ltC]; omega
  ntrans := fun x y z => by simp only [ltOf, decide_eq_false_iff_not, cfL_neg x.2 y.2, cfL_neg y.2 z.2, cfL_neg x.2 z.2, ltC]; omega
end Go.Proofs.Ytdoljkafkpgkbaa
