/- Plain laws: the orders of claims and of the queue's entries. -/
import Derived.Test.YtdoljkafkpgkbaaC9
import Derived.Sort.Statements
import Derived.Shelf.SlSortCmp.Insertion
set_option linter.unusedSimpArgs false
set_option linter.unusedVariables false
namespace Go.Proofs.Ytdoljkafkpgkbaa
open Go.RowKit Go.Shelf Go.Sort

def ltC (c d : Cl) : Prop := c.ser < d.ser ∨ c.ser = d.ser ∧ (c.id < d.id ∨ c.id = d.id ∧ (c.exp < d.exp ∨ c.exp = d.exp ∧ c.roles < d.roles))
theorem cmpI_neg (x y : Int) : cmpI x y < 0 ↔ x < y := by
  unfold cmpI
  repeat' split
  all_goals omega
theorem cmpI_zero (x y : Int) : cmpI x y = 0 ↔ x = y := by
  unfold cmpI
  repeat' split
  all_goals omega
theorem cmpCl_neg (c d : Cl) : cmpCl c d < 0 ↔ ltC c d := by
  unfold cmpCl ltC
  split
  · rename_i h; subst h; simp
  · have h1 := cmpI_neg c.ser d.ser
    have h2 := cmpI_neg c.id d.id
    have h3 := cmpI_neg c.exp d.exp
    have h4 := cmpI_neg c.roles d.roles
    have z1 := cmpI_zero c.ser d.ser
    have z2 := cmpI_zero c.id d.id
    have z3 := cmpI_zero c.exp d.exp
    have z4 := cmpI_zero c.roles d.roles
    unfold or4
    repeat' split
    all_goals omega
theorem cl_ext {c d : Cl} (h1 : c.ser = d.ser) (h2 : c.id = d.id) (h3 : c.exp = d.exp) (h4 : c.roles = d.roles) : c = d := by cases c; cases d; simp_all
theorem ltC_total {c d : Cl} (h : ¬ ltC c d) (h' : ¬ ltC d c) : c = d := by
  unfold ltC at h h'
  apply cl_ext <;> omega
theorem cmpCl_zero (c d : Cl) : cmpCl c d = 0 ↔ c = d := by
  constructor
  · intro h
    refine ltC_total (fun h1 => ?_) (fun h1 => ?_)
    · have := (cmpCl_neg c d).2 h1; omega
    · by_cases e : c = d
      · subst e; have := (cmpCl_neg c c).2 h1; omega
      · unfold cmpCl at h
        rw [if_neg e] at h
        have z1 := cmpI_zero c.ser d.ser
        have z2 := cmpI_zero c.id d.id
        have z3 := cmpI_zero c.exp d.exp
        have z4 := cmpI_zero c.roles d.roles
        unfold or4 at h
        apply e
        apply cl_ext
        all_goals (repeat' split at h)
        all_goals omega
  · rintro rfl; simp [cmpCl]
/-- The order of All: by claims. -/
def cfA (x y : Rm × Int) : Int := or2 0 (cmpCl x.1.cl y.1.cl)
/-- The order of Look: who is to be told oftenest first, then by claims. -/
def cfL (x y : Rm × Int) : Int := or2 (IntKind.i64.wrap (y.2 - x.2)) (cmpCl x.1.cl y.1.cl)
theorem cfA_neg (x y : Rm × Int) : cfA x y < 0 ↔ ltC x.1.cl y.1.cl := by
  rw [← cmpCl_neg]; simp [cfA, or2]
abbrev Bd (x : Rm × Int) : Prop := 0 ≤ x.2 ∧ x.2 ≤ 1000
theorem cfL_neg {x y : Rm × Int} (hx : Bd x) (hy : Bd y) : cfL x y < 0 ↔ y.2 < x.2 ∨ y.2 = x.2 ∧ ltC x.1.cl y.1.cl := by
  rw [← cmpCl_neg]
  unfold cfL or2
  rw [IntWalk.i64_in _ ⟨by have := hx.1; have := hx.2; have := hy.1; have := hy.2; omega, by have := hx.1; have := hx.2; have := hy.1; have := hy.2; omega⟩]
  split <;> omega
theorem swoA : SWO (ltOf fun x y : {x : Rm × Int // Bd x} => cfA x.1 y.1) where
  irrefl := fun x => by simp only [ltOf, decide_eq_false_iff_not, cfA_neg, ltC]; omega
  trans := fun x y z => by simp only [ltOf, decide_eq_true_eq, cfA_neg, ltC]; omega
  ntrans := fun x y z => by simp only [ltOf, decide_eq_false_iff_not, cfA_neg, ltC]; omega
theorem swoL : SWO (ltOf fun x y : {x : Rm × Int // Bd x} => cfL x.1 y.1) where
  irrefl := fun x => by simp only [ltOf, decide_eq_false_iff_not, cfL_neg x.2 x.2, ltC]; omega
  trans := fun x y z => by simp only [ltOf, decide_eq_true_eq, cfL_neg x.2 y.2, cfL_neg y.2 z.2, cfL_neg x.2 z.2, ltC]; omega
  ntrans := fun x y z => by simp only [ltOf, decide_eq_false_iff_not, cfL_neg x.2 y.2, cfL_neg y.2 z.2, cfL_neg x.2 z.2, ltC]; omega
end Go.Proofs.Ytdoljkafkpgkbaa
