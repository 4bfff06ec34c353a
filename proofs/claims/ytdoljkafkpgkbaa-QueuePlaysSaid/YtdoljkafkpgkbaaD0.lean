/- Plain laws: the order of claims. -/
import Derived.Test.YtdoljkafkpgkbaaC2
import Derived.Sort.Statements
import Derived.Shelf.SlSortCmp.Insertion
set_option linter.unusedSimpArgs false
set_option linter.unusedVariables false
namespace Go.Proofs.Ytdoljkafkpgkbaa
open Go.RowKit Go.Shelf Go.Sort

def ltC (c d : Cl) : Prop := c.ser < d.ser ∨ c.ser = d.ser ∧ (c.id < d.id ∨ c.id = d.id ∧ (c.exp < d.exp ∨ c.exp = d.exp ∧ c.roles < d.roles))
theorem cmpI_neg (x y : Int) : cmpI x y < 0 ↔ x < y := by
  unfold cmpI
  repeat' split
  all_goals omega
theorem cmpI_zero (x y : Int) : cmpI x y = 0 ↔ x = y := by
  unfold cmpI
  repeat' split
  all_goals omega
theorem cmpCl_neg (c d : Cl) : cmpCl c d < 0 ↔ ltC c d := by
  unfold cmpCl ltC
  split
  · rename_i h; subst h; simp
  · have h1 := cmpI_neg c.ser d.ser
    have h2 := cmpI_neg c.id d.id
    have h3 := cmpI_neg c.exp d.exp
    have h4 := cmpI_neg c.roles d.roles
    have z1 := cmpI_zero c.ser d.ser
    have z2 := cmpI_zero c.id d.id
    have z3 := cmpI_zero c.exp d.exp
    have z4 := cmpI_zero c.roles d.roles
    unfold or4
    repeat' split
    all_goals omega
theorem cl_ext {c d : Cl} (h1 : c.ser = d.ser) (h2 : c.id = d.id) (h3 : c.exp = d.exp) (h4 : c.roles = d.roles) : c = d := by cases c; cases d; simp_all
theorem ltC_total {c d : Cl} (h : ¬ ltC c d) (h' : ¬ ltC d c) : c = d := by
  unfold ltC at h h'
  apply cl_ext <;> omega
theorem cmpCl_zero (c d : Cl) : cmpCl c d = 0 ↔ c = d := by
  constructor
  · intro h
    refine ltC_total (fun h1 => ?_) (fun h1 => ?_)
    · have := (cmpCl_neg c d).2 h1; omega
    · by_cases e : c = d
      · subst e; have := (cmpCl_neg c c).2 h1; omega
      · unfold cmpCl at h
        rw [if_neg e] at h
        have z1 := cmpI_zero c.ser d.ser
        have z2 := cmpI_zero c.id d.id
        have z3 := cmpI_zero c.exp d.exp
        have z4 := cmpI_zero c.roles d.roles
        unfold or4 at h
        apply e
        apply cl_ext
        all_goals (repeat' split at h)
        all_goals omega
  · rintro rfl; simp [cmpCl]
end Go.Proofs.Ytdoljkafkpgkbaa
