/- Integers in slices. -/
import Derived.Test.YtligpachgcmkcaaEng29
import Derived.Test.YtligpachgcmkcaaTab
set_option linter.unusedSimpArgs false
set_option linter.unusedVariables false
namespace Go.Proofs.Ytligpachgcmkcaa
open Go.RowKit Go.Shelf

def iV (x : Int) : List Value := [.int .i64 x]
theorem iV_len (x : Int) : (iV x).length = 1 := rfl
theorem iV_one (x : Int) : (iV x).all Value.oneCell' = true := rfl
def iis (xs : List Int) : List Value := xs.map fun x => .int .i64 x
theorem iis_len (xs : List Int) : (iis xs).length = xs.length := by simp [iis]
theorem iis_one (xs : List Int) : (iis xs).all Value.oneCell' = true := by simp [iis, Value.oneCell']
theorem iis_app (xs ys : List Int) : iis (xs ++ ys) = iis xs ++ iis ys := by simp [iis]
theorem fl_i (xs : List Int) : fl iV xs = iis xs := by
  unfold fl iis
  induction xs with
  | nil => rfl
  | cons a l ih => simp only [List.map_cons, List.flatten_cons, ih]; rfl
theorem irdown {ov : Ov} {xs : List Int} {e : Nat} (hov : OvOk 1 ov xs.length (iis xs)) {w0 w : World} {S : List Nat} {L : Lst} (hw : Hp w0 S L w) (hin : ∀ x ∈ blkL e ov (iis xs), x ∈ L) : RdSl w (ovp ov) iV xs := by
  rw [← fl_i] at hov hin
  exact RdSl.own' hw hin hov iV_len
/-- A log: nothing, or a slice of one's own. -/
structure Lg where
  ov : Ov
  xs : List Int
def Lg.v (g : Lg) : Value := slV g.ov g.xs.length
def Lg.L (g : Lg) : Lst := blkL 3 g.ov (iis g.xs)
def Lg.ok (g : Lg) : Prop := OvOk 1 g.ov g.xs.length (iis g.xs)
theorem Lg.v_eq {g : Lg} (h : g.ok) : g.v = .slice (ovp g.ov) g.xs.length (ovc g.ov g.xs.length) := slV_eq h
def lg0 : Lg := ⟨none, []⟩
theorem lg0_ok : lg0.ok := ⟨rfl, rfl⟩
theorem Lg.rd {g : Lg} (h : g.ok) {w0 w : World} {S : List Nat} {L : Lst} (hw : Hp w0 S L w) (hin : ∀ x ∈ g.L, x ∈ L) : RdSl w (ovp g.ov) iV g.xs := irdown h hw hin
end Go.Proofs.Ytligpachgcmkcaa
