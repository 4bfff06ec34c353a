/- The digest of bytes that come in parts. -/
import Derived.Test.YtiegdpmkgegbaaaS0
set_option linter.unusedSimpArgs false
set_option linter.unusedVariables false
namespace Go.Proofs.Ytiegdpmkgegbaaa
open Go.RowKit Go.Shelf

theorem allI_add (K : List Int) (j : Nat) : ∀ (i : Nat) (b : List Int) (s : H8), allI K (i + j) b s = allI K j (b.drop (64 * i)) (allI K i b s)
  | 0, b, s => by simp [allI]
  | i + 1, b, s => by
    rw [show i + 1 + j = (i + j) + 1 by omega, allI, allI_add K j i, allI, List.drop_drop, show 64 + 64 * i = 64 * (i + 1) by omega]
theorem allI_app (K : List Int) : ∀ (i : Nat) (b c : List Int) (s : H8), 64 * i ≤ b.length → allI K i (b ++ c) s = allI K i b s
  | 0, _, _, _, _ => rfl
  | i + 1, b, c, s, h => by
    rw [allI, allI, List.drop_append_of_le_length (by omega), List.take_append_of_le_length (by omega)]
    exact allI_app K i _ c _ (by rw [List.length_drop]; omega)
/-- The words and what is left, once bytes b have come. -/
def wordsI (b : List Int) : H8 := allI kI (b.length / 64) b h0I
def leftI (b : List Int) : List Int := b.drop (64 * (b.length / 64))
theorem left_len (b : List Int) : (leftI b).length = b.length % 64 := by unfold leftI; rw [List.length_drop]; omega
theorem feed (b x : List Int) : allI kI ((leftI b ++ x).length / 64) (leftI b ++ x) (wordsI b) = wordsI (b ++ x) ∧ (leftI b ++ x).drop (64 * ((leftI b ++ x).length / 64)) = leftI (b ++ x) := by
  have hl := left_len b
  have hd : leftI b ++ x = (b ++ x).drop (64 * (b.length / 64)) := by
    unfold leftI; rw [List.drop_append_of_le_length (by omega)]
  have hn : (b ++ x).length / 64 = b.length / 64 + (leftI b ++ x).length / 64 := by
    rw [List.length_append, List.length_append, hl]; omega
  constructor
  · unfold wordsI
    rw [hn, allI_add, ← hd, allI_app kI _ b x _ (by omega)]
  · conv => rhs; unfold leftI
    rw [hn, Nat.mul_add, ← List.drop_drop, ← hd]
theorem sha_words (b : List Int) : shaI b = outI (wordsI (b ++ padI b.length)) := rfl
end Go.Proofs.Ytiegdpmkgegbaaa
