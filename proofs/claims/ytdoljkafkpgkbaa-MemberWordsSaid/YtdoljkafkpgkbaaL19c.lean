/- The statement vigillaw19.MemberWords holds: for every input the call returns true, and its arguments read as they did. No condition. -/
import Derived.Test.YtdoljkafkpgkbaaRows
import Derived.Test.YtdoljkafkpgkbaaC16
import Derived.Test.YtdoljkafkpgkbaaEng18
import Derived.Test.YtdoljkafkpgkbaaL19x
set_option linter.unusedSimpArgs false
set_option linter.unusedVariables false
namespace Go.Proofs.Ytdoljkafkpgkbaa
open Go.ChangeShapes Go.WideShapes Go.ChangeAt Go.RowKit

set_option maxRecDepth 100000 in
theorem memberWords_lifted (os : Os) (started : os.Started) (H : Type) (enc : TypeId × Value → H) :
    ReturnsInHanded {} Try.checked os 5 .any (Rows.memberWordsSpec.pre6 enc Try.prog Try.f5 Rows.memberWordsRow.domain false) (Rows.memberWordsSpec.post enc Try.prog Try.f5 false true false false) := by
  refine returnsInHanded_of_change (C := Try.checked) Try.own started (by kernel_rfl) Try.func5
    (ChangeSpec.witness6 (enc := enc) (C := Try.checked) false ⟨#[], #[.int .i64 0], []⟩ 8 (by kernel_rfl) (by kernel_rfl) (by kernel_rfl) (by kernel_rfl)) ?_
  intro W base args ds gs before hval0 hW hcnd _
  have hval : ∀ (j : Nat) t v, Try.f5.params[j]? = some t → args[j]? = some v → Value.okWide Try.prog W .any base t v := hval0
  have hW' := hW
  obtain ⟨p, q, hA0, hV, rfl, hfz, hnd⟩ := hW
  have hA : DataW.TrodAll enc Try.prog W 0 (fun _ => true) true Try.f5.params.toList args.toList ds p := hA0
  rw [Try.params5] at hA hval
  obtain ⟨v0, d0, rfl, rfl, h0⟩ := trodAll_one hA
  obtain ⟨rfl, rfl⟩ := trodVars_none hV
  obtain ⟨n0, rfl, rfl, rfl, wn0⟩ := open_int (k := .i64) (by kernel_rfl) (hval 0 3 v0 rfl rfl) h0
  refine ((memberWords_ok n0).at W).run.mono fun e W' ⟨v, he, hv, hc⟩ => ?_
  subst hv
  exact ⟨_, he, law_post (tt := 4) hW' rfl rfl (by kernel_rfl) (by kernel_rfl) Try.laidOut (by
    rw [Try.params5]
    intro t ht
    simp only [List.mem_cons, List.not_mem_nil, or_false] at ht
    rcases ht with rfl
    · exact ⟨by kernel_rfl, of_decide_eq_true (by kernel_rfl)⟩) hc.below⟩

theorem memberWords_holds : Rows.MemberWordsSaid :=
  OpenClaim.holds_of_wide 5 Try.f5 rfl rfl rfl rfl rfl rfl rfl ⟨rfl, rfl, rfl, rfl, rfl⟩ rfl rfl rfl rfl rfl (by kernel_rfl) Try.func5 (by kernel_rfl)
    (of_decide_eq_true (by kernel_rfl)) (by unfold Func.isWrapper; first | (rw [if_pos (by decide +kernel)]; kernel_rfl) | (rw [if_neg (by decide +kernel)]; exact ⟨rfl, rfl⟩))
    (fun os started H enc _ => memberWords_lifted os started H enc)
end Go.Proofs.Ytdoljkafkpgkbaa
