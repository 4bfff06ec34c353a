/- The statement vigillaw25.SyncFits holds: for every input the call returns true, and its arguments read as they did. No condition. -/
import Derived.Test.YtplhnkmmhndkjaaL25fb5
import Derived.Test.YtplhnkmmhndkjaaRows
set_option linter.unusedSimpArgs false
set_option linter.unusedVariables false
namespace Go.Proofs.Ytplhnkmmhndkjaa
open Go.ChangeShapes Go.WideShapes Go.ChangeAt Go.RowKit
theorem fits_all (room : Int) (cs : List Value) (w : World) (h : GoC w cs) : CallW Try.prog 3 [.agg ⟨cs⟩, .int .i64 room] w fun v _ => v = .bool true := by
  obtain ⟨xv, xp, pR, pP, cR, cP, rs, ps, rfl, hxv, hxp, hxb, hr, hp⟩ := h
  exact fits_ok room xv xp hxv hxp hxb pR pP cR cP rs ps w hr hp
set_option maxRecDepth 100000 in
theorem syncFits_lifted (os : Os) (started : os.Started) (H : Type) (enc : TypeId × Value → H) :
    ReturnsInHanded {} Try.checked os 3 .any (Rows.syncFitsSpec.pre6 enc Try.prog Try.f3 Rows.syncFitsRow.domain false) (Rows.syncFitsSpec.post enc Try.prog Try.f3 false true false false) := by
  refine returnsInHanded_of_change (C := Try.checked) ownY started (by kernel_rfl) Try.func3
    (ChangeSpec.witness6 (enc := enc) (C := Try.checked) false ⟨#[], #[.agg ⟨goC (dgV [0, 0, 0, 0] [0, 0, 0, 0, 0, 0, 0, 0]) (.slice none 0 0) (.slice none 0 0)⟩, .int .i64 0], []⟩ 8 (by kernel_rfl) (by kernel_rfl) (by kernel_rfl) (by kernel_rfl)) ?_
  intro W base args ds gs before hval0 hW hcnd _
  have hval : ∀ (j : Nat) t v, Try.f3.params[j]? = some t → args[j]? = some v → Value.okWide Try.prog W .any base t v := hval0
  have hW' := hW
  obtain ⟨p, q, hA0, hV, rfl, hfz, hnd⟩ := hW
  have hA : DataW.TrodAll enc Try.prog W 0 (fun _ => true) true Try.f3.params.toList args.toList ds p := hA0
  rw [Try.params3] at hA hval
  obtain ⟨v0, v1, d0, d1, p0, p1, rfl, rfl, rfl, h0, h1⟩ := trodAll_two hA
  obtain ⟨rfl, rfl⟩ := trodVars_none hV
  obtain ⟨cs0, rfl, hcs0⟩ := Opens.argStY tb (t := 29) rfl rfl go_opens (hval 0 29 v0 rfl rfl) h0
  obtain ⟨n1, rfl, rfl, rfl, wn1⟩ := open_int (k := .i64) (by kernel_rfl) (hval 1 3 v1 rfl rfl) h1
  refine (fits_all n1 cs0 W hcs0).run.mono fun e W' ⟨v, he, hv, hc⟩ => ?_
  subst hv
  exact ⟨_, he, law_post (tt := 4) hW' rfl rfl (by kernel_rfl) (by kernel_rfl) laidY (by
    rw [Try.params3]
    intro t ht
    simp only [List.mem_cons, List.not_mem_nil, or_false] at ht
    rcases ht with rfl | rfl
    · exact ⟨by kernel_rfl, of_decide_eq_true (by kernel_rfl)⟩
    · exact ⟨by kernel_rfl, of_decide_eq_true (by kernel_rfl)⟩) hc.below⟩

theorem syncFits_holds : Rows.SyncFitsSaid :=
  OpenClaim.holds_of_wide 3 Try.f3 rfl rfl rfl rfl rfl rfl rfl ⟨rfl, rfl, rfl, rfl, rfl⟩ rfl rfl rfl rfl rfl (by kernel_rfl) Try.func3 (by kernel_rfl)
    (of_decide_eq_true (by kernel_rfl)) (by unfold Func.isWrapper; first | (rw [if_pos (by decide +kernel)]; kernel_rfl) | (rw [if_neg (by decide +kernel)]; exact ⟨rfl, rfl⟩))
    (fun os started H enc _ => syncFits_lifted os started H enc)
end Go.Proofs.Ytplhnkmmhndkjaa
