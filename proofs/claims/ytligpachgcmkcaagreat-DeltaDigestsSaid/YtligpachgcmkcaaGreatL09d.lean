/- The statement vigillaw09.DeltaDigests holds: for every input the call returns true, and its arguments read as they did. No condition. -/
import Derived.Test.YtligpachgcmkcaaGreatL09db5
import Derived.Test.YtligpachgcmkcaaGreatRows
set_option linter.unusedSimpArgs false
set_option linter.unusedVariables false
namespace Go.Proofs.YtligpachgcmkcaaGreat
open Go.ChangeShapes Go.WideShapes Go.ChangeAt Go.RowKit
set_option maxRecDepth 100000 in
theorem deltaDigests_lifted (os : Os) (started : os.Started) (H : Type) (enc : TypeId × Value → H) :
    ReturnsInHanded {} Tryz.checked os 3 .any (Rows.deltaDigestsSpec.pre6 enc Tryz.prog Tryz.f3 Rows.deltaDigestsRow.domain false) (Rows.deltaDigestsSpec.post enc Tryz.prog Tryz.f3 false true false false) := by
  refine returnsInHanded_of_change (C := Tryz.checked) Tryz.own started (by kernel_rfl) Tryz.func3
    (ChangeSpec.witness6 (enc := enc) (C := Tryz.checked) false ⟨#[], #[.agg ⟨[.slice none 0 0, .slice none 0 0, .slice none 0 0, .slice none 0 0]⟩, .agg ⟨dgV [0, 0, 0, 0] [0, 0, 0, 0, 0, 0, 0, 0]⟩, .slice none 0 0], []⟩ 8 (by kernel_rfl) (by kernel_rfl) (by kernel_rfl) (by kernel_rfl)) ?_
  intro W base args ds gs before hval0 hW hcnd _
  have hval : ∀ (j : Nat) t v, Tryz.f3.params[j]? = some t → args[j]? = some v → Value.okWide Tryz.prog W .any base t v := hval0
  have hW' := hW
  obtain ⟨p, q, hA0, hV, rfl, hfz, hnd⟩ := hW
  have hA : DataW.TrodAll enc Tryz.prog W 0 (fun _ => true) true Tryz.f3.params.toList args.toList ds p := hA0
  rw [Tryz.params3] at hA hval
  obtain ⟨v0, v1, v2, d0, d1, d2, p0, p1, p2, rfl, rfl, rfl, h0, h1, h2⟩ := trodAll_three hA
  obtain ⟨rfl, rfl⟩ := trodVars_none hV
  obtain ⟨cs0, rfl, hcs0⟩ := Opens.argAr tb (t := 23) rfl rfl logs_opens (hval 0 23 v0 rfl rfl) h0
  obtain ⟨cs1, rfl, hcs1⟩ := Opens.argSt tb (t := 27) rfl rfl dig_opens (hval 1 27 v1 rfl rfl) h1
  obtain ⟨a2, rs2, cap2, rfl, hrd2, hcp2⟩ := open_rows u8V tb (ks := byKs) rfl rfl rfl rfl rfl rfl (fun _ => rfl) by_dec (hval 2 28 v2 rfl rfl) h2
  refine (digs_all cs0 cs1 a2 cap2 rs2 W hcs0 hcs1 hrd2 hcp2.1 hcp2.2.2.1).run.mono fun e W' ⟨v, he, hv, hc⟩ => ?_
  subst hv
  exact ⟨_, he, law_post (tt := 4) hW' rfl rfl (by kernel_rfl) (by kernel_rfl) Tryz.laidOut (by
    rw [Tryz.params3]
    intro t ht
    simp only [List.mem_cons, List.not_mem_nil, or_false] at ht
    rcases ht with rfl | rfl | rfl
    · exact ⟨by kernel_rfl, of_decide_eq_true (by kernel_rfl)⟩
    · exact ⟨by kernel_rfl, of_decide_eq_true (by kernel_rfl)⟩
    · exact ⟨by kernel_rfl, of_decide_eq_true (by kernel_rfl)⟩) hc.below⟩

theorem deltaDigests_holds : Rows.DeltaDigestsSaid :=
  OpenClaim.holds_of_wide 3 Tryz.f3 rfl rfl rfl rfl rfl rfl rfl ⟨rfl, rfl, rfl, rfl, rfl⟩ rfl rfl rfl rfl rfl (by kernel_rfl) Tryz.func3 (by kernel_rfl)
    (of_decide_eq_true (by kernel_rfl)) (by unfold Func.isWrapper; first | (rw [if_pos (by decide +kernel)]; kernel_rfl) | (rw [if_neg (by decide +kernel)]; exact ⟨rfl, rfl⟩))
    (fun os started H enc _ => deltaDigests_lifted os started H enc)
end Go.Proofs.YtligpachgcmkcaaGreat
