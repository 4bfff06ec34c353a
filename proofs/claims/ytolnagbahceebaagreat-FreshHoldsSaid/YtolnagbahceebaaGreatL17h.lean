/- The statement vigillaw17.FreshHolds holds: for every input the call returns true, and its arguments read as they did. No condition. -/
import Derived.Test.YtolnagbahceebaaGreatL17hb5
import Derived.Test.YtolnagbahceebaaGreatRows
set_option linter.unusedSimpArgs false
set_option linter.unusedVariables false
namespace Go.Proofs.YtolnagbahceebaaGreat
open Go.ChangeShapes Go.WideShapes Go.ChangeAt Go.RowKit
set_option maxRecDepth 100000 in
theorem freshHolds_lifted (os : Os) (started : os.Started) (H : Type) (enc : TypeId × Value → H) :
    ReturnsInHanded {} Tryz.checked os 5 .any (Rows.freshHoldsSpec.pre6 enc Tryz.prog Tryz.f5 Rows.freshHoldsRow.domain false) (Rows.freshHoldsSpec.post enc Tryz.prog Tryz.f5 false true false false) := by
  refine returnsInHanded_of_change (C := Tryz.checked) ownJ started (by kernel_rfl) Tryz.func5
    (ChangeSpec.witness6 (enc := enc) (C := Tryz.checked) false ⟨#[], #[.slice none 0 0], []⟩ 8 (by kernel_rfl) (by kernel_rfl) (by kernel_rfl) (by kernel_rfl)) ?_
  intro W base args ds gs before hval0 hW hcnd _
  have hval : ∀ (j : Nat) t v, Tryz.f5.params[j]? = some t → args[j]? = some v → Value.okWide Tryz.prog W .any base t v := hval0
  have hW' := hW
  obtain ⟨p, q, hA0, hV, rfl, hfz, hnd⟩ := hW
  have hA : DataW.TrodAll enc Tryz.prog W 0 (fun _ => true) true Tryz.f5.params.toList args.toList ds p := hA0
  rw [Tryz.params5] at hA hval
  obtain ⟨v0, d0, rfl, rfl, h0⟩ := trodAll_one hA
  obtain ⟨rfl, rfl⟩ := trodVars_none hV
  obtain ⟨a0, rs0, cap0, rfl, hrd0, hcp0⟩ := Opens.argSl tb (t := 41) rfl rfl (hval 0 41 v0 rfl rfl) (Opens.slice FAct.v _ tb rfl rfl rfl rfl (fun _ => rfl) fa_opens) h0
  refine (freshHolds_ok a0 cap0 rs0 W hrd0 hcp0.2.2.1).run.mono fun e W' ⟨v, he, hv, hc⟩ => ?_
  subst hv
  exact ⟨_, he, law_post (tt := 4) hW' rfl rfl (by kernel_rfl) (by kernel_rfl) laidJ (by
    rw [Tryz.params5]
    intro t ht
    simp only [List.mem_cons, List.not_mem_nil, or_false] at ht
    rcases ht with rfl
    · exact ⟨by kernel_rfl, of_decide_eq_true (by kernel_rfl)⟩) hc.below⟩

theorem freshHolds_c0 : (Rows.freshHoldsRow.wf (OpenSpec.ofChange Rows.freshHoldsSpec)) = true := by kernel_rfl
theorem freshHolds_c1 : (laidOutB Tryz.checked.prog) = true := by kernel_rfl
theorem freshHolds_c2 : (mapsRowed Tryz.checked.prog) = true := by kernel_rfl
theorem freshHolds_c3 : (Tryz.f5.params.all (Tryz.checked.prog.readableRec ·)) = true := by kernel_rfl
theorem freshHolds_c4 : (namedTie Tryz.checked.prog Rows.freshHoldsRow.named Rows.freshHoldsSpec.vars) = true := by kernel_rfl
theorem freshHolds_c5 : (Rows.freshHoldsRow.stops == []) = true := by kernel_rfl
theorem freshHolds_c6 : (Tryz.checked.prog.stops == []) = true := by kernel_rfl
theorem freshHolds_c7 : (Rows.freshHoldsRow.knobs == []) = true := by kernel_rfl
theorem freshHolds_c8 : (Tryz.checked.prog.stopKnobs == []) = true := by kernel_rfl
theorem freshHolds_c9 : (Rows.freshHoldsRow.inPlace == Tryz.checked.prog.inPlace 5) = true := by kernel_rfl
theorem freshHolds_c10 : (Rows.freshHoldsRow.unfollowed == Tryz.checked.prog.unfollowed 5) = true := by kernel_rfl
theorem freshHolds_c11 : (Rows.freshHoldsRow.recurses == Tryz.checked.prog.recurses 5) = true := by kernel_rfl
theorem freshHolds_c12 : (Rows.freshHoldsRow.named == Tryz.checked.prog.varsNamed 5) = true := by kernel_rfl
theorem freshHolds_c13 : (Rows.freshHoldsRow.maps == (Tryz.f5.params.toList ++ Rows.freshHoldsSpec.plain.varTypes Tryz.checked.prog).any (Tryz.checked.prog.mapsRec ·)) = true := by kernel_rfl
theorem freshHolds_c14 : (Rows.freshHoldsRow.ifaces == (Tryz.f5.params.toList ++ Rows.freshHoldsSpec.plain.varTypes Tryz.checked.prog).any (Tryz.checked.prog.ifacesRec ·)) = true := by kernel_rfl
theorem freshHolds_c15 : (Rows.freshHoldsRow.mapsOut == Tryz.checked.prog.mapsAmong Tryz.f5.resultTypes.toList) = true := by kernel_rfl
theorem freshHolds_c16 : (Rows.freshHoldsRow.loops == (Tryz.f5.params.toList ++ Rows.freshHoldsSpec.plain.varTypes Tryz.checked.prog).any (Tryz.checked.prog.loopsFrom ·)) = true := by kernel_rfl
theorem freshHolds_c17 : (Rows.freshHoldsRow.wideKeys == (Tryz.f5.params.toList ++ Rows.freshHoldsSpec.plain.varTypes Tryz.checked.prog ++ Tryz.f5.resultTypes.toList).any (Tryz.checked.prog.wideKeysFrom ·)) = true := by kernel_rfl
theorem freshHolds_c18 : (Rows.freshHoldsSpec.vars.all (Tryz.checked.prog.varReadable ·)) = true := by kernel_rfl
theorem freshHolds_c19 : (Tryz.f5.resultTypes.all (fun t => Tryz.checked.prog.readableRec t && decide (t < Tryz.checked.prog.types.size))) = true := by kernel_rfl
theorem freshHolds_c20 : (Rows.freshHoldsRow.ifacesOut == Tryz.f5.resultTypes.toList.any (Tryz.checked.prog.ifacesRec ·)) = true := by kernel_rfl
theorem freshHolds_c21 : (Rows.freshHoldsRow.loopsOut == Tryz.f5.resultTypes.toList.any (Tryz.checked.prog.loopsFrom ·)) = true := by kernel_rfl
theorem freshHolds_c22 : (Rows.freshHoldsRow.plainKeys == Tryz.checked.prog.plainKeys) = true := by kernel_rfl
theorem freshHolds_c23 : (Rows.freshHoldsRow.shortTexts.isNone) = true := by kernel_rfl
theorem freshHolds_c24 : (Tryz.checked.prog.stopsHeard) = true := by kernel_rfl
theorem freshHolds_c25 : (Tryz.checked.prog.mayEnter) = true := by kernel_rfl
theorem freshHolds_c26 : (Rows.freshHoldsRow.lifted == Tryz.checked.prog.liftsFinal) = true := by kernel_rfl
theorem freshHolds_c27 : (Tryz.checked.prog.make == some Rows.freshHoldsRow.make) = true := by kernel_rfl
theorem freshHolds_c28 : (Rows.freshHoldsRow.kinds == (if Rows.freshHoldsRow.domain.isEmpty then [] else Tryz.f5.params.toList.map fun t => match Tryz.checked.prog.underlying t with | some (.int k) => some k | _ => none)) = true := by kernel_rfl
theorem freshHolds_c29 : (Rows.freshHoldsRow.pinned == Rows.freshHoldsRow.pinnedBy) = true := by kernel_rfl
theorem freshHolds_c30 : (Rows.freshHoldsRow.veiled == (Tryz.f5.params.toList ++ Rows.freshHoldsSpec.plain.varTypes Tryz.checked.prog ++ Tryz.f5.resultTypes.toList).any (Tryz.checked.prog.veiledRec ·)) = true := by kernel_rfl
theorem freshHolds_c31 : (Rows.freshHoldsRow.veiledFits Tryz.checked.prog Tryz.f5.params.toList (Tryz.f5.params.toList ++ Rows.freshHoldsSpec.plain.varTypes Tryz.checked.prog ++ Tryz.f5.resultTypes.toList)) = true := by kernel_rfl
set_option maxRecDepth 100000 in
theorem freshHolds_cl : joinedFacts Tryz.checked.prog 5 Tryz.f5 Rows.freshHoldsSpec Rows.freshHoldsRow = true := joined_of freshHolds_c0 freshHolds_c1 freshHolds_c2 freshHolds_c3 freshHolds_c4 freshHolds_c5 freshHolds_c6 freshHolds_c7 freshHolds_c8 freshHolds_c9 freshHolds_c10 freshHolds_c11 freshHolds_c12 freshHolds_c13 freshHolds_c14 freshHolds_c15 freshHolds_c16 freshHolds_c17 freshHolds_c18 freshHolds_c19 freshHolds_c20 freshHolds_c21 freshHolds_c22 freshHolds_c23 freshHolds_c24 freshHolds_c25 freshHolds_c26 freshHolds_c27 freshHolds_c28 freshHolds_c29 freshHolds_c30 freshHolds_c31
theorem freshHolds_fn : Tryz.checked.prog.funcNamed Rows.freshHoldsRow.func = some 5 := by kernel_rfl
theorem freshHolds_holds : Rows.FreshHoldsSaid :=
  OpenClaim.holds_of_wide 5 Tryz.f5 rfl rfl rfl rfl rfl rfl rfl ⟨rfl, rfl, rfl, rfl, rfl⟩ rfl rfl rfl rfl rfl freshHolds_fn Tryz.func5 freshHolds_cl
    (of_decide_eq_true (by kernel_rfl)) (by unfold Func.isWrapper; first | (rw [if_pos (by decide +kernel)]; kernel_rfl) | (rw [if_neg (by decide +kernel)]; exact ⟨rfl, rfl⟩))
    (fun os started H enc _ => freshHolds_lifted os started H enc)
end Go.Proofs.YtolnagbahceebaaGreat
