/- The statement vigillaw18.JoinPeople holds: for every input the call returns true, and its arguments read as they did. No condition. -/
import Derived.Test.YtidjnjlejhoalaaGreatL18pb7
import Derived.Test.YtidjnjlejhoalaaGreatRows
set_option linter.unusedSimpArgs false
set_option linter.unusedVariables false
namespace Go.Proofs.YtidjnjlejhoalaaGreat
open Go.ChangeShapes Go.WideShapes Go.ChangeAt Go.RowKit
set_option maxRecDepth 100000 in
theorem joinPeople_lifted (os : Os) (started : os.Started) (H : Type) (enc : TypeId × Value → H) :
    ReturnsInHanded {} Tryz.checked os 6 .any (Rows.joinPeopleSpec.pre6 enc Tryz.prog Tryz.f6 Rows.joinPeopleRow.domain false) (Rows.joinPeopleSpec.post enc Tryz.prog Tryz.f6 false true false false) := by
  refine returnsInHanded_of_change (C := Tryz.checked) ownJ started (by kernel_rfl) Tryz.func6
    (ChangeSpec.witness6 (enc := enc) (C := Tryz.checked) false ⟨#[], #[.slice none 0 0, .slice none 0 0], []⟩ 8 (by kernel_rfl) (by kernel_rfl) (by kernel_rfl) (by kernel_rfl)) ?_
  intro W base args ds gs before hval0 hW hcnd _
  have hval : ∀ (j : Nat) t v, Tryz.f6.params[j]? = some t → args[j]? = some v → Value.okWide Tryz.prog W .any base t v := hval0
  have hW' := hW
  obtain ⟨p, q, hA0, hV, rfl, hfz, hnd⟩ := hW
  have hA : DataW.TrodAll enc Tryz.prog W 0 (fun _ => true) true Tryz.f6.params.toList args.toList ds p := hA0
  rw [Tryz.params6] at hA hval
  obtain ⟨v0, v1, d0, d1, p0, p1, rfl, rfl, rfl, h0, h1⟩ := trodAll_two hA
  obtain ⟨rfl, rfl⟩ := trodVars_none hV
  obtain ⟨a0, rs0, cap0, rfl, hrd0, hcp0⟩ := open_rows Cl.v tb (ks := clKsJ) rfl rfl rfl rfl rfl rfl (fun _ => rfl) cl_decJ (hval 0 107 v0 rfl rfl) h0
  obtain ⟨a1, rs1, cap1, rfl, hrd1, hcp1⟩ := open_rows u8V tb (ks := byKsJ) rfl rfl rfl rfl rfl rfl (fun _ => rfl) by_decJ (hval 1 22 v1 rfl rfl) h1
  refine (people18_ok a0 rs0.length cap0 rs0 a1 rs1.length cap1 rs1 rfl rfl hcp0.1 hcp1.1 (byt_ofJ hcp1.2.2.1) W hrd0 hrd1).run.mono fun e W' ⟨v, he, hv, hc⟩ => ?_
  subst hv
  exact ⟨_, he, law_post (tt := 4) hW' rfl rfl (by kernel_rfl) (by kernel_rfl) laidJ (by
    rw [Tryz.params6]
    intro t ht
    simp only [List.mem_cons, List.not_mem_nil, or_false] at ht
    rcases ht with rfl | rfl
    · exact ⟨by kernel_rfl, of_decide_eq_true (by kernel_rfl)⟩
    · exact ⟨by kernel_rfl, of_decide_eq_true (by kernel_rfl)⟩) hc.below⟩

theorem joinPeople_c0 : (Rows.joinPeopleRow.wf (OpenSpec.ofChange Rows.joinPeopleSpec)) = true := by kernel_rfl
theorem joinPeople_c1 : (laidOutB Tryz.checked.prog) = true := by kernel_rfl
theorem joinPeople_c2 : (mapsRowed Tryz.checked.prog) = true := by kernel_rfl
theorem joinPeople_c3 : (Tryz.f6.params.all (Tryz.checked.prog.readableRec ·)) = true := by kernel_rfl
theorem joinPeople_c4 : (namedTie Tryz.checked.prog Rows.joinPeopleRow.named Rows.joinPeopleSpec.vars) = true := by kernel_rfl
theorem joinPeople_c5 : (Rows.joinPeopleRow.stops == []) = true := by kernel_rfl
theorem joinPeople_c6 : (Tryz.checked.prog.stops == []) = true := by kernel_rfl
theorem joinPeople_c7 : (Rows.joinPeopleRow.knobs == []) = true := by kernel_rfl
theorem joinPeople_c8 : (Tryz.checked.prog.stopKnobs == []) = true := by kernel_rfl
theorem joinPeople_c9 : (Rows.joinPeopleRow.inPlace == Tryz.checked.prog.inPlace 6) = true := by kernel_rfl
theorem joinPeople_c10 : (Rows.joinPeopleRow.unfollowed == Tryz.checked.prog.unfollowed 6) = true := by kernel_rfl
theorem joinPeople_c11 : (Rows.joinPeopleRow.recurses == Tryz.checked.prog.recurses 6) = true := by kernel_rfl
theorem joinPeople_c12 : (Rows.joinPeopleRow.named == Tryz.checked.prog.varsNamed 6) = true := by kernel_rfl
theorem joinPeople_c13 : (Rows.joinPeopleRow.maps == (Tryz.f6.params.toList ++ Rows.joinPeopleSpec.plain.varTypes Tryz.checked.prog).any (Tryz.checked.prog.mapsRec ·)) = true := by kernel_rfl
theorem joinPeople_c14 : (Rows.joinPeopleRow.ifaces == (Tryz.f6.params.toList ++ Rows.joinPeopleSpec.plain.varTypes Tryz.checked.prog).any (Tryz.checked.prog.ifacesRec ·)) = true := by kernel_rfl
theorem joinPeople_c15 : (Rows.joinPeopleRow.mapsOut == Tryz.checked.prog.mapsAmong Tryz.f6.resultTypes.toList) = true := by kernel_rfl
theorem joinPeople_c16 : (Rows.joinPeopleRow.loops == (Tryz.f6.params.toList ++ Rows.joinPeopleSpec.plain.varTypes Tryz.checked.prog).any (Tryz.checked.prog.loopsFrom ·)) = true := by kernel_rfl
theorem joinPeople_c17 : (Rows.joinPeopleRow.wideKeys == (Tryz.f6.params.toList ++ Rows.joinPeopleSpec.plain.varTypes Tryz.checked.prog ++ Tryz.f6.resultTypes.toList).any (Tryz.checked.prog.wideKeysFrom ·)) = true := by kernel_rfl
theorem joinPeople_c18 : (Rows.joinPeopleSpec.vars.all (Tryz.checked.prog.varReadable ·)) = true := by kernel_rfl
theorem joinPeople_c19 : (Tryz.f6.resultTypes.all (fun t => Tryz.checked.prog.readableRec t && decide (t < Tryz.checked.prog.types.size))) = true := by kernel_rfl
theorem joinPeople_c20 : (Rows.joinPeopleRow.ifacesOut == Tryz.f6.resultTypes.toList.any (Tryz.checked.prog.ifacesRec ·)) = true := by kernel_rfl
theorem joinPeople_c21 : (Rows.joinPeopleRow.loopsOut == Tryz.f6.resultTypes.toList.any (Tryz.checked.prog.loopsFrom ·)) = true := by kernel_rfl
theorem joinPeople_c22 : (Rows.joinPeopleRow.plainKeys == Tryz.checked.prog.plainKeys) = true := by kernel_rfl
theorem joinPeople_c23 : (Rows.joinPeopleRow.shortTexts.isNone) = true := by kernel_rfl
theorem joinPeople_c24 : (Tryz.checked.prog.stopsHeard) = true := by kernel_rfl
theorem joinPeople_c25 : (Tryz.checked.prog.mayEnter) = true := by kernel_rfl
theorem joinPeople_c26 : (Rows.joinPeopleRow.lifted == Tryz.checked.prog.liftsFinal) = true := by kernel_rfl
theorem joinPeople_c27 : (Tryz.checked.prog.make == some Rows.joinPeopleRow.make) = true := by kernel_rfl
theorem joinPeople_c28 : (Rows.joinPeopleRow.kinds == (if Rows.joinPeopleRow.domain.isEmpty then [] else Tryz.f6.params.toList.map fun t => match Tryz.checked.prog.underlying t with | some (.int k) => some k | _ => none)) = true := by kernel_rfl
theorem joinPeople_c29 : (Rows.joinPeopleRow.pinned == Rows.joinPeopleRow.pinnedBy) = true := by kernel_rfl
theorem joinPeople_c30 : (Rows.joinPeopleRow.veiled == (Tryz.f6.params.toList ++ Rows.joinPeopleSpec.plain.varTypes Tryz.checked.prog ++ Tryz.f6.resultTypes.toList).any (Tryz.checked.prog.veiledRec ·)) = true := by kernel_rfl
theorem joinPeople_c31 : (Rows.joinPeopleRow.veiledFits Tryz.checked.prog Tryz.f6.params.toList (Tryz.f6.params.toList ++ Rows.joinPeopleSpec.plain.varTypes Tryz.checked.prog ++ Tryz.f6.resultTypes.toList)) = true := by kernel_rfl
set_option maxRecDepth 100000 in
theorem joinPeople_cl : joinedFacts Tryz.checked.prog 6 Tryz.f6 Rows.joinPeopleSpec Rows.joinPeopleRow = true := joined_of joinPeople_c0 joinPeople_c1 joinPeople_c2 joinPeople_c3 joinPeople_c4 joinPeople_c5 joinPeople_c6 joinPeople_c7 joinPeople_c8 joinPeople_c9 joinPeople_c10 joinPeople_c11 joinPeople_c12 joinPeople_c13 joinPeople_c14 joinPeople_c15 joinPeople_c16 joinPeople_c17 joinPeople_c18 joinPeople_c19 joinPeople_c20 joinPeople_c21 joinPeople_c22 joinPeople_c23 joinPeople_c24 joinPeople_c25 joinPeople_c26 joinPeople_c27 joinPeople_c28 joinPeople_c29 joinPeople_c30 joinPeople_c31
theorem joinPeople_fn : Tryz.checked.prog.funcNamed Rows.joinPeopleRow.func = some 6 := by kernel_rfl
theorem joinPeople_holds : Rows.JoinPeopleSaid :=
  OpenClaim.holds_of_wide 6 Tryz.f6 rfl rfl rfl rfl rfl rfl rfl ⟨rfl, rfl, rfl, rfl, rfl⟩ rfl rfl rfl rfl rfl joinPeople_fn Tryz.func6 joinPeople_cl
    (of_decide_eq_true (by kernel_rfl)) (by unfold Func.isWrapper; first | (rw [if_pos (by decide +kernel)]; kernel_rfl) | (rw [if_neg (by decide +kernel)]; exact ⟨rfl, rfl⟩))
    (fun os started H enc _ => joinPeople_lifted os started H enc)
end Go.Proofs.YtidjnjlejhoalaaGreat
