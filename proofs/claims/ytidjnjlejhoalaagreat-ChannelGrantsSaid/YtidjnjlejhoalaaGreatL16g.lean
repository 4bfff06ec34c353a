/- The statement vigillaw16.ChannelGrants holds: for every input the call returns true, and its arguments read as they did. No condition. -/
import Derived.Test.YtidjnjlejhoalaaGreatL16gb7
import Derived.Test.YtidjnjlejhoalaaGreatRows
set_option linter.unusedSimpArgs false
set_option linter.unusedVariables false
namespace Go.Proofs.YtidjnjlejhoalaaGreat
open Go.ChangeShapes Go.WideShapes Go.ChangeAt Go.RowKit
set_option maxRecDepth 100000 in
theorem channelGrants_lifted (os : Os) (started : os.Started) (H : Type) (enc : TypeId × Value → H) :
    ReturnsInHanded {} Tryz.checked os 3 .any (Rows.channelGrantsSpec.pre6 enc Tryz.prog Tryz.f3 Rows.channelGrantsRow.domain false) (Rows.channelGrantsSpec.post enc Tryz.prog Tryz.f3 false true false false) := by
  refine returnsInHanded_of_change (C := Tryz.checked) ownJ started (by kernel_rfl) Tryz.func3
    (ChangeSpec.witness6 (enc := enc) (C := Tryz.checked) false ⟨#[], #[.slice none 0 0, .agg ⟨[.int .i64 0, .int .i64 0]⟩, .agg ⟨[.int .i64 0, .int .i64 0, .int .i64 0, .int .i64 0]⟩, .slice none 0 0, .slice none 0 0], []⟩ 8 (by kernel_rfl) (by kernel_rfl) (by kernel_rfl) (by kernel_rfl)) ?_
  intro W base args ds gs before hval0 hW hcnd _
  have hval : ∀ (j : Nat) t v, Tryz.f3.params[j]? = some t → args[j]? = some v → Value.okWide Tryz.prog W .any base t v := hval0
  have hW' := hW
  obtain ⟨p, q, hA0, hV, rfl, hfz, hnd⟩ := hW
  have hA : DataW.TrodAll enc Tryz.prog W 0 (fun _ => true) true Tryz.f3.params.toList args.toList ds p := hA0
  rw [Tryz.params3] at hA hval
  obtain ⟨v0, v1, v2, v3, v4, d0, d1, d2, d3, d4, p0, p1, p2, p3, p4, rfl, rfl, rfl, h0, h1, h2, h3, h4⟩ := trodAll_fiveJ hA
  obtain ⟨rfl, rfl⟩ := trodVars_none hV
  obtain ⟨a0, rs0, cap0, rfl, hrd0, hcp0⟩ := open_rows u8V tb (ks := byKsJ) rfl rfl rfl rfl rfl rfl (fun _ => rfl) by_decJ (hval 0 22 v0 rfl rfl) h0
  obtain ⟨x1, rfl, _⟩ := open_flat ncL9 tb (t := 24) (ks := ncKs9) rfl rfl rfl rfl nc_dec9 (hval 1 24 v1 rfl rfl) h1
  obtain ⟨x2, rfl, _⟩ := open_flat Cl.v tb (t := 26) (ks := clKsJ) rfl rfl rfl rfl cl_decJ (hval 2 26 v2 rfl rfl) h2
  obtain ⟨a3, rs3, cap3, rfl, hrd3, hcp3⟩ := open_rows u8V tb (ks := byKsJ) rfl rfl rfl rfl rfl rfl (fun _ => rfl) by_decJ (hval 3 22 v3 rfl rfl) h3
  obtain ⟨a4, rs4, cap4, rfl, hrd4, hcp4⟩ := open_rows u8V tb (ks := byKsJ) rfl rfl rfl rfl rfl rfl (fun _ => rfl) by_decJ (hval 4 22 v4 rfl rfl) h4
  refine (grants16_ok a0 rs0.length cap0 rs0 a3 rs3.length cap3 rs3 a4 rs4.length cap4 rs4 x1.1 x1.2 x2 rfl rfl rfl hcp0.1 hcp3.1 hcp4.1 (byt_ofJ hcp0.2.2.1) (byt_ofJ hcp3.2.2.1) (byt_ofJ hcp4.2.2.1) W hrd0 hrd3 hrd4).run.mono fun e W' ⟨v, he, hv, hc⟩ => ?_
  subst hv
  exact ⟨_, he, law_post (tt := 4) hW' rfl rfl (by kernel_rfl) (by kernel_rfl) laidJ (by
    rw [Tryz.params3]
    intro t ht
    simp only [List.mem_cons, List.not_mem_nil, or_false] at ht
    rcases ht with rfl | rfl | rfl | rfl | rfl
    · exact ⟨by kernel_rfl, of_decide_eq_true (by kernel_rfl)⟩
    · exact ⟨by kernel_rfl, of_decide_eq_true (by kernel_rfl)⟩
    · exact ⟨by kernel_rfl, of_decide_eq_true (by kernel_rfl)⟩
    · exact ⟨by kernel_rfl, of_decide_eq_true (by kernel_rfl)⟩
    · exact ⟨by kernel_rfl, of_decide_eq_true (by kernel_rfl)⟩) hc.below⟩

theorem channelGrants_c0 : (Rows.channelGrantsRow.wf (OpenSpec.ofChange Rows.channelGrantsSpec)) = true := by kernel_rfl
theorem channelGrants_c1 : (laidOutB Tryz.checked.prog) = true := by kernel_rfl
theorem channelGrants_c2 : (mapsRowed Tryz.checked.prog) = true := by kernel_rfl
theorem channelGrants_c3 : (Tryz.f3.params.all (Tryz.checked.prog.readableRec ·)) = true := by kernel_rfl
theorem channelGrants_c4 : (namedTie Tryz.checked.prog Rows.channelGrantsRow.named Rows.channelGrantsSpec.vars) = true := by kernel_rfl
theorem channelGrants_c5 : (Rows.channelGrantsRow.stops == []) = true := by kernel_rfl
theorem channelGrants_c6 : (Tryz.checked.prog.stops == []) = true := by kernel_rfl
theorem channelGrants_c7 : (Rows.channelGrantsRow.knobs == []) = true := by kernel_rfl
theorem channelGrants_c8 : (Tryz.checked.prog.stopKnobs == []) = true := by kernel_rfl
theorem channelGrants_c9 : (Rows.channelGrantsRow.inPlace == Tryz.checked.prog.inPlace 3) = true := by kernel_rfl
theorem channelGrants_c10 : (Rows.channelGrantsRow.unfollowed == Tryz.checked.prog.unfollowed 3) = true := by kernel_rfl
theorem channelGrants_c11 : (Rows.channelGrantsRow.recurses == Tryz.checked.prog.recurses 3) = true := by kernel_rfl
theorem channelGrants_c12 : (Rows.channelGrantsRow.named == Tryz.checked.prog.varsNamed 3) = true := by kernel_rfl
theorem channelGrants_c13 : (Rows.channelGrantsRow.maps == (Tryz.f3.params.toList ++ Rows.channelGrantsSpec.plain.varTypes Tryz.checked.prog).any (Tryz.checked.prog.mapsRec ·)) = true := by kernel_rfl
theorem channelGrants_c14 : (Rows.channelGrantsRow.ifaces == (Tryz.f3.params.toList ++ Rows.channelGrantsSpec.plain.varTypes Tryz.checked.prog).any (Tryz.checked.prog.ifacesRec ·)) = true := by kernel_rfl
theorem channelGrants_c15 : (Rows.channelGrantsRow.mapsOut == Tryz.checked.prog.mapsAmong Tryz.f3.resultTypes.toList) = true := by kernel_rfl
theorem channelGrants_c16 : (Rows.channelGrantsRow.loops == (Tryz.f3.params.toList ++ Rows.channelGrantsSpec.plain.varTypes Tryz.checked.prog).any (Tryz.checked.prog.loopsFrom ·)) = true := by kernel_rfl
theorem channelGrants_c17 : (Rows.channelGrantsRow.wideKeys == (Tryz.f3.params.toList ++ Rows.channelGrantsSpec.plain.varTypes Tryz.checked.prog ++ Tryz.f3.resultTypes.toList).any (Tryz.checked.prog.wideKeysFrom ·)) = true := by kernel_rfl
theorem channelGrants_c18 : (Rows.channelGrantsSpec.vars.all (Tryz.checked.prog.varReadable ·)) = true := by kernel_rfl
theorem channelGrants_c19 : (Tryz.f3.resultTypes.all (fun t => Tryz.checked.prog.readableRec t && decide (t < Tryz.checked.prog.types.size))) = true := by kernel_rfl
theorem channelGrants_c20 : (Rows.channelGrantsRow.ifacesOut == Tryz.f3.resultTypes.toList.any (Tryz.checked.prog.ifacesRec ·)) = true := by kernel_rfl
theorem channelGrants_c21 : (Rows.channelGrantsRow.loopsOut == Tryz.f3.resultTypes.toList.any (Tryz.checked.prog.loopsFrom ·)) = true := by kernel_rfl
theorem channelGrants_c22 : (Rows.channelGrantsRow.plainKeys == Tryz.checked.prog.plainKeys) = true := by kernel_rfl
theorem channelGrants_c23 : (Rows.channelGrantsRow.shortTexts.isNone) = true := by kernel_rfl
theorem channelGrants_c24 : (Tryz.checked.prog.stopsHeard) = true := by kernel_rfl
theorem channelGrants_c25 : (Tryz.checked.prog.mayEnter) = true := by kernel_rfl
theorem channelGrants_c26 : (Rows.channelGrantsRow.lifted == Tryz.checked.prog.liftsFinal) = true := by kernel_rfl
theorem channelGrants_c27 : (Tryz.checked.prog.make == some Rows.channelGrantsRow.make) = true := by kernel_rfl
theorem channelGrants_c28 : (Rows.channelGrantsRow.kinds == (if Rows.channelGrantsRow.domain.isEmpty then [] else Tryz.f3.params.toList.map fun t => match Tryz.checked.prog.underlying t with | some (.int k) => some k | _ => none)) = true := by kernel_rfl
theorem channelGrants_c29 : (Rows.channelGrantsRow.pinned == Rows.channelGrantsRow.pinnedBy) = true := by kernel_rfl
theorem channelGrants_c30 : (Rows.channelGrantsRow.veiled == (Tryz.f3.params.toList ++ Rows.channelGrantsSpec.plain.varTypes Tryz.checked.prog ++ Tryz.f3.resultTypes.toList).any (Tryz.checked.prog.veiledRec ·)) = true := by kernel_rfl
theorem channelGrants_c31 : (Rows.channelGrantsRow.veiledFits Tryz.checked.prog Tryz.f3.params.toList (Tryz.f3.params.toList ++ Rows.channelGrantsSpec.plain.varTypes Tryz.checked.prog ++ Tryz.f3.resultTypes.toList)) = true := by kernel_rfl
set_option maxRecDepth 100000 in
theorem channelGrants_cl : joinedFacts Tryz.checked.prog 3 Tryz.f3 Rows.channelGrantsSpec Rows.channelGrantsRow = true := joined_of channelGrants_c0 channelGrants_c1 channelGrants_c2 channelGrants_c3 channelGrants_c4 channelGrants_c5 channelGrants_c6 channelGrants_c7 channelGrants_c8 channelGrants_c9 channelGrants_c10 channelGrants_c11 channelGrants_c12 channelGrants_c13 channelGrants_c14 channelGrants_c15 channelGrants_c16 channelGrants_c17 channelGrants_c18 channelGrants_c19 channelGrants_c20 channelGrants_c21 channelGrants_c22 channelGrants_c23 channelGrants_c24 channelGrants_c25 channelGrants_c26 channelGrants_c27 channelGrants_c28 channelGrants_c29 channelGrants_c30 channelGrants_c31
theorem channelGrants_fn : Tryz.checked.prog.funcNamed Rows.channelGrantsRow.func = some 3 := by kernel_rfl
theorem channelGrants_holds : Rows.ChannelGrantsSaid :=
  OpenClaim.holds_of_wide 3 Tryz.f3 rfl rfl rfl rfl rfl rfl rfl ⟨rfl, rfl, rfl, rfl, rfl⟩ rfl rfl rfl rfl rfl channelGrants_fn Tryz.func3 channelGrants_cl
    (of_decide_eq_true (by kernel_rfl)) (by unfold Func.isWrapper; first | (rw [if_pos (by decide +kernel)]; kernel_rfl) | (rw [if_neg (by decide +kernel)]; exact ⟨rfl, rfl⟩))
    (fun os started H enc _ => channelGrants_lifted os started H enc)
end Go.Proofs.YtidjnjlejhoalaaGreat
