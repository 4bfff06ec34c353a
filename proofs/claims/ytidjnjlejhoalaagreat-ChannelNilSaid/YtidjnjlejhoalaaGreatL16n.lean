/- The statement vigillaw16.ChannelNil holds: for every input the call returns true, and its arguments read as they did. No condition. -/
import Derived.Test.YtidjnjlejhoalaaGreatL16nb5
import Derived.Test.YtidjnjlejhoalaaGreatRows
set_option linter.unusedSimpArgs false
set_option linter.unusedVariables false
namespace Go.Proofs.YtidjnjlejhoalaaGreat
open Go.ChangeShapes Go.WideShapes Go.ChangeAt Go.RowKit
set_option maxRecDepth 100000 in
theorem channelNil_lifted (os : Os) (started : os.Started) (H : Type) (enc : TypeId × Value → H) :
    ReturnsInHanded {} Tryz.checked os 9 .any (Rows.channelNilSpec.pre6 enc Tryz.prog Tryz.f9 Rows.channelNilRow.domain false) (Rows.channelNilSpec.post enc Tryz.prog Tryz.f9 false true false false) := by
  refine returnsInHanded_of_change (C := Tryz.checked) ownJ started (by kernel_rfl) Tryz.func9
    (ChangeSpec.witness6 (enc := enc) (C := Tryz.checked) false ⟨#[], #[.agg ⟨[.int .i64 0, .int .i64 0, .int .i64 0, .int .i64 0]⟩, .int .i64 0, .slice none 0 0], []⟩ 8 (by kernel_rfl) (by kernel_rfl) (by kernel_rfl) (by kernel_rfl)) ?_
  intro W base args ds gs before hval0 hW hcnd _
  have hval : ∀ (j : Nat) t v, Tryz.f9.params[j]? = some t → args[j]? = some v → Value.okWide Tryz.prog W .any base t v := hval0
  have hW' := hW
  obtain ⟨p, q, hA0, hV, rfl, hfz, hnd⟩ := hW
  have hA : DataW.TrodAll enc Tryz.prog W 0 (fun _ => true) true Tryz.f9.params.toList args.toList ds p := hA0
  rw [Tryz.params9] at hA hval
  obtain ⟨v0, v1, v2, d0, d1, d2, p0, p1, p2, rfl, rfl, rfl, h0, h1, h2⟩ := trodAll_three hA
  obtain ⟨rfl, rfl⟩ := trodVars_none hV
  obtain ⟨x0, rfl, _⟩ := open_flat Cl.v tb (t := 26) (ks := clKsJ) rfl rfl rfl rfl cl_decJ (hval 0 26 v0 rfl rfl) h0
  obtain ⟨n1, rfl, rfl, rfl, wn1⟩ := open_int (k := .i64) (by kernel_rfl) (hval 1 3 v1 rfl rfl) h1
  obtain ⟨a2, rs2, cap2, rfl, hrd2, hcp2⟩ := open_rows u8V tb (ks := byKsJ) rfl rfl rfl rfl rfl rfl (fun _ => rfl) by_decJ (hval 2 22 v2 rfl rfl) h2
  refine ((chNil_ok x0 n1 a2 rs2.length cap2).at W).run.mono fun e W' ⟨v, he, hv, hc⟩ => ?_
  subst hv
  exact ⟨_, he, law_post (tt := 4) hW' rfl rfl (by kernel_rfl) (by kernel_rfl) laidJ (by
    rw [Tryz.params9]
    intro t ht
    simp only [List.mem_cons, List.not_mem_nil, or_false] at ht
    rcases ht with rfl | rfl | rfl
    · exact ⟨by kernel_rfl, of_decide_eq_true (by kernel_rfl)⟩
    · exact ⟨by kernel_rfl, of_decide_eq_true (by kernel_rfl)⟩
    · exact ⟨by kernel_rfl, of_decide_eq_true (by kernel_rfl)⟩) hc.below⟩

theorem channelNil_c0 : (Rows.channelNilRow.wf (OpenSpec.ofChange Rows.channelNilSpec)) = true := by kernel_rfl
theorem channelNil_c1 : (laidOutB Tryz.checked.prog) = true := by kernel_rfl
theorem channelNil_c2 : (mapsRowed Tryz.checked.prog) = true := by kernel_rfl
theorem channelNil_c3 : (Tryz.f9.params.all (Tryz.checked.prog.readableRec ·)) = true := by kernel_rfl
theorem channelNil_c4 : (namedTie Tryz.checked.prog Rows.channelNilRow.named Rows.channelNilSpec.vars) = true := by kernel_rfl
theorem channelNil_c5 : (Rows.channelNilRow.stops == []) = true := by kernel_rfl
theorem channelNil_c6 : (Tryz.checked.prog.stops == []) = true := by kernel_rfl
theorem channelNil_c7 : (Rows.channelNilRow.knobs == []) = true := by kernel_rfl
theorem channelNil_c8 : (Tryz.checked.prog.stopKnobs == []) = true := by kernel_rfl
theorem channelNil_c9 : (Rows.channelNilRow.inPlace == Tryz.checked.prog.inPlace 9) = true := by kernel_rfl
theorem channelNil_c10 : (Rows.channelNilRow.unfollowed == Tryz.checked.prog.unfollowed 9) = true := by kernel_rfl
theorem channelNil_c11 : (Rows.channelNilRow.recurses == Tryz.checked.prog.recurses 9) = true := by kernel_rfl
theorem channelNil_c12 : (Rows.channelNilRow.named == Tryz.checked.prog.varsNamed 9) = true := by kernel_rfl
theorem channelNil_c13 : (Rows.channelNilRow.maps == (Tryz.f9.params.toList ++ Rows.channelNilSpec.plain.varTypes Tryz.checked.prog).any (Tryz.checked.prog.mapsRec ·)) = true := by kernel_rfl
theorem channelNil_c14 : (Rows.channelNilRow.ifaces == (Tryz.f9.params.toList ++ Rows.channelNilSpec.plain.varTypes Tryz.checked.prog).any (Tryz.checked.prog.ifacesRec ·)) = true := by kernel_rfl
theorem channelNil_c15 : (Rows.channelNilRow.mapsOut == Tryz.checked.prog.mapsAmong Tryz.f9.resultTypes.toList) = true := by kernel_rfl
theorem channelNil_c16 : (Rows.channelNilRow.loops == (Tryz.f9.params.toList ++ Rows.channelNilSpec.plain.varTypes Tryz.checked.prog).any (Tryz.checked.prog.loopsFrom ·)) = true := by kernel_rfl
theorem channelNil_c17 : (Rows.channelNilRow.wideKeys == (Tryz.f9.params.toList ++ Rows.channelNilSpec.plain.varTypes Tryz.checked.prog ++ Tryz.f9.resultTypes.toList).any (Tryz.checked.prog.wideKeysFrom ·)) = true := by kernel_rfl
theorem channelNil_c18 : (Rows.channelNilSpec.vars.all (Tryz.checked.prog.varReadable ·)) = true := by kernel_rfl
theorem channelNil_c19 : (Tryz.f9.resultTypes.all (fun t => Tryz.checked.prog.readableRec t && decide (t < Tryz.checked.prog.types.size))) = true := by kernel_rfl
theorem channelNil_c20 : (Rows.channelNilRow.ifacesOut == Tryz.f9.resultTypes.toList.any (Tryz.checked.prog.ifacesRec ·)) = true := by kernel_rfl
theorem channelNil_c21 : (Rows.channelNilRow.loopsOut == Tryz.f9.resultTypes.toList.any (Tryz.checked.prog.loopsFrom ·)) = true := by kernel_rfl
theorem channelNil_c22 : (Rows.channelNilRow.plainKeys == Tryz.checked.prog.plainKeys) = true := by kernel_rfl
theorem channelNil_c23 : (Rows.channelNilRow.shortTexts.isNone) = true := by kernel_rfl
theorem channelNil_c24 : (Tryz.checked.prog.stopsHeard) = true := by kernel_rfl
theorem channelNil_c25 : (Tryz.checked.prog.mayEnter) = true := by kernel_rfl
theorem channelNil_c26 : (Rows.channelNilRow.lifted == Tryz.checked.prog.liftsFinal) = true := by kernel_rfl
theorem channelNil_c27 : (Tryz.checked.prog.make == some Rows.channelNilRow.make) = true := by kernel_rfl
theorem channelNil_c28 : (Rows.channelNilRow.kinds == (if Rows.channelNilRow.domain.isEmpty then [] else Tryz.f9.params.toList.map fun t => match Tryz.checked.prog.underlying t with | some (.int k) => some k | _ => none)) = true := by kernel_rfl
theorem channelNil_c29 : (Rows.channelNilRow.pinned == Rows.channelNilRow.pinnedBy) = true := by kernel_rfl
theorem channelNil_c30 : (Rows.channelNilRow.veiled == (Tryz.f9.params.toList ++ Rows.channelNilSpec.plain.varTypes Tryz.checked.prog ++ Tryz.f9.resultTypes.toList).any (Tryz.checked.prog.veiledRec ·)) = true := by kernel_rfl
theorem channelNil_c31 : (Rows.channelNilRow.veiledFits Tryz.checked.prog Tryz.f9.params.toList (Tryz.f9.params.toList ++ Rows.channelNilSpec.plain.varTypes Tryz.checked.prog ++ Tryz.f9.resultTypes.toList)) = true := by kernel_rfl
set_option maxRecDepth 100000 in
theorem channelNil_cl : joinedFacts Tryz.checked.prog 9 Tryz.f9 Rows.channelNilSpec Rows.channelNilRow = true := joined_of channelNil_c0 channelNil_c1 channelNil_c2 channelNil_c3 channelNil_c4 channelNil_c5 channelNil_c6 channelNil_c7 channelNil_c8 channelNil_c9 channelNil_c10 channelNil_c11 channelNil_c12 channelNil_c13 channelNil_c14 channelNil_c15 channelNil_c16 channelNil_c17 channelNil_c18 channelNil_c19 channelNil_c20 channelNil_c21 channelNil_c22 channelNil_c23 channelNil_c24 channelNil_c25 channelNil_c26 channelNil_c27 channelNil_c28 channelNil_c29 channelNil_c30 channelNil_c31
theorem channelNil_fn : Tryz.checked.prog.funcNamed Rows.channelNilRow.func = some 9 := by kernel_rfl
theorem channelNil_holds : Rows.ChannelNilSaid :=
  OpenClaim.holds_of_wide 9 Tryz.f9 rfl rfl rfl rfl rfl rfl rfl ⟨rfl, rfl, rfl, rfl, rfl⟩ rfl rfl rfl rfl rfl channelNil_fn Tryz.func9 channelNil_cl
    (of_decide_eq_true (by kernel_rfl)) (by unfold Func.isWrapper; first | (rw [if_pos (by decide +kernel)]; kernel_rfl) | (rw [if_neg (by decide +kernel)]; exact ⟨rfl, rfl⟩))
    (fun os started H enc _ => channelNil_lifted os started H enc)
end Go.Proofs.YtidjnjlejhoalaaGreat
