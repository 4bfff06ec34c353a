/- The statement vigillaw16.ChannelWrites holds: for every input the call returns true, and its arguments read as they did. No condition. -/
import Derived.Test.YtidjnjlejhoalaaGreatL16wb7
import Derived.Test.YtidjnjlejhoalaaGreatRows
set_option linter.unusedSimpArgs false
set_option linter.unusedVariables false
namespace Go.Proofs.YtidjnjlejhoalaaGreat
open Go.ChangeShapes Go.WideShapes Go.ChangeAt Go.RowKit
set_option maxRecDepth 100000 in
theorem channelWrites_lifted (os : Os) (started : os.Started) (H : Type) (enc : TypeId × Value → H) :
    ReturnsInHanded {} Tryz.checked os 8 .any (Rows.channelWritesSpec.pre6 enc Tryz.prog Tryz.f8 Rows.channelWritesRow.domain false) (Rows.channelWritesSpec.post enc Tryz.prog Tryz.f8 false true false false) := by
  refine returnsInHanded_of_change (C := Tryz.checked) ownJ started (by kernel_rfl) Tryz.func8
    (ChangeSpec.witness6 (enc := enc) (C := Tryz.checked) false ⟨#[], #[.slice none 0 0, .agg ⟨[.int .i64 0, .int .i64 0, .int .i64 0, .int .i64 0]⟩, .int .i64 0, .slice none 0 0], []⟩ 8 (by kernel_rfl) (by kernel_rfl) (by kernel_rfl) (by kernel_rfl)) ?_
  intro W base args ds gs before hval0 hW hcnd _
  have hval : ∀ (j : Nat) t v, Tryz.f8.params[j]? = some t → args[j]? = some v → Value.okWide Tryz.prog W .any base t v := hval0
  have hW' := hW
  obtain ⟨p, q, hA0, hV, rfl, hfz, hnd⟩ := hW
  have hA : DataW.TrodAll enc Tryz.prog W 0 (fun _ => true) true Tryz.f8.params.toList args.toList ds p := hA0
  rw [Tryz.params8] at hA hval
  obtain ⟨v0, v1, v2, v3, d0, d1, d2, d3, p0, p1, p2, p3, rfl, rfl, rfl, h0, h1, h2, h3⟩ := trodAll_four hA
  obtain ⟨rfl, rfl⟩ := trodVars_none hV
  obtain ⟨a0, rs0, cap0, rfl, hrd0, hcp0⟩ := open_rows u8V tb (ks := byKsJ) rfl rfl rfl rfl rfl rfl (fun _ => rfl) by_decJ (hval 0 22 v0 rfl rfl) h0
  obtain ⟨x1, rfl, _⟩ := open_flat Cl.v tb (t := 26) (ks := clKsJ) rfl rfl rfl rfl cl_decJ (hval 1 26 v1 rfl rfl) h1
  obtain ⟨n2, rfl, rfl, rfl, wn2⟩ := open_int (k := .i64) (by kernel_rfl) (hval 2 3 v2 rfl rfl) h2
  obtain ⟨a3, rs3, cap3, rfl, hrd3, hcp3⟩ := Opens.argSl tb (t := 122) rfl rfl (hval 3 122 v3 rfl rfl) (Opens.slice LT.v _ tb rfl rfl rfl rfl (fun _ => rfl) lt_opens) h3
  refine (writes16_ok a0 rs0.length cap0 rs0 rfl hcp0.1 (byt_ofJ hcp0.2.2.1) x1 n2 a3 cap3 rs3 W hrd0 hrd3 hcp3.2.2.1).run.mono fun e W' ⟨v, he, hv, hc⟩ => ?_
  subst hv
  exact ⟨_, he, law_post (tt := 4) hW' rfl rfl (by kernel_rfl) (by kernel_rfl) laidJ (by
    rw [Tryz.params8]
    intro t ht
    simp only [List.mem_cons, List.not_mem_nil, or_false] at ht
    rcases ht with rfl | rfl | rfl | rfl
    · exact ⟨by kernel_rfl, of_decide_eq_true (by kernel_rfl)⟩
    · exact ⟨by kernel_rfl, of_decide_eq_true (by kernel_rfl)⟩
    · exact ⟨by kernel_rfl, of_decide_eq_true (by kernel_rfl)⟩
    · exact ⟨by kernel_rfl, of_decide_eq_true (by kernel_rfl)⟩) hc.below⟩

theorem channelWrites_c0 : (Rows.channelWritesRow.wf (OpenSpec.ofChange Rows.channelWritesSpec)) = true := by kernel_rfl
theorem channelWrites_c1 : (laidOutB Tryz.checked.prog) = true := by kernel_rfl
theorem channelWrites_c2 : (mapsRowed Tryz.checked.prog) = true := by kernel_rfl
theorem channelWrites_c3 : (Tryz.f8.params.all (Tryz.checked.prog.readableRec ·)) = true := by kernel_rfl
theorem channelWrites_c4 : (namedTie Tryz.checked.prog Rows.channelWritesRow.named Rows.channelWritesSpec.vars) = true := by kernel_rfl
theorem channelWrites_c5 : (Rows.channelWritesRow.stops == []) = true := by kernel_rfl
theorem channelWrites_c6 : (Tryz.checked.prog.stops == []) = true := by kernel_rfl
theorem channelWrites_c7 : (Rows.channelWritesRow.knobs == []) = true := by kernel_rfl
theorem channelWrites_c8 : (Tryz.checked.prog.stopKnobs == []) = true := by kernel_rfl
theorem channelWrites_c9 : (Rows.channelWritesRow.inPlace == Tryz.checked.prog.inPlace 8) = true := by kernel_rfl
theorem channelWrites_c10 : (Rows.channelWritesRow.unfollowed == Tryz.checked.prog.unfollowed 8) = true := by kernel_rfl
theorem channelWrites_c11 : (Rows.channelWritesRow.recurses == Tryz.checked.prog.recurses 8) = true := by kernel_rfl
theorem channelWrites_c12 : (Rows.channelWritesRow.named == Tryz.checked.prog.varsNamed 8) = true := by kernel_rfl
theorem channelWrites_c13 : (Rows.channelWritesRow.maps == (Tryz.f8.params.toList ++ Rows.channelWritesSpec.plain.varTypes Tryz.checked.prog).any (Tryz.checked.prog.mapsRec ·)) = true := by kernel_rfl
theorem channelWrites_c14 : (Rows.channelWritesRow.ifaces == (Tryz.f8.params.toList ++ Rows.channelWritesSpec.plain.varTypes Tryz.checked.prog).any (Tryz.checked.prog.ifacesRec ·)) = true := by kernel_rfl
theorem channelWrites_c15 : (Rows.channelWritesRow.mapsOut == Tryz.checked.prog.mapsAmong Tryz.f8.resultTypes.toList) = true := by kernel_rfl
theorem channelWrites_c16 : (Rows.channelWritesRow.loops == (Tryz.f8.params.toList ++ Rows.channelWritesSpec.plain.varTypes Tryz.checked.prog).any (Tryz.checked.prog.loopsFrom ·)) = true := by kernel_rfl
theorem channelWrites_c17 : (Rows.channelWritesRow.wideKeys == (Tryz.f8.params.toList ++ Rows.channelWritesSpec.plain.varTypes Tryz.checked.prog ++ Tryz.f8.resultTypes.toList).any (Tryz.checked.prog.wideKeysFrom ·)) = true := by kernel_rfl
theorem channelWrites_c18 : (Rows.channelWritesSpec.vars.all (Tryz.checked.prog.varReadable ·)) = true := by kernel_rfl
theorem channelWrites_c19 : (Tryz.f8.resultTypes.all (fun t => Tryz.checked.prog.readableRec t && decide (t < Tryz.checked.prog.types.size))) = true := by kernel_rfl
theorem channelWrites_c20 : (Rows.channelWritesRow.ifacesOut == Tryz.f8.resultTypes.toList.any (Tryz.checked.prog.ifacesRec ·)) = true := by kernel_rfl
theorem channelWrites_c21 : (Rows.channelWritesRow.loopsOut == Tryz.f8.resultTypes.toList.any (Tryz.checked.prog.loopsFrom ·)) = true := by kernel_rfl
theorem channelWrites_c22 : (Rows.channelWritesRow.plainKeys == Tryz.checked.prog.plainKeys) = true := by kernel_rfl
theorem channelWrites_c23 : (Rows.channelWritesRow.shortTexts.isNone) = true := by kernel_rfl
theorem channelWrites_c24 : (Tryz.checked.prog.stopsHeard) = true := by kernel_rfl
theorem channelWrites_c25 : (Tryz.checked.prog.mayEnter) = true := by kernel_rfl
theorem channelWrites_c26 : (Rows.channelWritesRow.lifted == Tryz.checked.prog.liftsFinal) = true := by kernel_rfl
theorem channelWrites_c27 : (Tryz.checked.prog.make == some Rows.channelWritesRow.make) = true := by kernel_rfl
theorem channelWrites_c28 : (Rows.channelWritesRow.kinds == (if Rows.channelWritesRow.domain.isEmpty then [] else Tryz.f8.params.toList.map fun t => match Tryz.checked.prog.underlying t with | some (.int k) => some k | _ => none)) = true := by kernel_rfl
theorem channelWrites_c29 : (Rows.channelWritesRow.pinned == Rows.channelWritesRow.pinnedBy) = true := by kernel_rfl
theorem channelWrites_c30 : (Rows.channelWritesRow.veiled == (Tryz.f8.params.toList ++ Rows.channelWritesSpec.plain.varTypes Tryz.checked.prog ++ Tryz.f8.resultTypes.toList).any (Tryz.checked.prog.veiledRec ·)) = true := by kernel_rfl
theorem channelWrites_c31 : (Rows.channelWritesRow.veiledFits Tryz.checked.prog Tryz.f8.params.toList (Tryz.f8.params.toList ++ Rows.channelWritesSpec.plain.varTypes Tryz.checked.prog ++ Tryz.f8.resultTypes.toList)) = true := by kernel_rfl
set_option maxRecDepth 100000 in
theorem channelWrites_cl : joinedFacts Tryz.checked.prog 8 Tryz.f8 Rows.channelWritesSpec Rows.channelWritesRow = true := joined_of channelWrites_c0 channelWrites_c1 channelWrites_c2 channelWrites_c3 channelWrites_c4 channelWrites_c5 channelWrites_c6 channelWrites_c7 channelWrites_c8 channelWrites_c9 channelWrites_c10 channelWrites_c11 channelWrites_c12 channelWrites_c13 channelWrites_c14 channelWrites_c15 channelWrites_c16 channelWrites_c17 channelWrites_c18 channelWrites_c19 channelWrites_c20 channelWrites_c21 channelWrites_c22 channelWrites_c23 channelWrites_c24 channelWrites_c25 channelWrites_c26 channelWrites_c27 channelWrites_c28 channelWrites_c29 channelWrites_c30 channelWrites_c31
theorem channelWrites_fn : Tryz.checked.prog.funcNamed Rows.channelWritesRow.func = some 8 := by kernel_rfl
theorem channelWrites_holds : Rows.ChannelWritesSaid :=
  OpenClaim.holds_of_wide 8 Tryz.f8 rfl rfl rfl rfl rfl rfl rfl ⟨rfl, rfl, rfl, rfl, rfl⟩ rfl rfl rfl rfl rfl channelWrites_fn Tryz.func8 channelWrites_cl
    (of_decide_eq_true (by kernel_rfl)) (by unfold Func.isWrapper; first | (rw [if_pos (by decide +kernel)]; kernel_rfl) | (rw [if_neg (by decide +kernel)]; exact ⟨rfl, rfl⟩))
    (fun os started H enc _ => channelWrites_lifted os started H enc)
end Go.Proofs.YtidjnjlejhoalaaGreat
