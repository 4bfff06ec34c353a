/- The statement vigillaw18.JoinOrder holds: for every input the call returns true, and its arguments read as they did. No condition. -/
import Derived.Test.YtidjnjlejhoalaaGreatL18ob7
import Derived.Test.YtidjnjlejhoalaaGreatRows
set_option linter.unusedSimpArgs false
set_option linter.unusedVariables false
namespace Go.Proofs.YtidjnjlejhoalaaGreat
open Go.ChangeShapes Go.WideShapes Go.ChangeAt Go.RowKit
set_option maxRecDepth 100000 in
theorem joinOrder_lifted (os : Os) (started : os.Started) (H : Type) (enc : TypeId × Value → H) :
    ReturnsInHanded {} Tryz.checked os 12 .any (Rows.joinOrderSpec.pre6 enc Tryz.prog Tryz.f12 Rows.joinOrderRow.domain false) (Rows.joinOrderSpec.post enc Tryz.prog Tryz.f12 false true false false) := by
  refine returnsInHanded_of_change (C := Tryz.checked) ownJ started (by kernel_rfl) Tryz.func12
    (ChangeSpec.witness6 (enc := enc) (C := Tryz.checked) false ⟨#[], #[.slice none 0 0, .int .i64 0, .slice none 0 0], []⟩ 8 (by kernel_rfl) (by kernel_rfl) (by kernel_rfl) (by kernel_rfl)) ?_
  intro W base args ds gs before hval0 hW hcnd _
  have hval : ∀ (j : Nat) t v, Tryz.f12.params[j]? = some t → args[j]? = some v → Value.okWide Tryz.prog W .any base t v := hval0
  have hW' := hW
  obtain ⟨p, q, hA0, hV, rfl, hfz, hnd⟩ := hW
  have hA : DataW.TrodAll enc Tryz.prog W 0 (fun _ => true) true Tryz.f12.params.toList args.toList ds p := hA0
  rw [Tryz.params12] at hA hval
  obtain ⟨v0, v1, v2, d0, d1, d2, p0, p1, p2, rfl, rfl, rfl, h0, h1, h2⟩ := trodAll_three hA
  obtain ⟨rfl, rfl⟩ := trodVars_none hV
  obtain ⟨a0, rs0, cap0, rfl, hrd0, hcp0⟩ := open_rows u8V tb (ks := byKsJ) rfl rfl rfl rfl rfl rfl (fun _ => rfl) by_decJ (hval 0 22 v0 rfl rfl) h0
  obtain ⟨n1, rfl, rfl, rfl, wn1⟩ := open_int (k := .i64) (by kernel_rfl) (hval 1 3 v1 rfl rfl) h1
  obtain ⟨a2, rs2, cap2, rfl, hrd2, hcp2⟩ := Opens.argSl tb (t := 164) rfl rfl (hval 2 164 v2 rfl rfl) (Opens.slice JAct.v _ tb rfl rfl rfl rfl (fun x => x.v_len) ja_opens) h2
  refine (order18_ok a0 rs0.length cap0 rs0 rfl hcp0.1 (byt_ofJ hcp0.2.2.1) n1 a2 cap2 rs2 W hrd0 hrd2 hcp2.2.2.1).run.mono fun e W' ⟨v, he, hv, hc⟩ => ?_
  subst hv
  exact ⟨_, he, law_post (tt := 4) hW' rfl rfl (by kernel_rfl) (by kernel_rfl) laidJ (by
    rw [Tryz.params12]
    intro t ht
    simp only [List.mem_cons, List.not_mem_nil, or_false] at ht
    rcases ht with rfl | rfl | rfl
    · exact ⟨by kernel_rfl, of_decide_eq_true (by kernel_rfl)⟩
    · exact ⟨by kernel_rfl, of_decide_eq_true (by kernel_rfl)⟩
    · exact ⟨by kernel_rfl, of_decide_eq_true (by kernel_rfl)⟩) hc.below⟩

theorem joinOrder_c0 : (Rows.joinOrderRow.wf (OpenSpec.ofChange Rows.joinOrderSpec)) = true := by kernel_rfl
theorem joinOrder_c1 : (laidOutB Tryz.checked.prog) = true := by kernel_rfl
theorem joinOrder_c2 : (mapsRowed Tryz.checked.prog) = true := by kernel_rfl
theorem joinOrder_c3 : (Tryz.f12.params.all (Tryz.checked.prog.readableRec ·)) = true := by kernel_rfl
theorem joinOrder_c4 : (namedTie Tryz.checked.prog Rows.joinOrderRow.named Rows.joinOrderSpec.vars) = true := by kernel_rfl
theorem joinOrder_c5 : (Rows.joinOrderRow.stops == []) = true := by kernel_rfl
theorem joinOrder_c6 : (Tryz.checked.prog.stops == []) = true := by kernel_rfl
theorem joinOrder_c7 : (Rows.joinOrderRow.knobs == []) = true := by kernel_rfl
theorem joinOrder_c8 : (Tryz.checked.prog.stopKnobs == []) = true := by kernel_rfl
theorem joinOrder_c9 : (Rows.joinOrderRow.inPlace == Tryz.checked.prog.inPlace 12) = true := by kernel_rfl
theorem joinOrder_c10 : (Rows.joinOrderRow.unfollowed == Tryz.checked.prog.unfollowed 12) = true := by kernel_rfl
theorem joinOrder_c11 : (Rows.joinOrderRow.recurses == Tryz.checked.prog.recurses 12) = true := by kernel_rfl
theorem joinOrder_c12 : (Rows.joinOrderRow.named == Tryz.checked.prog.varsNamed 12) = true := by kernel_rfl
theorem joinOrder_c13 : (Rows.joinOrderRow.maps == (Tryz.f12.params.toList ++ Rows.joinOrderSpec.plain.varTypes Tryz.checked.prog).any (Tryz.checked.prog.mapsRec ·)) = true := by kernel_rfl
theorem joinOrder_c14 : (Rows.joinOrderRow.ifaces == (Tryz.f12.params.toList ++ Rows.joinOrderSpec.plain.varTypes Tryz.checked.prog).any (Tryz.checked.prog.ifacesRec ·)) = true := by kernel_rfl
theorem joinOrder_c15 : (Rows.joinOrderRow.mapsOut == Tryz.checked.prog.mapsAmong Tryz.f12.resultTypes.toList) = true := by kernel_rfl
theorem joinOrder_c16 : (Rows.joinOrderRow.loops == (Tryz.f12.params.toList ++ Rows.joinOrderSpec.plain.varTypes Tryz.checked.prog).any (Tryz.checked.prog.loopsFrom ·)) = true := by kernel_rfl
theorem joinOrder_c17 : (Rows.joinOrderRow.wideKeys == (Tryz.f12.params.toList ++ Rows.joinOrderSpec.plain.varTypes Tryz.checked.prog ++ Tryz.f12.resultTypes.toList).any (Tryz.checked.prog.wideKeysFrom ·)) = true := by kernel_rfl
theorem joinOrder_c18 : (Rows.joinOrderSpec.vars.all (Tryz.checked.prog.varReadable ·)) = true := by kernel_rfl
theorem joinOrder_c19 : (Tryz.f12.resultTypes.all (fun t => Tryz.checked.prog.readableRec t && decide (t < Tryz.checked.prog.types.size))) = true := by kernel_rfl
theorem joinOrder_c20 : (Rows.joinOrderRow.ifacesOut == Tryz.f12.resultTypes.toList.any (Tryz.checked.prog.ifacesRec ·)) = true := by kernel_rfl
theorem joinOrder_c21 : (Rows.joinOrderRow.loopsOut == Tryz.f12.resultTypes.toList.any (Tryz.checked.prog.loopsFrom ·)) = true := by kernel_rfl
theorem joinOrder_c22 : (Rows.joinOrderRow.plainKeys == Tryz.checked.prog.plainKeys) = true := by kernel_rfl
theorem joinOrder_c23 : (Rows.joinOrderRow.shortTexts.isNone) = true := by kernel_rfl
theorem joinOrder_c24 : (Tryz.checked.prog.stopsHeard) = true := by kernel_rfl
theorem joinOrder_c25 : (Tryz.checked.prog.mayEnter) = true := by kernel_rfl
theorem joinOrder_c26 : (Rows.joinOrderRow.lifted == Tryz.checked.prog.liftsFinal) = true := by kernel_rfl
theorem joinOrder_c27 : (Tryz.checked.prog.make == some Rows.joinOrderRow.make) = true := by kernel_rfl
theorem joinOrder_c28 : (Rows.joinOrderRow.kinds == (if Rows.joinOrderRow.domain.isEmpty then [] else Tryz.f12.params.toList.map fun t => match Tryz.checked.prog.underlying t with | some (.int k) => some k | _ => none)) = true := by kernel_rfl
theorem joinOrder_c29 : (Rows.joinOrderRow.pinned == Rows.joinOrderRow.pinnedBy) = true := by kernel_rfl
theorem joinOrder_c30 : (Rows.joinOrderRow.veiled == (Tryz.f12.params.toList ++ Rows.joinOrderSpec.plain.varTypes Tryz.checked.prog ++ Tryz.f12.resultTypes.toList).any (Tryz.checked.prog.veiledRec ·)) = true := by kernel_rfl
theorem joinOrder_c31 : (Rows.joinOrderRow.veiledFits Tryz.checked.prog Tryz.f12.params.toList (Tryz.f12.params.toList ++ Rows.joinOrderSpec.plain.varTypes Tryz.checked.prog ++ Tryz.f12.resultTypes.toList)) = true := by kernel_rfl
set_option maxRecDepth 100000 in
theorem joinOrder_cl : joinedFacts Tryz.checked.prog 12 Tryz.f12 Rows.joinOrderSpec Rows.joinOrderRow = true := joined_of joinOrder_c0 joinOrder_c1 joinOrder_c2 joinOrder_c3 joinOrder_c4 joinOrder_c5 joinOrder_c6 joinOrder_c7 joinOrder_c8 joinOrder_c9 joinOrder_c10 joinOrder_c11 joinOrder_c12 joinOrder_c13 joinOrder_c14 joinOrder_c15 joinOrder_c16 joinOrder_c17 joinOrder_c18 joinOrder_c19 joinOrder_c20 joinOrder_c21 joinOrder_c22 joinOrder_c23 joinOrder_c24 joinOrder_c25 joinOrder_c26 joinOrder_c27 joinOrder_c28 joinOrder_c29 joinOrder_c30 joinOrder_c31
theorem joinOrder_fn : Tryz.checked.prog.funcNamed Rows.joinOrderRow.func = some 12 := by kernel_rfl
theorem joinOrder_holds : Rows.JoinOrderSaid :=
  OpenClaim.holds_of_wide 12 Tryz.f12 rfl rfl rfl rfl rfl rfl rfl ⟨rfl, rfl, rfl, rfl, rfl⟩ rfl rfl rfl rfl rfl joinOrder_fn Tryz.func12 joinOrder_cl
    (of_decide_eq_true (by kernel_rfl)) (by unfold Func.isWrapper; first | (rw [if_pos (by decide +kernel)]; kernel_rfl) | (rw [if_neg (by decide +kernel)]; exact ⟨rfl, rfl⟩))
    (fun os started H enc _ => joinOrder_lifted os started H enc)
end Go.Proofs.YtidjnjlejhoalaaGreat
