/- The statement vigillaw18.JoinPlays holds: for every input the call returns true, and its arguments read as they did. No condition. -/
import Derived.Test.YtolnagbahceebaaGreatL18yb7
import Derived.Test.YtolnagbahceebaaGreatRows
set_option linter.unusedSimpArgs false
set_option linter.unusedVariables false
namespace Go.Proofs.YtolnagbahceebaaGreat
open Go.ChangeShapes Go.WideShapes Go.ChangeAt Go.RowKit
set_option maxRecDepth 100000 in
theorem joinPlays_lifted (os : Os) (started : os.Started) (H : Type) (enc : TypeId × Value → H) :
    ReturnsInHanded {} Tryz.checked os 7 .any (Rows.joinPlaysSpec.pre6 enc Tryz.prog Tryz.f7 Rows.joinPlaysRow.domain false) (Rows.joinPlaysSpec.post enc Tryz.prog Tryz.f7 false true false false) := by
  refine returnsInHanded_of_change (C := Tryz.checked) ownJ started (by kernel_rfl) Tryz.func7
    (ChangeSpec.witness6 (enc := enc) (C := Tryz.checked) false ⟨#[], #[.slice none 0 0, .agg ⟨[.int .i64 0, .int .i64 0, .int .i64 0, .int .i64 0]⟩, .int .i64 0, .slice none 0 0], []⟩ 8 (by kernel_rfl) (by kernel_rfl) (by kernel_rfl) (by kernel_rfl)) ?_
  intro W base args ds gs before hval0 hW hcnd _
  have hval : ∀ (j : Nat) t v, Tryz.f7.params[j]? = some t → args[j]? = some v → Value.okWide Tryz.prog W .any base t v := hval0
  have hW' := hW
  obtain ⟨p, q, hA0, hV, rfl, hfz, hnd⟩ := hW
  have hA : DataW.TrodAll enc Tryz.prog W 0 (fun _ => true) true Tryz.f7.params.toList args.toList ds p := hA0
  rw [Tryz.params7] at hA hval
  obtain ⟨v0, v1, v2, v3, d0, d1, d2, d3, p0, p1, p2, p3, rfl, rfl, rfl, h0, h1, h2, h3⟩ := trodAll_four hA
  obtain ⟨rfl, rfl⟩ := trodVars_none hV
  obtain ⟨a0, rs0, cap0, rfl, hrd0, hcp0⟩ := open_rows u8V tb (ks := byKsJ) rfl rfl rfl rfl rfl rfl (fun _ => rfl) by_decJ (hval 0 22 v0 rfl rfl) h0
  obtain ⟨x1, rfl, _⟩ := open_flat Cl.v tb (t := 127) (ks := clKsJ) rfl rfl rfl rfl cl_decJ (hval 1 127 v1 rfl rfl) h1
  obtain ⟨n2, rfl, rfl, rfl, wn2⟩ := open_int (k := .i64) (by kernel_rfl) (hval 2 3 v2 rfl rfl) h2
  obtain ⟨a3, rs3, cap3, rfl, hrd3, hcp3⟩ := Opens.argSl tb (t := 128) rfl rfl (hval 3 128 v3 rfl rfl) (Opens.slice JAct.v _ tb rfl rfl rfl rfl (fun x => x.v_len) ja_opens) h3
  refine (plays18_ok a0 rs0.length cap0 rs0 rfl hcp0.1 (byt_ofJ hcp0.2.2.1) x1 n2 a3 cap3 rs3 W hrd0 hrd3 hcp3.2.2.1).run.mono fun e W' ⟨v, he, hv, hc⟩ => ?_
  subst hv
  exact ⟨_, he, law_post (tt := 4) hW' rfl rfl (by kernel_rfl) (by kernel_rfl) laidJ (by
    rw [Tryz.params7]
    intro t ht
    simp only [List.mem_cons, List.not_mem_nil, or_false] at ht
    rcases ht with rfl | rfl | rfl | rfl
    · exact ⟨by kernel_rfl, of_decide_eq_true (by kernel_rfl)⟩
    · exact ⟨by kernel_rfl, of_decide_eq_true (by kernel_rfl)⟩
    · exact ⟨by kernel_rfl, of_decide_eq_true (by kernel_rfl)⟩
    · exact ⟨by kernel_rfl, of_decide_eq_true (by kernel_rfl)⟩) hc.below⟩

theorem joinPlays_c0 : (Rows.joinPlaysRow.wf (OpenSpec.ofChange Rows.joinPlaysSpec)) = true := by kernel_rfl
theorem joinPlays_c1 : (laidOutB Tryz.checked.prog) = true := by kernel_rfl
theorem joinPlays_c2 : (mapsRowed Tryz.checked.prog) = true := by kernel_rfl
theorem joinPlays_c3 : (Tryz.f7.params.all (Tryz.checked.prog.readableRec ·)) = true := by kernel_rfl
theorem joinPlays_c4 : (namedTie Tryz.checked.prog Rows.joinPlaysRow.named Rows.joinPlaysSpec.vars) = true := by kernel_rfl
theorem joinPlays_c5 : (Rows.joinPlaysRow.stops == []) = true := by kernel_rfl
theorem joinPlays_c6 : (Tryz.checked.prog.stops == []) = true := by kernel_rfl
theorem joinPlays_c7 : (Rows.joinPlaysRow.knobs == []) = true := by kernel_rfl
theorem joinPlays_c8 : (Tryz.checked.prog.stopKnobs == []) = true := by kernel_rfl
theorem joinPlays_c9 : (Rows.joinPlaysRow.inPlace == Tryz.checked.prog.inPlace 7) = true := by kernel_rfl
theorem joinPlays_c10 : (Rows.joinPlaysRow.unfollowed == Tryz.checked.prog.unfollowed 7) = true := by kernel_rfl
theorem joinPlays_c11 : (Rows.joinPlaysRow.recurses == Tryz.checked.prog.recurses 7) = true := by kernel_rfl
theorem joinPlays_c12 : (Rows.joinPlaysRow.named == Tryz.checked.prog.varsNamed 7) = true := by kernel_rfl
theorem joinPlays_c13 : (Rows.joinPlaysRow.maps == (Tryz.f7.params.toList ++ Rows.joinPlaysSpec.plain.varTypes Tryz.checked.prog).any (Tryz.checked.prog.mapsRec ·)) = true := by kernel_rfl
theorem joinPlays_c14 : (Rows.joinPlaysRow.ifaces == (Tryz.f7.params.toList ++ Rows.joinPlaysSpec.plain.varTypes Tryz.checked.prog).any (Tryz.checked.prog.ifacesRec ·)) = true := by kernel_rfl
theorem joinPlays_c15 : (Rows.joinPlaysRow.mapsOut == Tryz.checked.prog.mapsAmong Tryz.f7.resultTypes.toList) = true := by kernel_rfl
theorem joinPlays_c16 : (Rows.joinPlaysRow.loops == (Tryz.f7.params.toList ++ Rows.joinPlaysSpec.plain.varTypes Tryz.checked.prog).any (Tryz.checked.prog.loopsFrom ·)) = true := by kernel_rfl
theorem joinPlays_c17 : (Rows.joinPlaysRow.wideKeys == (Tryz.f7.params.toList ++ Rows.joinPlaysSpec.plain.varTypes Tryz.checked.prog ++ Tryz.f7.resultTypes.toList).any (Tryz.checked.prog.wideKeysFrom ·)) = true := by kernel_rfl
theorem joinPlays_c18 : (Rows.joinPlaysSpec.vars.all (Tryz.checked.prog.varReadable ·)) = true := by kernel_rfl
theorem joinPlays_c19 : (Tryz.f7.resultTypes.all (fun t => Tryz.checked.prog.readableRec t && decide (t < Tryz.checked.prog.types.size))) = true := by kernel_rfl
theorem joinPlays_c20 : (Rows.joinPlaysRow.ifacesOut == Tryz.f7.resultTypes.toList.any (Tryz.checked.prog.ifacesRec ·)) = true := by kernel_rfl
theorem joinPlays_c21 : (Rows.joinPlaysRow.loopsOut == Tryz.f7.resultTypes.toList.any (Tryz.checked.prog.loopsFrom ·)) = true := by kernel_rfl
theorem joinPlays_c22 : (Rows.joinPlaysRow.plainKeys == Tryz.checked.prog.plainKeys) = true := by kernel_rfl
theorem joinPlays_c23 : (Rows.joinPlaysRow.shortTexts.isNone) = true := by kernel_rfl
theorem joinPlays_c24 : (Tryz.checked.prog.stopsHeard) = true := by kernel_rfl
theorem joinPlays_c25 : (Tryz.checked.prog.mayEnter) = true := by kernel_rfl
theorem joinPlays_c26 : (Rows.joinPlaysRow.lifted == Tryz.checked.prog.liftsFinal) = true := by kernel_rfl
theorem joinPlays_c27 : (Tryz.checked.prog.make == some Rows.joinPlaysRow.make) = true := by kernel_rfl
theorem joinPlays_c28 : (Rows.joinPlaysRow.kinds == (if Rows.joinPlaysRow.domain.isEmpty then [] else Tryz.f7.params.toList.map fun t => match Tryz.checked.prog.underlying t with | some (.int k) => some k | _ => none)) = true := by kernel_rfl
theorem joinPlays_c29 : (Rows.joinPlaysRow.pinned == Rows.joinPlaysRow.pinnedBy) = true := by kernel_rfl
theorem joinPlays_c30 : (Rows.joinPlaysRow.veiled == (Tryz.f7.params.toList ++ Rows.joinPlaysSpec.plain.varTypes Tryz.checked.prog ++ Tryz.f7.resultTypes.toList).any (Tryz.checked.prog.veiledRec ·)) = true := by kernel_rfl
theorem joinPlays_c31 : (Rows.joinPlaysRow.veiledFits Tryz.checked.prog Tryz.f7.params.toList (Tryz.f7.params.toList ++ Rows.joinPlaysSpec.plain.varTypes Tryz.checked.prog ++ Tryz.f7.resultTypes.toList)) = true := by kernel_rfl
set_option maxRecDepth 100000 in
theorem joinPlays_cl : joinedFacts Tryz.checked.prog 7 Tryz.f7 Rows.joinPlaysSpec Rows.joinPlaysRow = true := joined_of joinPlays_c0 joinPlays_c1 joinPlays_c2 joinPlays_c3 joinPlays_c4 joinPlays_c5 joinPlays_c6 joinPlays_c7 joinPlays_c8 joinPlays_c9 joinPlays_c10 joinPlays_c11 joinPlays_c12 joinPlays_c13 joinPlays_c14 joinPlays_c15 joinPlays_c16 joinPlays_c17 joinPlays_c18 joinPlays_c19 joinPlays_c20 joinPlays_c21 joinPlays_c22 joinPlays_c23 joinPlays_c24 joinPlays_c25 joinPlays_c26 joinPlays_c27 joinPlays_c28 joinPlays_c29 joinPlays_c30 joinPlays_c31
theorem joinPlays_fn : Tryz.checked.prog.funcNamed Rows.joinPlaysRow.func = some 7 := by kernel_rfl
theorem joinPlays_holds : Rows.JoinPlaysSaid :=
  OpenClaim.holds_of_wide 7 Tryz.f7 rfl rfl rfl rfl rfl rfl rfl ⟨rfl, rfl, rfl, rfl, rfl⟩ rfl rfl rfl rfl rfl joinPlays_fn Tryz.func7 joinPlays_cl
    (of_decide_eq_true (by kernel_rfl)) (by unfold Func.isWrapper; first | (rw [if_pos (by decide +kernel)]; kernel_rfl) | (rw [if_neg (by decide +kernel)]; exact ⟨rfl, rfl⟩))
    (fun os started H enc _ => joinPlays_lifted os started H enc)
end Go.Proofs.YtolnagbahceebaaGreat
