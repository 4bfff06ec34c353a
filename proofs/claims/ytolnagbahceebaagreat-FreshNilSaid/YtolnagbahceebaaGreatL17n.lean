/- The statement vigillaw17.FreshNil holds: for every input the call returns true, and its arguments read as they did. No condition. -/
import Derived.Test.YtolnagbahceebaaGreatL17nb5
import Derived.Test.YtolnagbahceebaaGreatRows
set_option linter.unusedSimpArgs false
set_option linter.unusedVariables false
namespace Go.Proofs.YtolnagbahceebaaGreat
open Go.ChangeShapes Go.WideShapes Go.ChangeAt Go.RowKit
set_option maxRecDepth 100000 in
theorem freshNil_lifted (os : Os) (started : os.Started) (H : Type) (enc : TypeId × Value → H) :
    ReturnsInHanded {} Tryz.checked os 3 .any (Rows.freshNilSpec.pre6 enc Tryz.prog Tryz.f3 Rows.freshNilRow.domain false) (Rows.freshNilSpec.post enc Tryz.prog Tryz.f3 false true false false) := by
  refine returnsInHanded_of_change (C := Tryz.checked) ownJ started (by kernel_rfl) Tryz.func3
    (ChangeSpec.witness6 (enc := enc) (C := Tryz.checked) false ⟨#[], #[.int .i64 0, .int .i64 0, .slice none 0 0], []⟩ 8 (by kernel_rfl) (by kernel_rfl) (by kernel_rfl) (by kernel_rfl)) ?_
  intro W base args ds gs before hval0 hW hcnd _
  have hval : ∀ (j : Nat) t v, Tryz.f3.params[j]? = some t → args[j]? = some v → Value.okWide Tryz.prog W .any base t v := hval0
  have hW' := hW
  obtain ⟨p, q, hA0, hV, rfl, hfz, hnd⟩ := hW
  have hA : DataW.TrodAll enc Tryz.prog W 0 (fun _ => true) true Tryz.f3.params.toList args.toList ds p := hA0
  rw [Tryz.params3] at hA hval
  obtain ⟨v0, v1, v2, d0, d1, d2, p0, p1, p2, rfl, rfl, rfl, h0, h1, h2⟩ := trodAll_three hA
  obtain ⟨rfl, rfl⟩ := trodVars_none hV
  obtain ⟨n0, rfl, rfl, rfl, wn0⟩ := open_int (k := .i64) (by kernel_rfl) (hval 0 3 v0 rfl rfl) h0
  obtain ⟨n1, rfl, rfl, rfl, wn1⟩ := open_int (k := .i64) (by kernel_rfl) (hval 1 3 v1 rfl rfl) h1
  obtain ⟨a2, rs2, cap2, rfl, hrd2, hcp2⟩ := open_rows u8V tb (ks := byKsJ) rfl rfl rfl rfl rfl rfl (fun _ => rfl) by_decJ (hval 2 22 v2 rfl rfl) h2
  refine (freshNil_ok n0 n1 a2 rs2.length cap2 W).run.mono fun e W' ⟨v, he, hv, hc⟩ => ?_
  subst hv
  exact ⟨_, he, law_post (tt := 4) hW' rfl rfl (by kernel_rfl) (by kernel_rfl) laidJ (by
    rw [Tryz.params3]
    intro t ht
    simp only [List.mem_cons, List.not_mem_nil, or_false] at ht
    rcases ht with rfl | rfl | rfl
    · exact ⟨by kernel_rfl, of_decide_eq_true (by kernel_rfl)⟩
    · exact ⟨by kernel_rfl, of_decide_eq_true (by kernel_rfl)⟩
    · exact ⟨by kernel_rfl, of_decide_eq_true (by kernel_rfl)⟩) hc.below⟩

theorem freshNil_c0 : (Rows.freshNilRow.wf (OpenSpec.ofChange Rows.freshNilSpec)) = true := by kernel_rfl
theorem freshNil_c1 : (laidOutB Tryz.checked.prog) = true := by kernel_rfl
theorem freshNil_c2 : (mapsRowed Tryz.checked.prog) = true := by kernel_rfl
theorem freshNil_c3 : (Tryz.f3.params.all (Tryz.checked.prog.readableRec ·)) = true := by kernel_rfl
theorem freshNil_c4 : (namedTie Tryz.checked.prog Rows.freshNilRow.named Rows.freshNilSpec.vars) = true := by kernel_rfl
theorem freshNil_c5 : (Rows.freshNilRow.stops == []) = true := by kernel_rfl
theorem freshNil_c6 : (Tryz.checked.prog.stops == []) = true := by kernel_rfl
theorem freshNil_c7 : (Rows.freshNilRow.knobs == []) = true := by kernel_rfl
theorem freshNil_c8 : (Tryz.checked.prog.stopKnobs == []) = true := by kernel_rfl
theorem freshNil_c9 : (Rows.freshNilRow.inPlace == Tryz.checked.prog.inPlace 3) = true := by kernel_rfl
theorem freshNil_c10 : (Rows.freshNilRow.unfollowed == Tryz.checked.prog.unfollowed 3) = true := by kernel_rfl
theorem freshNil_c11 : (Rows.freshNilRow.recurses == Tryz.checked.prog.recurses 3) = true := by kernel_rfl
theorem freshNil_c12 : (Rows.freshNilRow.named == Tryz.checked.prog.varsNamed 3) = true := by kernel_rfl
theorem freshNil_c13 : (Rows.freshNilRow.maps == (Tryz.f3.params.toList ++ Rows.freshNilSpec.plain.varTypes Tryz.checked.prog).any (Tryz.checked.prog.mapsRec ·)) = true := by kernel_rfl
theorem freshNil_c14 : (Rows.freshNilRow.ifaces == (Tryz.f3.params.toList ++ Rows.freshNilSpec.plain.varTypes Tryz.checked.prog).any (Tryz.checked.prog.ifacesRec ·)) = true := by kernel_rfl
theorem freshNil_c15 : (Rows.freshNilRow.mapsOut == Tryz.checked.prog.mapsAmong Tryz.f3.resultTypes.toList) = true := by kernel_rfl
theorem freshNil_c16 : (Rows.freshNilRow.loops == (Tryz.f3.params.toList ++ Rows.freshNilSpec.plain.varTypes Tryz.checked.prog).any (Tryz.checked.prog.loopsFrom ·)) = true := by kernel_rfl
theorem freshNil_c17 : (Rows.freshNilRow.wideKeys == (Tryz.f3.params.toList ++ Rows.freshNilSpec.plain.varTypes Tryz.checked.prog ++ Tryz.f3.resultTypes.toList).any (Tryz.checked.prog.wideKeysFrom ·)) = true := by kernel_rfl
theorem freshNil_c18 : (Rows.freshNilSpec.vars.all (Tryz.checked.prog.varReadable ·)) = true := by kernel_rfl
theorem freshNil_c19 : (Tryz.f3.resultTypes.all (fun t => Tryz.checked.prog.readableRec t && decide (t < Tryz.checked.prog.types.size))) = true := by kernel_rfl
theorem freshNil_c20 : (Rows.freshNilRow.ifacesOut == Tryz.f3.resultTypes.toList.any (Tryz.checked.prog.ifacesRec ·)) = true := by kernel_rfl
theorem freshNil_c21 : (Rows.freshNilRow.loopsOut == Tryz.f3.resultTypes.toList.any (Tryz.checked.prog.loopsFrom ·)) = true := by kernel_rfl
theorem freshNil_c22 : (Rows.freshNilRow.plainKeys == Tryz.checked.prog.plainKeys) = true := by kernel_rfl
theorem freshNil_c23 : (Rows.freshNilRow.shortTexts.isNone) = true := by kernel_rfl
theorem freshNil_c24 : (Tryz.checked.prog.stopsHeard) = true := by kernel_rfl
theorem freshNil_c25 : (Tryz.checked.prog.mayEnter) = true := by kernel_rfl
theorem freshNil_c26 : (Rows.freshNilRow.lifted == Tryz.checked.prog.liftsFinal) = true := by kernel_rfl
theorem freshNil_c27 : (Tryz.checked.prog.make == some Rows.freshNilRow.make) = true := by kernel_rfl
theorem freshNil_c28 : (Rows.freshNilRow.kinds == (if Rows.freshNilRow.domain.isEmpty then [] else Tryz.f3.params.toList.map fun t => match Tryz.checked.prog.underlying t with | some (.int k) => some k | _ => none)) = true := by kernel_rfl
theorem freshNil_c29 : (Rows.freshNilRow.pinned == Rows.freshNilRow.pinnedBy) = true := by kernel_rfl
theorem freshNil_c30 : (Rows.freshNilRow.veiled == (Tryz.f3.params.toList ++ Rows.freshNilSpec.plain.varTypes Tryz.checked.prog ++ Tryz.f3.resultTypes.toList).any (Tryz.checked.prog.veiledRec ·)) = true := by kernel_rfl
theorem freshNil_c31 : (Rows.freshNilRow.veiledFits Tryz.checked.prog Tryz.f3.params.toList (Tryz.f3.params.toList ++ Rows.freshNilSpec.plain.varTypes Tryz.checked.prog ++ Tryz.f3.resultTypes.toList)) = true := by kernel_rfl
set_option maxRecDepth 100000 in
theorem freshNil_cl : joinedFacts Tryz.checked.prog 3 Tryz.f3 Rows.freshNilSpec Rows.freshNilRow = true := joined_of freshNil_c0 freshNil_c1 freshNil_c2 freshNil_c3 freshNil_c4 freshNil_c5 freshNil_c6 freshNil_c7 freshNil_c8 freshNil_c9 freshNil_c10 freshNil_c11 freshNil_c12 freshNil_c13 freshNil_c14 freshNil_c15 freshNil_c16 freshNil_c17 freshNil_c18 freshNil_c19 freshNil_c20 freshNil_c21 freshNil_c22 freshNil_c23 freshNil_c24 freshNil_c25 freshNil_c26 freshNil_c27 freshNil_c28 freshNil_c29 freshNil_c30 freshNil_c31
theorem freshNil_fn : Tryz.checked.prog.funcNamed Rows.freshNilRow.func = some 3 := by kernel_rfl
theorem freshNil_holds : Rows.FreshNilSaid :=
  OpenClaim.holds_of_wide 3 Tryz.f3 rfl rfl rfl rfl rfl rfl rfl ⟨rfl, rfl, rfl, rfl, rfl⟩ rfl rfl rfl rfl rfl freshNil_fn Tryz.func3 freshNil_cl
    (of_decide_eq_true (by kernel_rfl)) (by unfold Func.isWrapper; first | (rw [if_pos (by decide +kernel)]; kernel_rfl) | (rw [if_neg (by decide +kernel)]; exact ⟨rfl, rfl⟩))
    (fun os started H enc _ => freshNil_lifted os started H enc)
end Go.Proofs.YtolnagbahceebaaGreat
