/- The statement vigillaw28.NodeTicks holds: for every input the call returns true, and its arguments read as they did. No condition. -/
import Derived.Test.YtcfdgnajepilbaaGreatL28tb6
import Derived.Test.YtcfdgnajepilbaaGreatRows
set_option linter.unusedSimpArgs false
set_option linter.unusedVariables false
namespace Go.Proofs.YtcfdgnajepilbaaGreat
open Go.ChangeShapes Go.WideShapes Go.ChangeAt Go.RowKit
set_option maxRecDepth 100000 in
theorem nodeTicks_lifted (os:Os) (started:os.Started) (H:Type) (enc:TypeId × Value→H) :
    ReturnsInHanded {} Tryz.checked os 3 .any (Rows.nodeTicksSpec.pre6 enc Tryz.prog Tryz.f3 Rows.nodeTicksRow.domain false) (Rows.nodeTicksSpec.post enc Tryz.prog Tryz.f3 false true false false):=by
  refine returnsInHanded_of_change (C:=Tryz.checked) ownJ started (by kernel_rfl) Tryz.func3
    (ChangeSpec.witness6 (enc:=enc) (C:=Tryz.checked) false ⟨#[],#[.slice none 0 0,.agg ⟨[.int .i64 0,.int .i64 0,.int .i64 0,.int .i64 0]⟩,.slice none 0 0,.int .u64 0],[]⟩ 8 (by kernel_rfl) (by kernel_rfl) (by kernel_rfl) (by kernel_rfl)) ?_
  intro W base args ds gs before hval0 hW hcnd _
  have hval:∀ (j:Nat) t v,Tryz.f3.params[j]? = some t→args[j]? = some v→Value.okWide Tryz.prog W .any base t v:=hval0
  have hW':=hW
  obtain ⟨p,q,hA0,hV,rfl,hfz,hnd⟩:=hW
  have hA:DataW.TrodAll enc Tryz.prog W 0 (fun _=>true) true Tryz.f3.params.toList args.toList ds p:=hA0
  rw [Tryz.params3] at hA hval
  obtain ⟨v0,v1,v2,v3,d0,d1,d2,d3,p0,p1,p2,p3,rfl,rfl,rfl,h0,h1,h2,h3⟩:=trodAll_four hA
  obtain ⟨rfl,rfl⟩:=trodVars_none hV
  obtain ⟨a0,rs0,cap0,rfl,hrd0,hcp0⟩:=open_rows u8V tb (ks:=byKsJ) rfl rfl rfl rfl rfl rfl (fun _=>rfl) by_decJ (hval 0 22 v0 rfl rfl) h0
  obtain ⟨x1,rfl,_⟩:=open_flat Cl.v tb (t:=24) (ks:=clKsJ) rfl rfl rfl rfl cl_decJ (hval 1 24 v1 rfl rfl) h1
  obtain ⟨a2,rs2,cap2,rfl,hrd2,hcp2⟩:=open_rows iV tb (ks:=iKsN) rfl rfl rfl rfl rfl rfl (fun _=>rfl) i_decN (hval 2 25 v2 rfl rfl) h2
  obtain ⟨n3,rfl,rfl,rfl,wn3⟩:=open_int (k:=.u64) (by kernel_rfl) (hval 3 26 v3 rfl rfl) h3
  refine (nodeTicks_ok a0 rs0.length cap0 rs0 rfl hcp0.1 (byt_ofJ hcp0.2.2.1) x1 a2 cap2 rs2 n3 W hrd0 hrd2).run.mono fun e W' ⟨v,he,hv,hc⟩=>?_
  subst hv
  exact ⟨_,he,law_post (tt:=4) hW' rfl rfl (by kernel_rfl) (by kernel_rfl) laidJ (by
    rw [Tryz.params3]
    intro t ht
    simp only [List.mem_cons,List.not_mem_nil,or_false] at ht
    rcases ht with rfl|rfl|rfl|rfl
    · exact ⟨by kernel_rfl,of_decide_eq_true (by kernel_rfl)⟩
    · exact ⟨by kernel_rfl,of_decide_eq_true (by kernel_rfl)⟩
    · exact ⟨by kernel_rfl,of_decide_eq_true (by kernel_rfl)⟩
    · exact ⟨by kernel_rfl,of_decide_eq_true (by kernel_rfl)⟩) hc.below⟩

theorem nodeTicks_c0:(Rows.nodeTicksRow.wf (OpenSpec.ofChange Rows.nodeTicksSpec))=true:=by kernel_rfl
theorem nodeTicks_c1:(laidOutB Tryz.checked.prog)=true:=by kernel_rfl
theorem nodeTicks_c2:(mapsRowed Tryz.checked.prog)=true:=by kernel_rfl
theorem nodeTicks_c3:(Tryz.f3.params.all (Tryz.checked.prog.readableRec ·))=true:=by kernel_rfl
theorem nodeTicks_c4:(namedTie Tryz.checked.prog Rows.nodeTicksRow.named Rows.nodeTicksSpec.vars)=true:=by kernel_rfl
theorem nodeTicks_c5:(Rows.nodeTicksRow.stops == [])=true:=by kernel_rfl
theorem nodeTicks_c6:(Tryz.checked.prog.stops == [])=true:=by kernel_rfl
theorem nodeTicks_c7:(Rows.nodeTicksRow.knobs == [])=true:=by kernel_rfl
theorem nodeTicks_c8:(Tryz.checked.prog.stopKnobs == [])=true:=by kernel_rfl
theorem nodeTicks_c9:(Rows.nodeTicksRow.inPlace == Tryz.checked.prog.inPlace 3)=true:=by kernel_rfl
theorem nodeTicks_c10:(Rows.nodeTicksRow.unfollowed == Tryz.checked.prog.unfollowed 3)=true:=by kernel_rfl
theorem nodeTicks_c11:(Rows.nodeTicksRow.recurses == Tryz.checked.prog.recurses 3)=true:=by kernel_rfl
theorem nodeTicks_c12:(Rows.nodeTicksRow.named == Tryz.checked.prog.varsNamed 3)=true:=by kernel_rfl
theorem nodeTicks_c13:(Rows.nodeTicksRow.maps == (Tryz.f3.params.toList++Rows.nodeTicksSpec.plain.varTypes Tryz.checked.prog).any (Tryz.checked.prog.mapsRec ·))=true:=by kernel_rfl
theorem nodeTicks_c14:(Rows.nodeTicksRow.ifaces == (Tryz.f3.params.toList++Rows.nodeTicksSpec.plain.varTypes Tryz.checked.prog).any (Tryz.checked.prog.ifacesRec ·))=true:=by kernel_rfl
theorem nodeTicks_c15:(Rows.nodeTicksRow.mapsOut == Tryz.checked.prog.mapsAmong Tryz.f3.resultTypes.toList)=true:=by kernel_rfl
theorem nodeTicks_c16:(Rows.nodeTicksRow.loops == (Tryz.f3.params.toList++Rows.nodeTicksSpec.plain.varTypes Tryz.checked.prog).any (Tryz.checked.prog.loopsFrom ·))=true:=by kernel_rfl
theorem nodeTicks_c17:(Rows.nodeTicksRow.wideKeys == (Tryz.f3.params.toList++Rows.nodeTicksSpec.plain.varTypes Tryz.checked.prog++Tryz.f3.resultTypes.toList).any (Tryz.checked.prog.wideKeysFrom ·))=true:=by kernel_rfl
theorem nodeTicks_c18:(Rows.nodeTicksSpec.vars.all (Tryz.checked.prog.varReadable ·))=true:=by kernel_rfl
theorem nodeTicks_c19:(Tryz.f3.resultTypes.all (fun t=>Tryz.checked.prog.readableRec t && decide (t < Tryz.checked.prog.types.size)))=true:=by kernel_rfl
theorem nodeTicks_c20:(Rows.nodeTicksRow.ifacesOut == Tryz.f3.resultTypes.toList.any (Tryz.checked.prog.ifacesRec ·))=true:=by kernel_rfl
theorem nodeTicks_c21:(Rows.nodeTicksRow.loopsOut == Tryz.f3.resultTypes.toList.any (Tryz.checked.prog.loopsFrom ·))=true:=by kernel_rfl
theorem nodeTicks_c22:(Rows.nodeTicksRow.plainKeys == Tryz.checked.prog.plainKeys)=true:=by kernel_rfl
theorem nodeTicks_c23:(Rows.nodeTicksRow.shortTexts.isNone)=true:=by kernel_rfl
theorem nodeTicks_c24:(Tryz.checked.prog.stopsHeard)=true:=by kernel_rfl
theorem nodeTicks_c25:(Tryz.checked.prog.mayEnter)=true:=by kernel_rfl
theorem nodeTicks_c26:(Rows.nodeTicksRow.lifted == Tryz.checked.prog.liftsFinal)=true:=by kernel_rfl
theorem nodeTicks_c27:(Tryz.checked.prog.make == some Rows.nodeTicksRow.make)=true:=by kernel_rfl
theorem nodeTicks_c28:(Rows.nodeTicksRow.kinds == (if Rows.nodeTicksRow.domain.isEmpty then [] else Tryz.f3.params.toList.map fun t=>match Tryz.checked.prog.underlying t with|some (.int k)=>some k|_=>none))=true:=by kernel_rfl
theorem nodeTicks_c29:(Rows.nodeTicksRow.pinned == Rows.nodeTicksRow.pinnedBy)=true:=by kernel_rfl
theorem nodeTicks_c30:(Rows.nodeTicksRow.veiled == (Tryz.f3.params.toList++Rows.nodeTicksSpec.plain.varTypes Tryz.checked.prog++Tryz.f3.resultTypes.toList).any (Tryz.checked.prog.veiledRec ·))=true:=by kernel_rfl
theorem nodeTicks_c31:(Rows.nodeTicksRow.veiledFits Tryz.checked.prog Tryz.f3.params.toList (Tryz.f3.params.toList++Rows.nodeTicksSpec.plain.varTypes Tryz.checked.prog++Tryz.f3.resultTypes.toList))=true:=by kernel_rfl
set_option maxRecDepth 100000 in
theorem nodeTicks_cl:joinedFacts Tryz.checked.prog 3 Tryz.f3 Rows.nodeTicksSpec Rows.nodeTicksRow=true:=joined_of nodeTicks_c0 nodeTicks_c1 nodeTicks_c2 nodeTicks_c3 nodeTicks_c4 nodeTicks_c5 nodeTicks_c6 nodeTicks_c7 nodeTicks_c8 nodeTicks_c9 nodeTicks_c10 nodeTicks_c11 nodeTicks_c12 nodeTicks_c13 nodeTicks_c14 nodeTicks_c15 nodeTicks_c16 nodeTicks_c17 nodeTicks_c18 nodeTicks_c19 nodeTicks_c20 nodeTicks_c21 nodeTicks_c22 nodeTicks_c23 nodeTicks_c24 nodeTicks_c25 nodeTicks_c26 nodeTicks_c27 nodeTicks_c28 nodeTicks_c29 nodeTicks_c30 nodeTicks_c31
theorem nodeTicks_fn:Tryz.checked.prog.funcNamed Rows.nodeTicksRow.func=some 3:=by kernel_rfl
theorem nodeTicks_holds:Rows.NodeTicksSaid :=
  OpenClaim.holds_of_wide 3 Tryz.f3 rfl rfl rfl rfl rfl rfl rfl ⟨rfl,rfl,rfl,rfl,rfl⟩ rfl rfl rfl rfl rfl nodeTicks_fn Tryz.func3 nodeTicks_cl
    (of_decide_eq_true (by kernel_rfl)) (by unfold Func.isWrapper;first|(rw [if_pos (by decide +kernel)];kernel_rfl)|(rw [if_neg (by decide +kernel)];exact ⟨rfl,rfl⟩))
    (fun os started H enc _=>nodeTicks_lifted os started H enc)
end Go.Proofs.YtcfdgnajepilbaaGreat
