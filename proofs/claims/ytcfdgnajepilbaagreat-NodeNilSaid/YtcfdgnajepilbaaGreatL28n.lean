/- The statement vigillaw28.NodeNil holds: for every input the call returns true, and its arguments read as they did. No condition. -/
import Derived.Test.YtcfdgnajepilbaaGreatL28nb6
import Derived.Test.YtcfdgnajepilbaaGreatRows
set_option linter.unusedSimpArgs false
set_option linter.unusedVariables false
namespace Go.Proofs.YtcfdgnajepilbaaGreat
open Go.ChangeShapes Go.WideShapes Go.ChangeAt Go.RowKit
set_option maxRecDepth 100000 in
theorem nodeNil_lifted (os:Os) (started:os.Started) (H:Type) (enc:TypeId × Value→H) :
    ReturnsInHanded {} Tryz.checked os 5 .any (Rows.nodeNilSpec.pre6 enc Tryz.prog Tryz.f5 Rows.nodeNilRow.domain false) (Rows.nodeNilSpec.post enc Tryz.prog Tryz.f5 false true false false):=by
  refine returnsInHanded_of_change (C:=Tryz.checked) ownJ started (by kernel_rfl) Tryz.func5
    (ChangeSpec.witness6 (enc:=enc) (C:=Tryz.checked) false ⟨#[],#[.agg ⟨[.int .i64 0,.int .i64 0,.int .i64 0,.int .i64 0]⟩,.int .i64 0,.int .i64 0,.slice none 0 0],[]⟩ 8 (by kernel_rfl) (by kernel_rfl) (by kernel_rfl) (by kernel_rfl)) ?_
  intro W base args ds gs before hval0 hW hcnd _
  have hval:∀ (j:Nat) t v,Tryz.f5.params[j]? = some t→args[j]? = some v→Value.okWide Tryz.prog W .any base t v:=hval0
  have hW':=hW
  obtain ⟨p,q,hA0,hV,rfl,hfz,hnd⟩:=hW
  have hA:DataW.TrodAll enc Tryz.prog W 0 (fun _=>true) true Tryz.f5.params.toList args.toList ds p:=hA0
  rw [Tryz.params5] at hA hval
  obtain ⟨v0,v1,v2,v3,d0,d1,d2,d3,p0,p1,p2,p3,rfl,rfl,rfl,h0,h1,h2,h3⟩:=trodAll_four hA
  obtain ⟨rfl,rfl⟩:=trodVars_none hV
  obtain ⟨x0,rfl,_⟩:=open_flat Cl.v tb (t:=24) (ks:=clKsJ) rfl rfl rfl rfl cl_decJ (hval 0 24 v0 rfl rfl) h0
  obtain ⟨n1,rfl,rfl,rfl,wn1⟩:=open_int (k:=.i64) (by kernel_rfl) (hval 1 3 v1 rfl rfl) h1
  obtain ⟨n2,rfl,rfl,rfl,wn2⟩:=open_int (k:=.i64) (by kernel_rfl) (hval 2 3 v2 rfl rfl) h2
  obtain ⟨a3,rs3,cap3,rfl,hrd3,hcp3⟩:=open_rows u8V tb (ks:=byKsJ) rfl rfl rfl rfl rfl rfl (fun _=>rfl) by_decJ (hval 3 22 v3 rfl rfl) h3
  refine (nodeNil_ok x0 n1 n2 a3 rs3.length cap3 W).run.mono fun e W' ⟨v,he,hv,hc⟩=>?_
  subst hv
  exact ⟨_,he,law_post (tt:=4) hW' rfl rfl (by kernel_rfl) (by kernel_rfl) laidJ (by
    rw [Tryz.params5]
    intro t ht
    simp only [List.mem_cons,List.not_mem_nil,or_false] at ht
    rcases ht with rfl|rfl|rfl|rfl
    · exact ⟨by kernel_rfl,of_decide_eq_true (by kernel_rfl)⟩
    · exact ⟨by kernel_rfl,of_decide_eq_true (by kernel_rfl)⟩
    · exact ⟨by kernel_rfl,of_decide_eq_true (by kernel_rfl)⟩
    · exact ⟨by kernel_rfl,of_decide_eq_true (by kernel_rfl)⟩) hc.below⟩

theorem nodeNil_c0:(Rows.nodeNilRow.wf (OpenSpec.ofChange Rows.nodeNilSpec))=true:=by kernel_rfl
theorem nodeNil_c1:(laidOutB Tryz.checked.prog)=true:=by kernel_rfl
theorem nodeNil_c2:(mapsRowed Tryz.checked.prog)=true:=by kernel_rfl
theorem nodeNil_c3:(Tryz.f5.params.all (Tryz.checked.prog.readableRec ·))=true:=by kernel_rfl
theorem nodeNil_c4:(namedTie Tryz.checked.prog Rows.nodeNilRow.named Rows.nodeNilSpec.vars)=true:=by kernel_rfl
theorem nodeNil_c5:(Rows.nodeNilRow.stops == [])=true:=by kernel_rfl
theorem nodeNil_c6:(Tryz.checked.prog.stops == [])=true:=by kernel_rfl
theorem nodeNil_c7:(Rows.nodeNilRow.knobs == [])=true:=by kernel_rfl
theorem nodeNil_c8:(Tryz.checked.prog.stopKnobs == [])=true:=by kernel_rfl
theorem nodeNil_c9:(Rows.nodeNilRow.inPlace == Tryz.checked.prog.inPlace 5)=true:=by kernel_rfl
theorem nodeNil_c10:(Rows.nodeNilRow.unfollowed == Tryz.checked.prog.unfollowed 5)=true:=by kernel_rfl
theorem nodeNil_c11:(Rows.nodeNilRow.recurses == Tryz.checked.prog.recurses 5)=true:=by kernel_rfl
theorem nodeNil_c12:(Rows.nodeNilRow.named == Tryz.checked.prog.varsNamed 5)=true:=by kernel_rfl
theorem nodeNil_c13:(Rows.nodeNilRow.maps == (Tryz.f5.params.toList++Rows.nodeNilSpec.plain.varTypes Tryz.checked.prog).any (Tryz.checked.prog.mapsRec ·))=true:=by kernel_rfl
theorem nodeNil_c14:(Rows.nodeNilRow.ifaces == (Tryz.f5.params.toList++Rows.nodeNilSpec.plain.varTypes Tryz.checked.prog).any (Tryz.checked.prog.ifacesRec ·))=true:=by kernel_rfl
theorem nodeNil_c15:(Rows.nodeNilRow.mapsOut == Tryz.checked.prog.mapsAmong Tryz.f5.resultTypes.toList)=true:=by kernel_rfl
theorem nodeNil_c16:(Rows.nodeNilRow.loops == (Tryz.f5.params.toList++Rows.nodeNilSpec.plain.varTypes Tryz.checked.prog).any (Tryz.checked.prog.loopsFrom ·))=true:=by kernel_rfl
theorem nodeNil_c17:(Rows.nodeNilRow.wideKeys == (Tryz.f5.params.toList++Rows.nodeNilSpec.plain.varTypes Tryz.checked.prog++Tryz.f5.resultTypes.toList).any (Tryz.checked.prog.wideKeysFrom ·))=true:=by kernel_rfl
theorem nodeNil_c18:(Rows.nodeNilSpec.vars.all (Tryz.checked.prog.varReadable ·))=true:=by kernel_rfl
theorem nodeNil_c19:(Tryz.f5.resultTypes.all (fun t=>Tryz.checked.prog.readableRec t && decide (t < Tryz.checked.prog.types.size)))=true:=by kernel_rfl
theorem nodeNil_c20:(Rows.nodeNilRow.ifacesOut == Tryz.f5.resultTypes.toList.any (Tryz.checked.prog.ifacesRec ·))=true:=by kernel_rfl
theorem nodeNil_c21:(Rows.nodeNilRow.loopsOut == Tryz.f5.resultTypes.toList.any (Tryz.checked.prog.loopsFrom ·))=true:=by kernel_rfl
theorem nodeNil_c22:(Rows.nodeNilRow.plainKeys == Tryz.checked.prog.plainKeys)=true:=by kernel_rfl
theorem nodeNil_c23:(Rows.nodeNilRow.shortTexts.isNone)=true:=by kernel_rfl
theorem nodeNil_c24:(Tryz.checked.prog.stopsHeard)=true:=by kernel_rfl
theorem nodeNil_c25:(Tryz.checked.prog.mayEnter)=true:=by kernel_rfl
theorem nodeNil_c26:(Rows.nodeNilRow.lifted == Tryz.checked.prog.liftsFinal)=true:=by kernel_rfl
theorem nodeNil_c27:(Tryz.checked.prog.make == some Rows.nodeNilRow.make)=true:=by kernel_rfl
theorem nodeNil_c28:(Rows.nodeNilRow.kinds == (if Rows.nodeNilRow.domain.isEmpty then [] else Tryz.f5.params.toList.map fun t=>match Tryz.checked.prog.underlying t with|some (.int k)=>some k|_=>none))=true:=by kernel_rfl
theorem nodeNil_c29:(Rows.nodeNilRow.pinned == Rows.nodeNilRow.pinnedBy)=true:=by kernel_rfl
theorem nodeNil_c30:(Rows.nodeNilRow.veiled == (Tryz.f5.params.toList++Rows.nodeNilSpec.plain.varTypes Tryz.checked.prog++Tryz.f5.resultTypes.toList).any (Tryz.checked.prog.veiledRec ·))=true:=by kernel_rfl
theorem nodeNil_c31:(Rows.nodeNilRow.veiledFits Tryz.checked.prog Tryz.f5.params.toList (Tryz.f5.params.toList++Rows.nodeNilSpec.plain.varTypes Tryz.checked.prog++Tryz.f5.resultTypes.toList))=true:=by kernel_rfl
set_option maxRecDepth 100000 in
theorem nodeNil_cl:joinedFacts Tryz.checked.prog 5 Tryz.f5 Rows.nodeNilSpec Rows.nodeNilRow=true:=joined_of nodeNil_c0 nodeNil_c1 nodeNil_c2 nodeNil_c3 nodeNil_c4 nodeNil_c5 nodeNil_c6 nodeNil_c7 nodeNil_c8 nodeNil_c9 nodeNil_c10 nodeNil_c11 nodeNil_c12 nodeNil_c13 nodeNil_c14 nodeNil_c15 nodeNil_c16 nodeNil_c17 nodeNil_c18 nodeNil_c19 nodeNil_c20 nodeNil_c21 nodeNil_c22 nodeNil_c23 nodeNil_c24 nodeNil_c25 nodeNil_c26 nodeNil_c27 nodeNil_c28 nodeNil_c29 nodeNil_c30 nodeNil_c31
theorem nodeNil_fn:Tryz.checked.prog.funcNamed Rows.nodeNilRow.func=some 5:=by kernel_rfl
theorem nodeNil_holds:Rows.NodeNilSaid :=
  OpenClaim.holds_of_wide 5 Tryz.f5 rfl rfl rfl rfl rfl rfl rfl ⟨rfl,rfl,rfl,rfl,rfl⟩ rfl rfl rfl rfl rfl nodeNil_fn Tryz.func5 nodeNil_cl
    (of_decide_eq_true (by kernel_rfl)) (by unfold Func.isWrapper;first|(rw [if_pos (by decide +kernel)];kernel_rfl)|(rw [if_neg (by decide +kernel)];exact ⟨rfl,rfl⟩))
    (fun os started H enc _=>nodeNil_lifted os started H enc)
end Go.Proofs.YtcfdgnajepilbaaGreat
