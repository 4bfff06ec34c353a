/- The statement vigillaw16.ChannelMeets holds: for every input the call returns true, and its arguments read as they did. No condition. -/
import Derived.Test.YtolnagbahceebaaGreatL16mb6
import Derived.Test.YtolnagbahceebaaGreatRows
set_option linter.unusedSimpArgs false
set_option linter.unusedVariables false
namespace Go.Proofs.YtolnagbahceebaaGreat
open Go.ChangeShapes Go.WideShapes Go.ChangeAt Go.RowKit
set_option maxRecDepth 100000 in
theorem channelMeets_lifted (os:Os) (started:os.Started) (H:Type) (enc:TypeId × Value→H) :
    ReturnsInHanded {} Tryz.checked os 6 .any (Rows.channelMeetsSpec.pre6 enc Tryz.prog Tryz.f6 Rows.channelMeetsRow.domain false) (Rows.channelMeetsSpec.post enc Tryz.prog Tryz.f6 false true false false):=by
  refine returnsInHanded_of_change (C:=Tryz.checked) ownJ started (by kernel_rfl) Tryz.func6
    (ChangeSpec.witness6 (enc:=enc) (C:=Tryz.checked) false ⟨#[],#[.slice none 0 0,.slice none 0 0,.slice none 0 0],[]⟩ 8 (by kernel_rfl) (by kernel_rfl) (by kernel_rfl) (by kernel_rfl)) ?_
  intro W base args ds gs before hval0 hW hcnd _
  have hval:∀ (j:Nat) t v,Tryz.f6.params[j]? = some t→args[j]? = some v→Value.okWide Tryz.prog W .any base t v:=hval0
  have hW':=hW
  obtain ⟨p,q,hA0,hV,rfl,hfz,hnd⟩:=hW
  have hA:DataW.TrodAll enc Tryz.prog W 0 (fun _=>true) true Tryz.f6.params.toList args.toList ds p:=hA0
  rw [Tryz.params6] at hA hval
  obtain ⟨v0,v1,v2,d0,d1,d2,p0,p1,p2,rfl,rfl,rfl,h0,h1,h2⟩:=trodAll_three hA
  obtain ⟨rfl,rfl⟩:=trodVars_none hV
  obtain ⟨a0,rs0,cap0,rfl,hrd0,hcp0⟩:=open_rows u8V tb (ks:=byKsJ) rfl rfl rfl rfl rfl rfl (fun _=>rfl) by_decJ (hval 0 22 v0 rfl rfl) h0
  obtain ⟨a1,rs1,cap1,rfl,hrd1,hcp1⟩:=Opens.argSl tb (t:=91) rfl rfl (hval 1 91 v1 rfl rfl) (Opens.slice LT.v _ tb rfl rfl rfl rfl (fun _=>rfl) lt_opens) h1
  obtain ⟨a2,rs2,cap2,rfl,hrd2,hcp2⟩:=open_rows iV tb (ks:=iKsM) rfl rfl rfl rfl rfl rfl (fun _=>rfl) i_decM (hval 2 39 v2 rfl rfl) h2
  refine (chMeets_ok a0 cap0 rs0 a1 cap1 rs1 a2 cap2 rs2 W hrd0 (byt_ofJ hcp0.2.2.1) hcp0.1 hrd1 hcp1.2.2.1 hrd2).run.mono fun e W' ⟨v,he,hv,hc⟩=>?_
  subst hv
  exact ⟨_,he,law_post (tt:=4) hW' rfl rfl (by kernel_rfl) (by kernel_rfl) laidJ (by
    rw [Tryz.params6]
    intro t ht
    simp only [List.mem_cons,List.not_mem_nil,or_false] at ht
    rcases ht with rfl|rfl|rfl
    · exact ⟨by kernel_rfl,of_decide_eq_true (by kernel_rfl)⟩
    · exact ⟨by kernel_rfl,of_decide_eq_true (by kernel_rfl)⟩
    · exact ⟨by kernel_rfl,of_decide_eq_true (by kernel_rfl)⟩) hc.below⟩

theorem channelMeets_c0:(Rows.channelMeetsRow.wf (OpenSpec.ofChange Rows.channelMeetsSpec))=true:=by kernel_rfl
theorem channelMeets_c1:(laidOutB Tryz.checked.prog)=true:=by kernel_rfl
theorem channelMeets_c2:(mapsRowed Tryz.checked.prog)=true:=by kernel_rfl
theorem channelMeets_c3:(Tryz.f6.params.all (Tryz.checked.prog.readableRec ·))=true:=by kernel_rfl
theorem channelMeets_c4:(namedTie Tryz.checked.prog Rows.channelMeetsRow.named Rows.channelMeetsSpec.vars)=true:=by kernel_rfl
theorem channelMeets_c5:(Rows.channelMeetsRow.stops == [])=true:=by kernel_rfl
theorem channelMeets_c6:(Tryz.checked.prog.stops == [])=true:=by kernel_rfl
theorem channelMeets_c7:(Rows.channelMeetsRow.knobs == [])=true:=by kernel_rfl
theorem channelMeets_c8:(Tryz.checked.prog.stopKnobs == [])=true:=by kernel_rfl
theorem channelMeets_c9:(Rows.channelMeetsRow.inPlace == Tryz.checked.prog.inPlace 6)=true:=by kernel_rfl
theorem channelMeets_c10:(Rows.channelMeetsRow.unfollowed == Tryz.checked.prog.unfollowed 6)=true:=by kernel_rfl
theorem channelMeets_c11:(Rows.channelMeetsRow.recurses == Tryz.checked.prog.recurses 6)=true:=by kernel_rfl
theorem channelMeets_c12:(Rows.channelMeetsRow.named == Tryz.checked.prog.varsNamed 6)=true:=by kernel_rfl
theorem channelMeets_c13:(Rows.channelMeetsRow.maps == (Tryz.f6.params.toList++Rows.channelMeetsSpec.plain.varTypes Tryz.checked.prog).any (Tryz.checked.prog.mapsRec ·))=true:=by kernel_rfl
theorem channelMeets_c14:(Rows.channelMeetsRow.ifaces == (Tryz.f6.params.toList++Rows.channelMeetsSpec.plain.varTypes Tryz.checked.prog).any (Tryz.checked.prog.ifacesRec ·))=true:=by kernel_rfl
theorem channelMeets_c15:(Rows.channelMeetsRow.mapsOut == Tryz.checked.prog.mapsAmong Tryz.f6.resultTypes.toList)=true:=by kernel_rfl
theorem channelMeets_c16:(Rows.channelMeetsRow.loops == (Tryz.f6.params.toList++Rows.channelMeetsSpec.plain.varTypes Tryz.checked.prog).any (Tryz.checked.prog.loopsFrom ·))=true:=by kernel_rfl
theorem channelMeets_c17:(Rows.channelMeetsRow.wideKeys == (Tryz.f6.params.toList++Rows.channelMeetsSpec.plain.varTypes Tryz.checked.prog++Tryz.f6.resultTypes.toList).any (Tryz.checked.prog.wideKeysFrom ·))=true:=by kernel_rfl
theorem channelMeets_c18:(Rows.channelMeetsSpec.vars.all (Tryz.checked.prog.varReadable ·))=true:=by kernel_rfl
theorem channelMeets_c19:(Tryz.f6.resultTypes.all (fun t=>Tryz.checked.prog.readableRec t && decide (t < Tryz.checked.prog.types.size)))=true:=by kernel_rfl
theorem channelMeets_c20:(Rows.channelMeetsRow.ifacesOut == Tryz.f6.resultTypes.toList.any (Tryz.checked.prog.ifacesRec ·))=true:=by kernel_rfl
theorem channelMeets_c21:(Rows.channelMeetsRow.loopsOut == Tryz.f6.resultTypes.toList.any (Tryz.checked.prog.loopsFrom ·))=true:=by kernel_rfl
theorem channelMeets_c22:(Rows.channelMeetsRow.plainKeys == Tryz.checked.prog.plainKeys)=true:=by kernel_rfl
theorem channelMeets_c23:(Rows.channelMeetsRow.shortTexts.isNone)=true:=by kernel_rfl
theorem channelMeets_c24:(Tryz.checked.prog.stopsHeard)=true:=by kernel_rfl
theorem channelMeets_c25:(Tryz.checked.prog.mayEnter)=true:=by kernel_rfl
theorem channelMeets_c26:(Rows.channelMeetsRow.lifted == Tryz.checked.prog.liftsFinal)=true:=by kernel_rfl
theorem channelMeets_c27:(Tryz.checked.prog.make == some Rows.channelMeetsRow.make)=true:=by kernel_rfl
theorem channelMeets_c28:(Rows.channelMeetsRow.kinds == (if Rows.channelMeetsRow.domain.isEmpty then [] else Tryz.f6.params.toList.map fun t=>match Tryz.checked.prog.underlying t with|some (.int k)=>some k|_=>none))=true:=by kernel_rfl
theorem channelMeets_c29:(Rows.channelMeetsRow.pinned == Rows.channelMeetsRow.pinnedBy)=true:=by kernel_rfl
theorem channelMeets_c30:(Rows.channelMeetsRow.veiled == (Tryz.f6.params.toList++Rows.channelMeetsSpec.plain.varTypes Tryz.checked.prog++Tryz.f6.resultTypes.toList).any (Tryz.checked.prog.veiledRec ·))=true:=by kernel_rfl
theorem channelMeets_c31:(Rows.channelMeetsRow.veiledFits Tryz.checked.prog Tryz.f6.params.toList (Tryz.f6.params.toList++Rows.channelMeetsSpec.plain.varTypes Tryz.checked.prog++Tryz.f6.resultTypes.toList))=true:=by kernel_rfl
set_option maxRecDepth 100000 in
theorem channelMeets_cl:joinedFacts Tryz.checked.prog 6 Tryz.f6 Rows.channelMeetsSpec Rows.channelMeetsRow=true:=joined_of channelMeets_c0 channelMeets_c1 channelMeets_c2 channelMeets_c3 channelMeets_c4 channelMeets_c5 channelMeets_c6 channelMeets_c7 channelMeets_c8 channelMeets_c9 channelMeets_c10 channelMeets_c11 channelMeets_c12 channelMeets_c13 channelMeets_c14 channelMeets_c15 channelMeets_c16 channelMeets_c17 channelMeets_c18 channelMeets_c19 channelMeets_c20 channelMeets_c21 channelMeets_c22 channelMeets_c23 channelMeets_c24 channelMeets_c25 channelMeets_c26 channelMeets_c27 channelMeets_c28 channelMeets_c29 channelMeets_c30 channelMeets_c31
theorem channelMeets_fn:Tryz.checked.prog.funcNamed Rows.channelMeetsRow.func=some 6:=by kernel_rfl
theorem channelMeets_holds:Rows.ChannelMeetsSaid :=
  OpenClaim.holds_of_wide 6 Tryz.f6 rfl rfl rfl rfl rfl rfl rfl ⟨rfl,rfl,rfl,rfl,rfl⟩ rfl rfl rfl rfl rfl channelMeets_fn Tryz.func6 channelMeets_cl
    (of_decide_eq_true (by kernel_rfl)) (by unfold Func.isWrapper;first|(rw [if_pos (by decide +kernel)];kernel_rfl)|(rw [if_neg (by decide +kernel)];exact ⟨rfl,rfl⟩))
    (fun os started H enc _=>channelMeets_lifted os started H enc)
end Go.Proofs.YtolnagbahceebaaGreat
