/- The statement vigillaw17.FreshPlays holds: for every input the call returns true, and its arguments read as they did. No condition. -/
import Derived.Test.YtolnagbahceebaaGreatL17fb8
import Derived.Test.YtolnagbahceebaaGreatRows
set_option linter.unusedSimpArgs false
set_option linter.unusedVariables false
namespace Go.Proofs.YtolnagbahceebaaGreat
open Go.ChangeShapes Go.WideShapes Go.ChangeAt Go.RowKit
set_option maxRecDepth 100000 in
theorem freshPlays_lifted (os:Os) (started:os.Started) (H:Type) (enc:TypeId × Value→H) :
    ReturnsInHanded {} Tryz.checked os 4 .any (Rows.freshPlaysSpec.pre6 enc Tryz.prog Tryz.f4 Rows.freshPlaysRow.domain false) (Rows.freshPlaysSpec.post enc Tryz.prog Tryz.f4 false true false false):=by
  refine returnsInHanded_of_change (C:=Tryz.checked) ownJ started (by kernel_rfl) Tryz.func4
    (ChangeSpec.witness6 (enc:=enc) (C:=Tryz.checked) false ⟨#[],#[.agg ⟨[.slice none 0 0,.slice none 0 0,.slice none 0 0,.slice none 0 0]⟩,.slice none 0 0,.int .i64 0,.int .i64 0],[]⟩ 8 (by kernel_rfl) (by kernel_rfl) (by kernel_rfl) (by kernel_rfl)) ?_
  intro W base args ds gs before hval0 hW hcnd _
  have hval:∀ (j:Nat) t v,Tryz.f4.params[j]? = some t→args[j]? = some v→Value.okWide Tryz.prog W .any base t v:=hval0
  have hW':=hW
  obtain ⟨p,q,hA0,hV,rfl,hfz,hnd⟩:=hW
  have hA:DataW.TrodAll enc Tryz.prog W 0 (fun _=>true) true Tryz.f4.params.toList args.toList ds p:=hA0
  rw [Tryz.params4] at hA hval
  obtain ⟨v0,v1,v2,v3,d0,d1,d2,d3,p0,p1,p2,p3,rfl,rfl,rfl,h0,h1,h2,h3⟩:=trodAll_four hA
  obtain ⟨rfl,rfl⟩:=trodVars_none hV
  obtain ⟨cs0,rfl,hcs0⟩:=Opens.argAr tb (t:=40) rfl rfl logs_opens (hval 0 40 v0 rfl rfl) h0
  obtain ⟨a1,rs1,cap1,rfl,hrd1,hcp1⟩:=Opens.argSl tb (t:=41) rfl rfl (hval 1 41 v1 rfl rfl) (Opens.slice FAct.v _ tb rfl rfl rfl rfl (fun _=>rfl) fa_opens) h1
  obtain ⟨n2,rfl,rfl,rfl,wn2⟩:=open_int (k:=.i64) (by kernel_rfl) (hval 2 3 v2 rfl rfl) h2
  obtain ⟨n3,rfl,rfl,rfl,wn3⟩:=open_int (k:=.i64) (by kernel_rfl) (hval 3 3 v3 rfl rfl) h3
  refine (freshPlays_all cs0 a1 cap1 rs1 n2 n3 W hcs0 hrd1 hcp1.2.2.1).run.mono fun e W' ⟨v,he,hv,hc⟩=>?_
  subst hv
  exact ⟨_,he,law_post (tt:=4) hW' rfl rfl (by kernel_rfl) (by kernel_rfl) laidJ (by
    rw [Tryz.params4]
    intro t ht
    simp only [List.mem_cons,List.not_mem_nil,or_false] at ht
    rcases ht with rfl|rfl|rfl|rfl
    · exact ⟨by kernel_rfl,of_decide_eq_true (by kernel_rfl)⟩
    · exact ⟨by kernel_rfl,of_decide_eq_true (by kernel_rfl)⟩
    · exact ⟨by kernel_rfl,of_decide_eq_true (by kernel_rfl)⟩
    · exact ⟨by kernel_rfl,of_decide_eq_true (by kernel_rfl)⟩) hc.below⟩

theorem freshPlays_c0:(Rows.freshPlaysRow.wf (OpenSpec.ofChange Rows.freshPlaysSpec))=true:=by kernel_rfl
theorem freshPlays_c1:(laidOutB Tryz.checked.prog)=true:=by kernel_rfl
theorem freshPlays_c2:(mapsRowed Tryz.checked.prog)=true:=by kernel_rfl
theorem freshPlays_c3:(Tryz.f4.params.all (Tryz.checked.prog.readableRec ·))=true:=by kernel_rfl
theorem freshPlays_c4:(namedTie Tryz.checked.prog Rows.freshPlaysRow.named Rows.freshPlaysSpec.vars)=true:=by kernel_rfl
theorem freshPlays_c5:(Rows.freshPlaysRow.stops == [])=true:=by kernel_rfl
theorem freshPlays_c6:(Tryz.checked.prog.stops == [])=true:=by kernel_rfl
theorem freshPlays_c7:(Rows.freshPlaysRow.knobs == [])=true:=by kernel_rfl
theorem freshPlays_c8:(Tryz.checked.prog.stopKnobs == [])=true:=by kernel_rfl
theorem freshPlays_c9:(Rows.freshPlaysRow.inPlace == Tryz.checked.prog.inPlace 4)=true:=by kernel_rfl
theorem freshPlays_c10:(Rows.freshPlaysRow.unfollowed == Tryz.checked.prog.unfollowed 4)=true:=by kernel_rfl
theorem freshPlays_c11:(Rows.freshPlaysRow.recurses == Tryz.checked.prog.recurses 4)=true:=by kernel_rfl
theorem freshPlays_c12:(Rows.freshPlaysRow.named == Tryz.checked.prog.varsNamed 4)=true:=by kernel_rfl
theorem freshPlays_c13:(Rows.freshPlaysRow.maps == (Tryz.f4.params.toList++Rows.freshPlaysSpec.plain.varTypes Tryz.checked.prog).any (Tryz.checked.prog.mapsRec ·))=true:=by kernel_rfl
theorem freshPlays_c14:(Rows.freshPlaysRow.ifaces == (Tryz.f4.params.toList++Rows.freshPlaysSpec.plain.varTypes Tryz.checked.prog).any (Tryz.checked.prog.ifacesRec ·))=true:=by kernel_rfl
theorem freshPlays_c15:(Rows.freshPlaysRow.mapsOut == Tryz.checked.prog.mapsAmong Tryz.f4.resultTypes.toList)=true:=by kernel_rfl
theorem freshPlays_c16:(Rows.freshPlaysRow.loops == (Tryz.f4.params.toList++Rows.freshPlaysSpec.plain.varTypes Tryz.checked.prog).any (Tryz.checked.prog.loopsFrom ·))=true:=by kernel_rfl
theorem freshPlays_c17:(Rows.freshPlaysRow.wideKeys == (Tryz.f4.params.toList++Rows.freshPlaysSpec.plain.varTypes Tryz.checked.prog++Tryz.f4.resultTypes.toList).any (Tryz.checked.prog.wideKeysFrom ·))=true:=by kernel_rfl
theorem freshPlays_c18:(Rows.freshPlaysSpec.vars.all (Tryz.checked.prog.varReadable ·))=true:=by kernel_rfl
theorem freshPlays_c19:(Tryz.f4.resultTypes.all (fun t=>Tryz.checked.prog.readableRec t && decide (t < Tryz.checked.prog.types.size)))=true:=by kernel_rfl
theorem freshPlays_c20:(Rows.freshPlaysRow.ifacesOut == Tryz.f4.resultTypes.toList.any (Tryz.checked.prog.ifacesRec ·))=true:=by kernel_rfl
theorem freshPlays_c21:(Rows.freshPlaysRow.loopsOut == Tryz.f4.resultTypes.toList.any (Tryz.checked.prog.loopsFrom ·))=true:=by kernel_rfl
theorem freshPlays_c22:(Rows.freshPlaysRow.plainKeys == Tryz.checked.prog.plainKeys)=true:=by kernel_rfl
theorem freshPlays_c23:(Rows.freshPlaysRow.shortTexts.isNone)=true:=by kernel_rfl
theorem freshPlays_c24:(Tryz.checked.prog.stopsHeard)=true:=by kernel_rfl
theorem freshPlays_c25:(Tryz.checked.prog.mayEnter)=true:=by kernel_rfl
theorem freshPlays_c26:(Rows.freshPlaysRow.lifted == Tryz.checked.prog.liftsFinal)=true:=by kernel_rfl
theorem freshPlays_c27:(Tryz.checked.prog.make == some Rows.freshPlaysRow.make)=true:=by kernel_rfl
theorem freshPlays_c28:(Rows.freshPlaysRow.kinds == (if Rows.freshPlaysRow.domain.isEmpty then [] else Tryz.f4.params.toList.map fun t=>match Tryz.checked.prog.underlying t with|some (.int k)=>some k|_=>none))=true:=by kernel_rfl
theorem freshPlays_c29:(Rows.freshPlaysRow.pinned == Rows.freshPlaysRow.pinnedBy)=true:=by kernel_rfl
theorem freshPlays_c30:(Rows.freshPlaysRow.veiled == (Tryz.f4.params.toList++Rows.freshPlaysSpec.plain.varTypes Tryz.checked.prog++Tryz.f4.resultTypes.toList).any (Tryz.checked.prog.veiledRec ·))=true:=by kernel_rfl
theorem freshPlays_c31:(Rows.freshPlaysRow.veiledFits Tryz.checked.prog Tryz.f4.params.toList (Tryz.f4.params.toList++Rows.freshPlaysSpec.plain.varTypes Tryz.checked.prog++Tryz.f4.resultTypes.toList))=true:=by kernel_rfl
set_option maxRecDepth 100000 in
theorem freshPlays_cl:joinedFacts Tryz.checked.prog 4 Tryz.f4 Rows.freshPlaysSpec Rows.freshPlaysRow=true:=joined_of freshPlays_c0 freshPlays_c1 freshPlays_c2 freshPlays_c3 freshPlays_c4 freshPlays_c5 freshPlays_c6 freshPlays_c7 freshPlays_c8 freshPlays_c9 freshPlays_c10 freshPlays_c11 freshPlays_c12 freshPlays_c13 freshPlays_c14 freshPlays_c15 freshPlays_c16 freshPlays_c17 freshPlays_c18 freshPlays_c19 freshPlays_c20 freshPlays_c21 freshPlays_c22 freshPlays_c23 freshPlays_c24 freshPlays_c25 freshPlays_c26 freshPlays_c27 freshPlays_c28 freshPlays_c29 freshPlays_c30 freshPlays_c31
theorem freshPlays_fn:Tryz.checked.prog.funcNamed Rows.freshPlaysRow.func=some 4:=by kernel_rfl
theorem freshPlays_holds:Rows.FreshPlaysSaid :=
  OpenClaim.holds_of_wide 4 Tryz.f4 rfl rfl rfl rfl rfl rfl rfl ⟨rfl,rfl,rfl,rfl,rfl⟩ rfl rfl rfl rfl rfl freshPlays_fn Tryz.func4 freshPlays_cl
    (of_decide_eq_true (by kernel_rfl)) (by unfold Func.isWrapper;first|(rw [if_pos (by decide +kernel)];kernel_rfl)|(rw [if_neg (by decide +kernel)];exact ⟨rfl,rfl⟩))
    (fun os started H enc _=>freshPlays_lifted os started H enc)
end Go.Proofs.YtolnagbahceebaaGreat
