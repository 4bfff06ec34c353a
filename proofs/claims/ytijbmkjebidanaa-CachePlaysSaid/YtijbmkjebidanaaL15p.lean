/- The statement vigillaw15.CachePlays holds: for every input the call returns true, and its arguments read as they did. No condition. -/
import Derived.Test.YtijbmkjebidanaaL15pb4
import Derived.Test.YtijbmkjebidanaaRows
set_option linter.unusedSimpArgs false
set_option linter.unusedVariables false
namespace Go.Proofs.Ytijbmkjebidanaa
open Go.ChangeShapes Go.WideShapes Go.ChangeAt Go.RowKit
set_option maxRecDepth 100000 in
theorem cachePlays_lifted (os:Os) (started:os.Started) (H:Type) (enc:TypeId × Value→H) :
    ReturnsInHanded {} Try.checked os 3 .any (Rows.cachePlaysSpec.pre6 enc Try.prog Try.f3 Rows.cachePlaysRow.domain false) (Rows.cachePlaysSpec.post enc Try.prog Try.f3 false true false false):=by
  refine returnsInHanded_of_change (C:=Try.checked) Try.own started (by kernel_rfl) Try.func3
    (ChangeSpec.witness6 (enc:=enc) (C:=Try.checked) false ⟨#[],#[.slice none 0 0,.agg ⟨[.int .i64 0,.int .i64 0,.int .i64 0,.int .i64 0]⟩,.agg ⟨[.int .i64 0,.int .i64 0]⟩],[]⟩ 8 (by kernel_rfl) (by kernel_rfl) (by kernel_rfl) (by kernel_rfl)) ?_
  intro W base args ds gs before hval0 hW hcnd _
  have hval:∀ (j:Nat) t v,Try.f3.params[j]? = some t→args[j]? = some v→Value.okWide Try.prog W .any base t v:=hval0
  have hW':=hW
  obtain ⟨p,q,hA0,hV,rfl,hfz,hnd⟩:=hW
  have hA:DataW.TrodAll enc Try.prog W 0 (fun _=>true) true Try.f3.params.toList args.toList ds p:=hA0
  rw [Try.params3] at hA hval
  obtain ⟨v0,v1,v2,d0,d1,d2,p0,p1,p2,rfl,rfl,rfl,h0,h1,h2⟩:=trodAll_three hA
  obtain ⟨rfl,rfl⟩:=trodVars_none hV
  obtain ⟨a0,rs0,cap0,rfl,hrd0,hcp0⟩:=Opens.argSl tb (t:=22) rfl rfl (hval 0 22 v0 rfl rfl) (Opens.slice AC.v _ tb rfl rfl rfl rfl (fun _=>rfl) ac_opens) h0
  obtain ⟨x1,rfl,_⟩:=open_flat Cl.v tb (t:=24) (ks:=clKs) rfl rfl rfl rfl cl_dec (hval 1 24 v1 rfl rfl) h1
  obtain ⟨x2,rfl,_⟩:=open_flat nV tb (t:=26) (ks:=ncKsP) rfl rfl rfl rfl nc_decP (hval 2 26 v2 rfl rfl) h2
  refine (cachePlays_ok a0 cap0 rs0 x1 x2.1 x2.2 W hrd0 hcp0.2.2.1).run.mono fun e W' ⟨v,he,hv,hc⟩=>?_
  subst hv
  exact ⟨_,he,law_post (tt:=4) hW' rfl rfl (by kernel_rfl) (by kernel_rfl) Try.laidOut (by
    rw [Try.params3]
    intro t ht
    simp only [List.mem_cons,List.not_mem_nil,or_false] at ht
    rcases ht with rfl|rfl|rfl
    · exact ⟨by kernel_rfl,of_decide_eq_true (by kernel_rfl)⟩
    · exact ⟨by kernel_rfl,of_decide_eq_true (by kernel_rfl)⟩
    · exact ⟨by kernel_rfl,of_decide_eq_true (by kernel_rfl)⟩) hc.below⟩

theorem cachePlays_holds:Rows.CachePlaysSaid :=
  OpenClaim.holds_of_wide 3 Try.f3 rfl rfl rfl rfl rfl rfl rfl ⟨rfl,rfl,rfl,rfl,rfl⟩ rfl rfl rfl rfl rfl (by kernel_rfl) Try.func3 (by kernel_rfl)
    (of_decide_eq_true (by kernel_rfl)) (by unfold Func.isWrapper;first|(rw [if_pos (by decide +kernel)];kernel_rfl)|(rw [if_neg (by decide +kernel)];exact ⟨rfl,rfl⟩))
    (fun os started H enc _=>cachePlays_lifted os started H enc)
end Go.Proofs.Ytijbmkjebidanaa
