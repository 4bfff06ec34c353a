/- The statement vigillaw07.KeysRing holds: for every input the call returns true, and its arguments read as they did. No condition. -/
import Derived.Test.YtijbmkjebidanaaL07rb6
import Derived.Test.YtijbmkjebidanaaRows
set_option linter.unusedSimpArgs false
set_option linter.unusedVariables false
namespace Go.Proofs.Ytijbmkjebidanaa
open Go.ChangeShapes Go.WideShapes Go.ChangeAt Go.RowKit
set_option maxRecDepth 100000 in
theorem keysRing_lifted (os:Os) (started:os.Started) (H:Type) (enc:TypeId × Value→H) :
    ReturnsInHanded {} Try.checked os 4 .any (Rows.keysRingSpec.pre6 enc Try.prog Try.f4 Rows.keysRingRow.domain false) (Rows.keysRingSpec.post enc Try.prog Try.f4 false true false false):=by
  refine returnsInHanded_of_change (C:=Try.checked) Try.own started (by kernel_rfl) Try.func4
    (ChangeSpec.witness6 (enc:=enc) (C:=Try.checked) false ⟨#[],#[.slice none 0 0,.agg ⟨[.int .i64 0,.int .i64 0,.int .i64 0,.int .i64 0]⟩,.slice none 0 0,.int .i64 0,.int .i64 0],[]⟩ 8 (by kernel_rfl) (by kernel_rfl) (by kernel_rfl) (by kernel_rfl)) ?_
  intro W base args ds gs before hval0 hW hcnd _
  have hval:∀ (j:Nat) t v,Try.f4.params[j]? = some t→args[j]? = some v→Value.okWide Try.prog W .any base t v:=hval0
  have hW':=hW
  obtain ⟨p,q,hA0,hV,rfl,hfz,hnd⟩:=hW
  have hA:DataW.TrodAll enc Try.prog W 0 (fun _=>true) true Try.f4.params.toList args.toList ds p:=hA0
  rw [Try.params4] at hA hval
  obtain ⟨v0,v1,v2,v3,v4,d0,d1,d2,d3,d4,p0,p1,p2,p3,p4,rfl,rfl,rfl,h0,h1,h2,h3,h4⟩:=trodAll_five hA
  obtain ⟨rfl,rfl⟩:=trodVars_none hV
  obtain ⟨a0,rs0,cap0,rfl,hrd0,hcp0⟩:=open_rows u8V tb (ks:=byKs) rfl rfl rfl rfl rfl rfl (fun _=>rfl) by_dec (hval 0 30 v0 rfl rfl) h0
  obtain ⟨x1,rfl,_⟩:=open_flat Cl.v tb (t:=24) (ks:=clKs) rfl rfl rfl rfl cl_dec (hval 1 24 v1 rfl rfl) h1
  obtain ⟨a2,rs2,cap2,rfl,hrd2,hcp2⟩:=Opens.argSl tb (t:=63) rfl rfl (hval 2 63 v2 rfl rfl) (Opens.slice KA.v _ tb rfl rfl rfl rfl (fun _=>rfl) ka_opens) h2
  obtain ⟨n3,rfl,rfl,rfl,wn3⟩:=open_int (k:=.i64) (by kernel_rfl) (hval 3 3 v3 rfl rfl) h3
  obtain ⟨n4,rfl,rfl,rfl,wn4⟩:=open_int (k:=.i64) (by kernel_rfl) (hval 4 3 v4 rfl rfl) h4
  refine (keysRing_ok a0 cap0 rs0 x1 a2 cap2 rs2 n3 n4 W hcp0.1 (byt_of hcp0.2.2.1) hrd0 hrd2 hcp2.2.2.1).run.mono fun e W' ⟨v,he,hv,hc⟩=>?_
  subst hv
  exact ⟨_,he,law_post (tt:=4) hW' rfl rfl (by kernel_rfl) (by kernel_rfl) Try.laidOut (by
    rw [Try.params4]
    intro t ht
    simp only [List.mem_cons,List.not_mem_nil,or_false] at ht
    rcases ht with rfl|rfl|rfl|rfl|rfl
    · exact ⟨by kernel_rfl,of_decide_eq_true (by kernel_rfl)⟩
    · exact ⟨by kernel_rfl,of_decide_eq_true (by kernel_rfl)⟩
    · exact ⟨by kernel_rfl,of_decide_eq_true (by kernel_rfl)⟩
    · exact ⟨by kernel_rfl,of_decide_eq_true (by kernel_rfl)⟩
    · exact ⟨by kernel_rfl,of_decide_eq_true (by kernel_rfl)⟩) hc.below⟩

theorem keysRing_holds:Rows.KeysRingSaid :=
  OpenClaim.holds_of_wide 4 Try.f4 rfl rfl rfl rfl rfl rfl rfl ⟨rfl,rfl,rfl,rfl,rfl⟩ rfl rfl rfl rfl rfl (by kernel_rfl) Try.func4 (by kernel_rfl)
    (of_decide_eq_true (by kernel_rfl)) (by unfold Func.isWrapper;first|(rw [if_pos (by decide +kernel)];kernel_rfl)|(rw [if_neg (by decide +kernel)];exact ⟨rfl,rfl⟩))
    (fun os started H enc _=>keysRing_lifted os started H enc)
end Go.Proofs.Ytijbmkjebidanaa
