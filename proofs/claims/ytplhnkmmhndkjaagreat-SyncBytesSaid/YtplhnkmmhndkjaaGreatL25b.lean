/- The statement vigillaw25.SyncBytes holds: for every input the call returns true, and its arguments read as they did. No condition. -/
import Derived.Test.YtplhnkmmhndkjaaGreatL25bb6
import Derived.Test.YtplhnkmmhndkjaaGreatRows
set_option linter.unusedSimpArgs false
set_option linter.unusedVariables false
namespace Go.Proofs.YtplhnkmmhndkjaaGreat
open Go.ChangeShapes Go.WideShapes Go.ChangeAt Go.RowKit
def NcC (cs : List Value) : Prop := ∃ a b : Int, cs = [.int .i64 a, .int .i64 b]
theorem nc_dec {cs : List Value} (h : allW [.int .i64, .int .i64] cs) : NcC cs := by
  match cs, h with
  | [.int k1 a, .int k2 b], h =>
    obtain ⟨⟨rfl, _⟩, ⟨rfl, _⟩, _⟩ := h
    exact ⟨a, b, rfl⟩
theorem nonce_opens {H : Type} {enc : TypeId × Value → H} {w : World} {base : Nat} {spare : Nat → Bool} {held : Bool} : Opens enc Tryz.prog w base spare held 31 NcC := (Opens.flat (ks := [.int .i64, .int .i64]) tb rfl rfl rfl).mono fun cs h => nc_dec h
theorem sbytes_all (ask : Bool) (cs ns : List Value) (w : World) (h : GoC w cs) (hn : NcC ns) : CallW Tryz.prog 3 [.agg ⟨cs⟩, .agg ⟨ns⟩, .bool ask] w fun v _ => v = .bool true := by
  obtain ⟨xv, xp, pR, pP, cR, cP, rs, ps, rfl, hxv, hxp, hxb, hr, hp⟩ := h
  obtain ⟨a, b, rfl⟩ := hn
  exact sbytes_ok ask a b xv xp hxv hxp hxb pR pP cR cP rs ps w hr hp
set_option maxRecDepth 100000 in
theorem syncBytes_lifted (os : Os) (started : os.Started) (H : Type) (enc : TypeId × Value → H) :
    ReturnsInHanded {} Tryz.checked os 3 .any (Rows.syncBytesSpec.pre6 enc Tryz.prog Tryz.f3 Rows.syncBytesRow.domain false) (Rows.syncBytesSpec.post enc Tryz.prog Tryz.f3 false true false false) := by
  refine returnsInHanded_of_change (C := Tryz.checked) ownY started (by kernel_rfl) Tryz.func3
    (ChangeSpec.witness6 (enc := enc) (C := Tryz.checked) false ⟨#[], #[.agg ⟨goC (dgV [0, 0, 0, 0] [0, 0, 0, 0, 0, 0, 0, 0]) (.slice none 0 0) (.slice none 0 0)⟩, .agg ⟨[.int .i64 0, .int .i64 0]⟩, .bool false], []⟩ 8 (by kernel_rfl) (by kernel_rfl) (by kernel_rfl) (by kernel_rfl)) ?_
  intro W base args ds gs before hval0 hW hcnd _
  have hval : ∀ (j : Nat) t v, Tryz.f3.params[j]? = some t → args[j]? = some v → Value.okWide Tryz.prog W .any base t v := hval0
  have hW' := hW
  obtain ⟨p, q, hA0, hV, rfl, hfz, hnd⟩ := hW
  have hA : DataW.TrodAll enc Tryz.prog W 0 (fun _ => true) true Tryz.f3.params.toList args.toList ds p := hA0
  rw [Tryz.params3] at hA hval
  obtain ⟨v0, v1, v2, d0, d1, d2, p0, p1, p2, rfl, rfl, rfl, h0, h1, h2⟩ := trodAll_three hA
  obtain ⟨rfl, rfl⟩ := trodVars_none hV
  obtain ⟨cs0, rfl, hcs0⟩ := Opens.argStY tb (t := 29) rfl rfl go_opens (hval 0 29 v0 rfl rfl) h0
  obtain ⟨cs1, rfl, hcs1⟩ := Opens.argStY tb (t := 31) rfl rfl nonce_opens (hval 1 31 v1 rfl rfl) h1
  obtain ⟨n2, rfl, rfl, rfl⟩ := open_bool (by kernel_rfl) (hval 2 4 v2 rfl rfl) h2
  refine (sbytes_all n2 cs0 cs1 W hcs0 hcs1).run.mono fun e W' ⟨v, he, hv, hc⟩ => ?_
  subst hv
  exact ⟨_, he, law_post (tt := 4) hW' rfl rfl (by kernel_rfl) (by kernel_rfl) laidY (by
    rw [Tryz.params3]
    intro t ht
    simp only [List.mem_cons, List.not_mem_nil, or_false] at ht
    rcases ht with rfl | rfl | rfl
    · exact ⟨by kernel_rfl, of_decide_eq_true (by kernel_rfl)⟩
    · exact ⟨by kernel_rfl, of_decide_eq_true (by kernel_rfl)⟩
    · exact ⟨by kernel_rfl, of_decide_eq_true (by kernel_rfl)⟩) hc.below⟩

theorem syncBytes_holds : Rows.SyncBytesSaid :=
  OpenClaim.holds_of_wide 3 Tryz.f3 rfl rfl rfl rfl rfl rfl rfl ⟨rfl, rfl, rfl, rfl, rfl⟩ rfl rfl rfl rfl rfl (by kernel_rfl) Tryz.func3 (by kernel_rfl)
    (of_decide_eq_true (by kernel_rfl)) (by unfold Func.isWrapper; first | (rw [if_pos (by decide +kernel)]; kernel_rfl) | (rw [if_neg (by decide +kernel)]; exact ⟨rfl, rfl⟩))
    (fun os started H enc _ => syncBytes_lifted os started H enc)
end Go.Proofs.YtplhnkmmhndkjaaGreat
