/- The statement vigillaw23.QueuePlays holds: for every input the call returns true, and its arguments read as they did. No condition. -/
import Derived.Test.YtdoljkafkpgkbaaRows
import Derived.Test.YtdoljkafkpgkbaaC31
import Derived.Test.YtdoljkafkpgkbaaL19x
import Derived.Test.YtdoljkafkpgkbaaEng23
set_option linter.unusedSimpArgs false
set_option linter.unusedVariables false
namespace Go.Proofs.Ytdoljkafkpgkbaa
open Go.ChangeShapes Go.WideShapes Go.ChangeAt Go.RowKit

theorem act_opens {H : Type} {enc : TypeId × Value → H} {w : World} {base : Nat} {spare : Nat → Bool} {held : Bool} : Opens enc Try.prog w base spare held 69 fun cs => ∃ a : Act, a.v = cs ∧ RdSl w a.a Rm.v a.rs := by
  have h0 := Opens.field (enc := enc) (w := w) (base := base) (spare := spare) (held := held) tb (t := 69) rfl rfl 0 rfl (Opens.flat (ks := [.int .i64]) tb rfl rfl rfl)
  have h1 := Opens.field (enc := enc) (w := w) (base := base) (spare := spare) (held := held) tb (t := 69) rfl rfl 1 rfl (Opens.flat (ks := [.int .i64]) tb rfl rfl rfl)
  have h2 := Opens.field (enc := enc) (w := w) (base := base) (spare := spare) (held := held) tb (t := 69) rfl rfl 2 rfl (Opens.slice Rm.v (fun _ => True) tb rfl rfl rfl rfl (fun _ => rfl) ((Opens.flat (ks := rmKs) tb rfl rfl rfl).mono fun cs h => by obtain ⟨r, hr⟩ := rm_dec cs h; exact ⟨r, hr, trivial⟩))
  refine ((h0.and h1).and h2).mono ?_
  rintro cs ⟨⟨⟨hl, g0⟩, ⟨_, g1⟩⟩, ⟨_, g2⟩⟩
  match cs, hl with
  | [c0, c1, c2], _ =>
    simp only [List.drop_zero, List.drop_succ_cons, List.take_succ_cons, List.take_zero] at g0 g1 g2
    obtain ⟨a, rs, cap, h3, h4, _⟩ := g2
    match c0, c1, g0, g1 with
    | .int k0 i0, .int k1 i1, g0, g1 =>
      obtain ⟨⟨rfl, _⟩, _⟩ := g0
      obtain ⟨⟨rfl, _⟩, _⟩ := g1
      refine ⟨⟨i0, i1, a, rs, cap⟩, ?_, h4⟩
      simp only [List.cons.injEq, and_true] at h3
      simp only [Act.v, h3]

set_option maxRecDepth 100000 in
theorem queuePlays_lifted (os : Os) (started : os.Started) (H : Type) (enc : TypeId × Value → H) :
    ReturnsInHanded {} Try.checked os 9 .any (Rows.queuePlaysSpec.pre6 enc Try.prog Try.f9 Rows.queuePlaysRow.domain false) (Rows.queuePlaysSpec.post enc Try.prog Try.f9 false true false false) := by
  refine returnsInHanded_of_change (C := Try.checked) Try.own started (by kernel_rfl) Try.func9
    (ChangeSpec.witness6 (enc := enc) (C := Try.checked) false ⟨#[], #[.slice none 0 0, .agg ⟨[.int .i64 0, .int .i64 0, .int .i64 0, .int .i64 0]⟩], []⟩ 8 (by kernel_rfl) (by kernel_rfl) (by kernel_rfl) (by kernel_rfl)) ?_
  intro W base args ds gs before hval0 hW hcnd _
  have hval : ∀ (j : Nat) t v, Try.f9.params[j]? = some t → args[j]? = some v → Value.okWide Try.prog W .any base t v := hval0
  have hW' := hW
  obtain ⟨p, q, hA0, hV, rfl, hfz, hnd⟩ := hW
  have hA : DataW.TrodAll enc Try.prog W 0 (fun _ => true) true Try.f9.params.toList args.toList ds p := hA0
  rw [Try.params9] at hA hval
  obtain ⟨v0, v1, d0, d1, p0, p1, rfl, rfl, rfl, h0, h1⟩ := trodAll_two hA
  obtain ⟨rfl, rfl⟩ := trodVars_none hV
  obtain ⟨a0, rs0, cap0, rfl, hrd0, _, _, hall0, _⟩ := Opens.argSl tb (t := 66) rfl rfl (hval 0 66 v0 rfl rfl) (Opens.slice Act.v _ tb rfl rfl rfl rfl (fun _ => rfl) act_opens) h0
  obtain ⟨x1, rfl, _⟩ := open_flat Cl.v tb (t := 38) (ks := clKs) rfl rfl rfl rfl cl_dec (hval 1 38 v1 rfl rfl) h1
  refine (queuePlays_ok a0 cap0 rs0 x1 W hrd0 hall0).run.mono fun e W' ⟨v, he, hv, hc⟩ => ?_
  subst hv
  exact ⟨_, he, law_post (tt := 4) hW' rfl rfl (by kernel_rfl) (by kernel_rfl) Try.laidOut (by
    rw [Try.params9]
    intro t ht
    simp only [List.mem_cons, List.not_mem_nil, or_false] at ht
    rcases ht with rfl | rfl
    · exact ⟨by kernel_rfl, of_decide_eq_true (by kernel_rfl)⟩
    · exact ⟨by kernel_rfl, of_decide_eq_true (by kernel_rfl)⟩) hc.below⟩

theorem queuePlays_holds : Rows.QueuePlaysSaid :=
  OpenClaim.holds_of_wide 9 Try.f9 rfl rfl rfl rfl rfl rfl rfl ⟨rfl, rfl, rfl, rfl, rfl⟩ rfl rfl rfl rfl rfl (by kernel_rfl) Try.func9 (by kernel_rfl)
    (of_decide_eq_true (by kernel_rfl)) (by unfold Func.isWrapper; first | (rw [if_pos (by decide +kernel)]; kernel_rfl) | (rw [if_neg (by decide +kernel)]; exact ⟨rfl, rfl⟩))
    (fun os started H enc _ => queuePlays_lifted os started H enc)
end Go.Proofs.Ytdoljkafkpgkbaa
