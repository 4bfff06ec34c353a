/- Slices of integers: collected, sorted; does one stand twice. -/
import Derived.Test.YtligpachgcmkcaaSl5
set_option linter.unusedSimpArgs false
set_option linter.unusedVariables false
namespace Go.Proofs.Ytligpachgcmkcaa
open Go.RowKit Go.Shelf
set_option maxRecDepth 100000

theorem collect_ok (cb : Nat) (p : Option Addr) (n cap : Nat) (xs : List Int) (hn : n = xs.length) (hbig : n ≤ 1000000) (w : World) (hp : RdSl w p iV xs) (hoff : xs ≠ [] → Off p [cb]) :
    CallM Try.prog 113 [.func (.func 114) #[] #[.pointer (some ⟨cb, 0, none⟩)]] [(cb, .cells ⟨[.slice p n cap]⟩ 25 (0, 0))] w fun v L => ∃ ov, OvOk 1 ov n (iis xs) ∧ v = slV ov n ∧ L = (cb, .cells ⟨[.slice p n cap]⟩ 25 (0, 0)) :: blkL 3 ov (iis xs) := by
  have h := fun w1 (hc : Chg [cb] w w1) => appendSeq_ok cb p n cap xs hn hbig w1 (hp.chg' hc hoff) hoff
  refine enterK (tb := tb) Try.func113 rfl Try.ntmps113 rfl ?_
  repeat' (first | (apply R.is1; first | (apply R.isCall; (apply R.callE (vs := [.slice none 0 0, .func (.func 114) #[] #[.pointer (some ⟨cb, 0, none⟩)]]); (iterate 3 exact rfl); exact Ext.all _; intro w1 hw1; exact h w1 hw1.chg; rintro v Lo ⟨ov, hov, rfl, rfl⟩)) | (apply R.pure; exact rfl; first | (apply Ok1.move; exact rfl) | (apply Ok1.assign; exact rfl))) | apply R.nil | (apply T.is; first | apply T.seq | apply T.region | apply T.ret))
  (apply RetOk.t; exact rfl)
  exact ⟨_, by (focus ((repeat' (first | exact Ext.one _ _ | exact Ext.here _ _ | apply Keep.cons | apply Keep.last)); done)), ov, hov, rfl, rfl⟩
theorem sorted_ok (cb : Nat) (p : Option Addr) (n cap : Nat) (xs : List Int) (hn : n = xs.length) (hbig : n ≤ 1000000) (w : World) (hp : RdSl w p iV xs) (hoff : xs ≠ [] → Off p [cb]) :
    CallM Try.prog 83 [.func (.func 114) #[] #[.pointer (some ⟨cb, 0, none⟩)]] [(cb, .cells ⟨[.slice p n cap]⟩ 25 (0, 0))] w fun v L => ∃ ov, OvOk 1 ov n (iis (srt xs)) ∧ v = slV ov n ∧ L = (cb, .cells ⟨[.slice p n cap]⟩ 25 (0, 0)) :: blkL 3 ov (iis (srt xs)) := by
  subst hn
  have h := fun w1 (hc : Chg [cb] w w1) => collect_ok cb p xs.length cap xs rfl hbig w1 (hp.chg' hc hoff) hoff
  have hs := fun ov hov w1 => isort_ok xs (by omega) ov hov w1
  have hl : (iis (srt xs)).length = xs.length := by rw [iis_len, (srt_perm xs).length_eq]
  refine enterK (tb := tb) Try.func83 rfl Try.ntmps83 rfl ?_
  repeat' (first | (apply R.is1; first | (apply R.isCall; first | (apply R.callE (vs := [.func (.func 114) #[] #[.pointer (some ⟨cb, 0, none⟩)]]); (iterate 3 exact rfl); exact Ext.all _; intro w1 hw1; exact h w1 hw1.chg; rintro v Lo ⟨ov, hov, rfl, rfl⟩) | (apply R.callE (vs := [slV ov xs.length]); (iterate 3 exact rfl); exact Ext.cons _ (Ext.here _ _); intro w1 hw1; exact hs ov hov w1; rintro v Lo ⟨rfl, rfl⟩)) | (apply R.pure; exact rfl; first | (apply Ok1.move; exact rfl) | (apply Ok1.assign; exact rfl))) | apply R.nil | (apply T.is; first | apply T.seq | apply T.region | apply T.ret))
  (apply RetOk.t; exact rfl)
  refine ⟨_, ?_, ov, ⟨by rw [hl, Nat.mul_one], hov.2⟩, rfl, rfl⟩
  (focus ((repeat' (first | exact Ext.one _ _ | exact Ext.here _ _ | apply Keep.cons | apply Keep.last | apply Ext.app)); done))
theorem twice_ok (p : Option Addr) (n cap : Nat) (xs : List Int) (hn : n = xs.length) (hbig : n ≤ 1000000) (w : World) (hp : RdSl w p iV xs) :
    CallM Try.prog 58 [.slice p n cap] [] w fun v L => v = .bool (decide (¬ xs.Nodup)) ∧ L = [] := by
  subst hn
  have hc := fun ys ov (hl : ys.length = xs.length) hov w1 => icompact_ok ys (by omega) ov hov w1
  have hu : (Go.Lib.compact (srt xs)).length ≤ xs.length := uniq_le xs
  have hue : (Go.Lib.compact (srt xs)).length = xs.length ↔ xs.Nodup := uniq_len xs
  have hsl : (srt xs).length = xs.length := (srt_perm xs).length_eq
  have hss := fun cb w1 hr ho => sorted_ok cb p xs.length cap xs rfl hbig w1 hr ho
  generalize srt xs = ys at *
  replace hc := fun ov hov w1 => hc ys ov hsl hov w1
  rw [hsl] at hc
  refine enterK (tb := tb) Try.func58 rfl Try.ntmps58 rfl ?_
  by_cases hnd : xs.Nodup
  · have h2 := hue.2 hnd
    rw [decide_eq_false (by simp [hnd])]
    repeat' (first | (apply R.is1; first | (apply R.isBin; (apply R.pure; exact rfl; (apply Ok1.neq_f; exact rfl; exact rfl; omega))) | (apply R.isCall; first | (apply R.callE (vs := [.slice p xs.length cap]); (iterate 3 exact rfl); exact Ext.none _; intro w1 hw1; exact ivalues_ok p xs.length cap w1; rintro v Lo ⟨cb, rfl, rfl⟩) | (apply R.callE (vs := [.func (.func 114) #[] #[.pointer (some ⟨cb, 0, none⟩)]]); (iterate 3 exact rfl); exact Ext.here _ _; intro w1 hw1; exact hss cb w1 (hp.chg' hw1.chg (fun _ => Off.nil _)) (RdSl.old iV_len (by decide) hp (fun _ => Off.nil _) hw1 (Li := [(cb, .cells ⟨[.slice p xs.length cap]⟩ 25 (0, 0))]) (by (focus ((repeat' (exact Ext.one _ _)); done)))); rintro v Lo ⟨ov, hov, rfl, rfl⟩) | (apply R.callE (vs := [slV ov xs.length]); (iterate 3 exact rfl); exact Ext.cons _ (Ext.here _ _); intro w1 hw1; exact hc ov hov w1; rintro v Lo ⟨ov2, hov2, rfl, rfl⟩) | (apply R.pure; exact rfl; apply Ok1.lenOv; (iterate 3 exact rfl); exact hov2) | (apply R.pure; exact rfl; (apply Ok1.lenS; (iterate 3 exact rfl)))) | (apply R.pure; exact rfl; first | (apply Ok1.move; exact rfl) | (apply Ok1.assign; exact rfl))) | apply R.nil | (apply T.is; first | apply T.seq | apply T.region | apply T.ret))
    all_goals (apply RetOk.t; exact rfl)
    all_goals exact ⟨_, by (focus ((repeat' (exact Keep.nil _)); done)), rfl, rfl⟩
  · have h2 : (Go.Lib.compact ys).length ≠ xs.length := fun e => hnd (hue.1 e)
    rw [decide_eq_true hnd]
    repeat' (first | (apply R.is1; first | (apply R.isBin; (apply R.pure; exact rfl; (apply Ok1.neq_t; exact rfl; exact rfl; omega))) | (apply R.isCall; first | (apply R.callE (vs := [.slice p xs.length cap]); (iterate 3 exact rfl); exact Ext.none _; intro w1 hw1; exact ivalues_ok p xs.length cap w1; rintro v Lo ⟨cb, rfl, rfl⟩) | (apply R.callE (vs := [.func (.func 114) #[] #[.pointer (some ⟨cb, 0, none⟩)]]); (iterate 3 exact rfl); exact Ext.here _ _; intro w1 hw1; exact hss cb w1 (hp.chg' hw1.chg (fun _ => Off.nil _)) (RdSl.old iV_len (by decide) hp (fun _ => Off.nil _) hw1 (Li := [(cb, .cells ⟨[.slice p xs.length cap]⟩ 25 (0, 0))]) (by (focus ((repeat' (exact Ext.one _ _)); done)))); rintro v Lo ⟨ov, hov, rfl, rfl⟩) | (apply R.callE (vs := [slV ov xs.length]); (iterate 3 exact rfl); exact Ext.cons _ (Ext.here _ _); intro w1 hw1; exact hc ov hov w1; rintro v Lo ⟨ov2, hov2, rfl, rfl⟩) | (apply R.pure; exact rfl; apply Ok1.lenOv; (iterate 3 exact rfl); exact hov2) | (apply R.pure; exact rfl; (apply Ok1.lenS; (iterate 3 exact rfl)))) | (apply R.pure; exact rfl; first | (apply Ok1.move; exact rfl) | (apply Ok1.assign; exact rfl))) | apply R.nil | (apply T.is; first | apply T.seq | apply T.region | apply T.ret))
    all_goals (apply RetOk.t; exact rfl)
    all_goals exact ⟨_, by (focus ((repeat' (exact Keep.nil _)); done)), rfl, rfl⟩
end Go.Proofs.Ytligpachgcmkcaa
