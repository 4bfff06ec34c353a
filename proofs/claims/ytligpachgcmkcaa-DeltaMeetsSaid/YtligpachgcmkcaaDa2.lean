/- Contracts of delta: are versions right, a delta's size, what is asked for; the same deltas. -/
import Derived.Test.YtligpachgcmkcaaRb3
import Derived.Test.YtligpachgcmkcaaDn1
import Derived.Test.YtligpachgcmkcaaRd6
import Derived.Test.YtligpachgcmkcaaEng30
import Derived.Test.YtligpachgcmkcaaRb5
set_option linter.unusedSimpArgs false
set_option linter.unusedVariables false
namespace Go.Proofs.Ytligpachgcmkcaa
open Go.RowKit Go.Shelf
set_option maxRecDepth 100000

def VR (vs : List Int) : Prop := ∀ x ∈ vs, 0 ≤ x ∧ x ≤ 256
instance (vs : List Int) : Decidable (VR vs) := by unfold VR; infer_instance
theorem dright1_ok (x : Int) : CallP Try.prog 99 [.int .i64 x] (.bool (decide (x < 0 ∨ 256 < x))) := by
  refine enterP (tb := tb) Try.func99 rfl Try.ntmps99 rfl fun w => ?_
  by_cases h0 : x < 0
  · rw [decide_eq_true (.inl h0)]
    repeat' (first | (apply R.is1; first | (apply R.isBin; (apply R.pure; exact rfl; (apply Ok1.lss_t; exact rfl; exact rfl; omega))) | (apply R.pure; exact rfl; first | (apply Ok1.move; exact rfl) | (apply Ok1.assign; exact rfl) | (apply Ok1.pick_t; exact rfl; exact rfl))) | (apply R.isG; (apply R.guard_not; (iterate 3 exact rfl))) | apply R.nil | (apply T.is; first | apply T.seq | apply T.region | apply T.ret))
    (apply RetOk.t; exact rfl)
    rfl
  · by_cases h1 : 256 < x
    · rw [decide_eq_true (.inr h1)]
      repeat' (first | (apply R.is1; first | (apply R.isBin; (apply R.pure; exact rfl; first | (apply Ok1.lss_f; exact rfl; exact rfl; omega) | (apply Ok1.gtr_t; exact rfl; exact rfl; omega))) | (apply R.pure; exact rfl; first | (apply Ok1.move; exact rfl) | (apply Ok1.assign; exact rfl) | (apply Ok1.pick_f; exact rfl; exact rfl))) | (apply R.isG; (apply R.guard_run; exact rfl; exact rfl)) | apply R.nil | (apply T.is; first | apply T.seq | apply T.region | apply T.ret))
      (apply RetOk.t; exact rfl)
      rfl
    · rw [decide_eq_false (by omega)]
      repeat' (first | (apply R.is1; first | (apply R.isBin; (apply R.pure; exact rfl; first | (apply Ok1.lss_f; exact rfl; exact rfl; omega) | (apply Ok1.gtr_f; exact rfl; exact rfl; omega))) | (apply R.pure; exact rfl; first | (apply Ok1.move; exact rfl) | (apply Ok1.assign; exact rfl) | (apply Ok1.pick_f; exact rfl; exact rfl))) | (apply R.isG; (apply R.guard_run; exact rfl; exact rfl)) | apply R.nil | (apply T.is; first | apply T.seq | apply T.region | apply T.ret))
      (apply RetOk.t; exact rfl)
      rfl
theorem vright_ok (vs : List Int) (hl : vs.length = 4) : CallP Try.prog 75 [.agg ⟨iis vs⟩] (.bool (decide (VR vs))) := by
  have hc := fun p w1 h => conF_ok p 4 4 vs hl.symm (by decide) 99 rfl _ dright1_ok w1 h
  have he : (vs.any fun x => decide (x < 0 ∨ 256 < x)) = !decide (VR vs) := by
    by_cases hs : VR vs
    · rw [decide_eq_true hs]
      cases h4 : vs.any fun x => decide (x < 0 ∨ 256 < x) with
      | false => rfl
      | true =>
        obtain ⟨x, hx, hb⟩ := List.any_eq_true.1 h4
        have := hs x hx
        have := of_decide_eq_true hb
        omega
    · rw [decide_eq_false hs]
      cases h4 : vs.any fun x => decide (x < 0 ∨ 256 < x) with
      | true => rfl
      | false =>
        refine absurd (fun x hx => ?_) hs
        have := List.any_eq_false.1 h4 x hx
        simp only [decide_eq_true_eq] at this
        omega
  rw [he] at hc
  generalize decide (VR vs) = q at *
  have hil : (iis vs).length = 4 := by rw [iis_len, hl]
  refine enterP (tb := tb) Try.func75 rfl Try.ntmps75 rfl fun w => ?_
  cases q
  · repeat' (first | (apply R.is1; first | (apply R.isCall; (apply R.callV; (iterate 3 exact rfl); intro w1 hw1; exact hc _ w1 (RdSl.of (junk := []) hw1 (by exact At.head) (by rw [fl_i, List.append_nil])))) | (apply R.pure; exact rfl; first | (apply Ok1.sliceArr; (iterate 4 exact rfl)) | (apply Ok1.assign; exact rfl) | (apply Ok1.not_t; exact rfl)) | (apply R.box; (iterate 3 exact rfl); intro)) | apply R.nil | (apply T.is; first | apply T.seq | apply T.region | apply T.ret))
    (apply RetOk.t; exact rfl)
    rfl
  · repeat' (first | (apply R.is1; first | (apply R.isCall; (apply R.callV; (iterate 3 exact rfl); intro w1 hw1; exact hc _ w1 (RdSl.of (junk := []) hw1 (by exact At.head) (by rw [fl_i, List.append_nil])))) | (apply R.pure; exact rfl; first | (apply Ok1.sliceArr; (iterate 4 exact rfl)) | (apply Ok1.assign; exact rfl) | (apply Ok1.not_f; exact rfl)) | (apply R.box; (iterate 3 exact rfl); intro)) | apply R.nil | (apply T.is; first | apply T.seq | apply T.region | apply T.ret))
    (apply RetOk.t; exact rfl)
    rfl
theorem rvright_ok (v0 v1 v2 v3 : Int) : CallP Try.prog 51 [.agg ⟨iis [v0, v1, v2, v3]⟩] (.bool (decide (VR [v0, v1, v2, v3]))) := by
  have he : VR [v0, v1, v2, v3] ↔ (0 ≤ v0 ∧ v0 ≤ 256) ∧ (0 ≤ v1 ∧ v1 ≤ 256) ∧ (0 ≤ v2 ∧ v2 ≤ 256) ∧ (0 ≤ v3 ∧ v3 ≤ 256) := by simp [VR]
  refine enterP (tb := tb) Try.func51 rfl Try.ntmps51 rfl fun w => ?_
  repeat' (first | (apply R.is1; first | (apply R.isBin; first | (apply R.pure; exact rfl; first | (apply Ok1.add64; exact rfl; exact rfl; omega; omega) | (apply Ok1.lss_t; exact rfl; exact rfl; omega) | (apply Ok1.lss_f; exact rfl; exact rfl; omega)) | (apply R.lss rfl rfl rfl <;> intro) | (apply R.gtr rfl rfl rfl <;> intro)) | (apply R.pure; exact rfl; first | (apply Ok1.move; exact rfl) | (apply Ok1.load; exact rfl; (apply Ld.own1; exact rfl; exact rfl; exact At.head; exact rfl)) | (apply Ok1.assign; exact rfl) | (apply Ok1.indexAddrA; (iterate 5 exact rfl); omega; omega) | (apply Ok1.pick_t; exact rfl; exact rfl) | (apply Ok1.pick_f; exact rfl; exact rfl)) | (apply R.box; (iterate 3 exact rfl); intro)) | (apply R.isG; first | (apply R.guard_run; exact rfl; exact rfl) | (apply R.guard_not; (iterate 3 exact rfl))) | apply R.nil | (apply T.is; first | apply T.rounds 5 | apply T.seq | apply T.region | apply T.block | apply T.skip | apply T.exit | apply T.ret | (apply T.cond_t; exact rfl) | (apply T.cond_f; exact rfl)))
  all_goals (apply RetOk.t; exact rfl)
  all_goals first
    | (rw [decide_eq_true]; rw [he]; omega)
    | (rw [decide_eq_false]; rw [he]; omega)
def cntL (dd : List (Int × List Int)) : Nat := (dd.map fun x => x.2.length).sum
theorem dsize_ok (d : Dl) (hl : d.length = 4) (hbig : ∀ x ∈ d, x.2.xs.length ≤ 1000000) : CallP Try.prog 49 [.agg ⟨dlV d⟩] (.int .i64 (16 + 2 * cntL (pur d))) := by
  match d, hl with
  | [(a0, x0), (a1, x1), (a2, x2), (a3, x3)], _ =>
    have h0 := hbig _ (.head _)
    have h1 := hbig _ (.tail _ (.head _))
    have h2 := hbig _ (.tail _ (.tail _ (.head _)))
    have h3 := hbig _ (.tail _ (.tail _ (.tail _ (.head _))))
    simp only at h0 h1 h2 h3
    have e : (16 + 2 * (cntL (pur [(a0, x0), (a1, x1), (a2, x2), (a3, x3)]) : Int)) = 16 + 2 * x0.xs.length + 2 * x1.xs.length + 2 * x2.xs.length + 2 * x3.xs.length := by
      simp only [cntL, pur, List.map_cons, List.map_nil, List.sum_cons, List.sum_nil]
      omega
    rw [e]
    have ev : dlV [(a0, x0), (a1, x1), (a2, x2), (a3, x3)] = [.int .i64 a0, .int .i64 a1, .int .i64 a2, .int .i64 a3, .slice x0.p x0.xs.length x0.cap, .slice x1.p x1.xs.length x1.cap, .slice x2.p x2.xs.length x2.cap, .slice x3.p x3.xs.length x3.cap] := rfl
    rw [ev]
    refine enterP (tb := tb) Try.func49 rfl Try.ntmps49 rfl fun w => ?_
    repeat' (first | (apply R.is1; first | (apply R.isBin; (apply R.pure; exact rfl; first | (apply Ok1.add64; exact rfl; exact rfl; omega; omega) | (apply Ok1.lss_t; exact rfl; exact rfl; omega) | (apply Ok1.lss_f; exact rfl; exact rfl; omega) | (apply Ok1.mul64; exact rfl; exact rfl; omega; omega))) | (apply R.isCall; (apply R.pure; exact rfl; (apply Ok1.lenS; (iterate 3 exact rfl)))) | (apply R.pure; exact rfl; first | (apply Ok1.move; exact rfl) | (apply Ok1.fieldAddr; (iterate 5 exact rfl)) | (apply Ok1.load; exact rfl; (apply Ld.ownk; exact rfl; exact rfl; exact At.head; exact rfl)) | (apply Ok1.assign; exact rfl) | (apply Ok1.index1; (iterate 6 exact rfl); omega; omega; exact rfl)) | (apply R.box; (iterate 3 exact rfl); intro)) | apply R.nil | (apply T.is; first | apply T.rounds 5 | apply T.seq | apply T.region | apply T.block | apply T.skip | apply T.exit | apply T.ret | (apply T.cond_t; exact rfl) | (apply T.cond_f; exact rfl)))
    (apply RetOk.t; exact rfl)
    rfl
def Cov (us vs : List Int) : Prop := ∀ x ∈ us.zip vs, x.2 ≤ x.1
instance (us vs : List Int) : Decidable (Cov us vs) := by unfold Cov; infer_instance
theorem ask_ok (bs : Nat) (gs : List Lg) (hg : GOk gs) (vs p8 : List Int) (hv : vs.length = 4) (hp : p8.length = 8) (w : World) (hs : SetR w bs gs) :
    CallW Try.prog 47 [.pointer (some ⟨bs, 0, none⟩), .agg ⟨dgV vs p8⟩] w fun v _ => v = if Cov ((lgs gs).map fun x => (x.length : Int)) vs then Value.tuple #[.agg ⟨iis [0, 0, 0, 0]⟩, .bool false] else Value.tuple #[.agg ⟨iis ((lgs gs).map fun x => (x.length : Int))⟩, .bool true] := by
  have hve := fun w1 (hc : Chg [] w w1) => versions_ok bs gs hg w1 (hs.chg hc)
  rw [lens_of rfl] at hve
  have hll : ((lgs gs).map fun x => (x.length : Int)).length = 4 := by rw [List.length_map, lgs, List.length_map, hg.len]
  have hcv : CallP Try.prog 20 [.agg ⟨iis ((lgs gs).map fun x => (x.length : Int))⟩, .agg ⟨iis vs⟩] (.bool (decide (Cov ((lgs gs).map fun x => (x.length : Int)) vs))) := covers_list _ vs hll hv
  have hil : (iis ((lgs gs).map fun x => (x.length : Int))).length = 4 := by rw [iis_len, hll]
  have hs4 : subE (dgV vs p8) 0 4 = some (iis vs) := subE_app _ _ (by rw [iis_len, hv])
  have hone := iis_one ((lgs gs).map fun x => (x.length : Int))
  generalize dgV vs p8 = D at *
  generalize (lgs gs).map (fun x => (x.length : Int)) = us at *
  generalize iis us = U at *
  refine enterW (tb := tb) Try.func47 rfl Try.ntmps47 rfl ?_
  by_cases hc : Cov us vs
  · rw [if_pos hc]
    rw [decide_eq_true hc] at hcv
    repeat' (first | (apply R.is1; first | (apply R.isCall; first | (apply R.callV (vs := [.pointer (some ⟨bs, 0, none⟩)]); (iterate 3 exact rfl); intro w1 hw1; exact hve w1 hw1.chg) | apply R.callP rfl rfl rfl hcv) | (apply R.pure; exact rfl; first | (apply Ok1.load; exact rfl; first | (apply Ld.ownk; exact rfl; exact rfl; (focus ((repeat' (first | exact At.head | apply At.tail)); done)); exact hs4) | (apply Ld.ownk; exact rfl; exact rfl; exact At.head; exact subE_all hil)) | (apply Ok1.move; exact rfl) | (apply Ok1.fieldAddr; (iterate 5 exact rfl)) | (apply Ok1.assign; exact rfl) | (apply Ok1.buildA; (iterate 6 exact rfl))) | (apply R.box; (iterate 3 exact rfl); intro) | (apply R.alloc; (iterate 3 exact rfl); intro)) | (apply R.is0; first | (apply R.store; (iterate 4 exact rfl); exact hil; exact hone; exact Upd.head; exact setE_all (by rw [hil]; rfl)) | (apply R.store; (iterate 6 exact rfl); (focus ((repeat' (first | exact Upd.head | apply Upd.tail)); done)); exact rfl)) | apply R.nil | (apply T.is; first | apply T.seq | apply T.region | apply T.ret | (apply T.cond_t; exact rfl)))
    (apply RetOk.ct; exact rfl; ((apply Ld.ownk; exact rfl; exact rfl; (focus ((repeat' (first | exact At.head | apply At.tail)); done)); exact rfl)); exact rfl)
    rfl
  · rw [if_neg hc]
    rw [decide_eq_false hc] at hcv
    repeat' (first | (apply R.is1; first | (apply R.isCall; first | (apply R.callV (vs := [.pointer (some ⟨bs, 0, none⟩)]); (iterate 3 exact rfl); intro w1 hw1; exact hve w1 hw1.chg) | apply R.callP rfl rfl rfl hcv) | (apply R.pure; exact rfl; first | (apply Ok1.load; exact rfl; first | (apply Ld.ownk; exact rfl; exact rfl; (focus ((repeat' (first | exact At.head | apply At.tail)); done)); exact hs4) | (apply Ld.ownk; exact rfl; exact rfl; exact At.head; exact subE_all hil)) | (apply Ok1.move; exact rfl) | (apply Ok1.fieldAddr; (iterate 5 exact rfl)) | (apply Ok1.assign; exact rfl)) | (apply R.box; (iterate 3 exact rfl); intro) | (apply R.alloc; (iterate 3 exact rfl); intro)) | (apply R.is0; (apply R.store; (iterate 4 exact rfl); exact hil; exact hone; (focus ((repeat' (first | exact Upd.head | apply Upd.tail)); done)); exact setE_all (by rw [hil]; rfl))) | apply R.nil | (apply T.is; first | apply T.seq | apply T.region | apply T.skip | apply T.ret | (apply T.cond_f; exact rfl)))
    (apply RetOk.ct; exact rfl; (apply Ld.ownk; exact rfl; exact rfl; (focus ((repeat' (first | exact At.head | apply At.tail)); done)); exact subE_all hil); exact rfl)
    rfl
theorem same9_ok (d e : Dl) (hd : d.length = 4) (he : e.length = 4) (hbig : ∀ x ∈ d, x.2.xs.length ≤ 1000000) (w : World) (hr : ∀ x ∈ d, RdSl w x.2.p iV x.2.xs) (hq : ∀ x ∈ e, RdSl w x.2.p iV x.2.xs) :
    CallW Try.prog 52 [.agg ⟨dlV d⟩, .agg ⟨dlV e⟩] w fun v _ => v = .bool (decide (pur d = pur e)) := by
  have hl1 : (pur d).length = 4 := by rw [pur, List.length_map, hd]
  have hl2 : (pur e).length = 4 := by rw [pur, List.length_map, he]
  refine enterW (tb := tb) Try.func52 rfl Try.ntmps52 rfl ?_
  repeat' (first | (apply R.is1; first | (apply R.pure; exact rfl; (apply Ok1.assign; exact rfl)) | (apply R.box; (iterate 3 exact rfl); intro)) | apply R.nil | (apply T.is; first | apply T.seq | apply T.region | apply T.block))
  rename_i bd be
  apply T.loopK (α := Nat) (I := fun i => i ≤ 4 ∧ (pur d).take i = (pur e).take i) (σi := fun i => [(2, .pointer (some ⟨bd, 0, none⟩)), (3, .pointer (some ⟨be, 0, none⟩)), (5, .int .i64 i)]) (Li := fun _ => [(bd, .cells ⟨dlV d⟩ 41 (0, 0)), (be, .cells ⟨dlV e⟩ 32 (0, 0))]) (μ := fun i => 4 - i) (i0 := 0)
  · exact ⟨Nat.zero_le _, by simp⟩
  · exact ⟨rfl, rfl, rfl, trivial⟩
  · (focus ((repeat' (first | exact Keep.nil _ | exact Ext.one _ _ | apply Keep.cons | apply Ext.cons)); done))
  · rintro i ⟨hi, hpre⟩
    rcases Nat.lt_or_ge i 4 with hlt | hge
    · obtain ⟨x, hx⟩ : ∃ x, d[i]? = some x := ⟨_, List.getElem?_eq_getElem (by omega)⟩
      obtain ⟨y, hy⟩ : ∃ y, e[i]? = some y := ⟨_, List.getElem?_eq_getElem (by omega)⟩
      have hxf := dl_fr0 hx
      have hyf := dl_fr0 hy
      have hxl := dl_log hd hx
      have hyl := dl_log he hy
      have hxm := List.mem_of_getElem? hx
      have hym := List.mem_of_getElem? hy
      have hxp := pur_get hx
      have hyp := pur_get hy
      have hb := hbig x hxm
      have hsm := fun w1 (hc : Chg [] w w1) => isame_ok x.2.p y.2.p x.2.xs.length y.2.xs.length x.2.cap y.2.cap x.2.xs y.2.xs rfl rfl (by omega) w1 ((hr x hxm).chg' hc (fun _ => Off.nil _)) ((hq y hym).chg' hc (fun _ => Off.nil _))
      have hno : (x.1, x.2.xs) ≠ (y.1, y.2.xs) → decide (pur d = pur e) = false := by
        intro hne
        apply decide_eq_false
        intro h
        rw [h, hyp] at hxp
        exact hne (Option.some.inj hxp).symm
      by_cases h1 : x.1 = y.1
      · by_cases h2 : x.2.xs = y.2.xs
        · rw [decide_eq_true h2] at hsm
          have hst : (pur d).take (i + 1) = (pur e).take (i + 1) := by rw [List.take_add_one, List.take_add_one, hpre, hxp, hyp, h1, h2]
          repeat' (first | (apply R.is1; first | (apply R.isBin; (apply R.pure; exact rfl; first | (apply Ok1.add64; exact rfl; exact rfl; omega; omega) | (apply Ok1.lss_t; exact rfl; exact rfl; omega))) | (apply R.pure; exact rfl; first | (apply Ok1.move; exact rfl) | (apply Ok1.assign; exact rfl))) | apply R.nil | (apply T.is; first | (apply T.drawC (id := 4) [0,1] (by decide); ((apply A.take 0; exact rfl; exact rfl; kernel_rfl; kernel_rfl; kernel_rfl; (apply Ok1.move; exact rfl)) <;> (apply A.take 1; exact rfl; exact rfl; kernel_rfl; kernel_rfl; kernel_rfl; (apply Ok1.fieldAddr; (iterate 5 exact rfl))) <;> (apply A.take 2; exact rfl; exact rfl; kernel_rfl; kernel_rfl; kernel_rfl; (apply Ok1.indexAddrA; (iterate 5 exact rfl); omega; omega)) <;> (apply A.take 3; exact rfl; exact rfl; kernel_rfl; kernel_rfl; kernel_rfl; (apply Ok1.load; exact rfl; (apply Ld.own1; exact rfl; exact rfl; exact At.head; exact hxf))) <;> (apply A.take 4; exact rfl; exact rfl; kernel_rfl; kernel_rfl; kernel_rfl; (apply Ok1.move; exact rfl)) <;> (apply A.take 5; exact rfl; exact rfl; kernel_rfl; kernel_rfl; kernel_rfl; (apply Ok1.fieldAddr; (iterate 5 exact rfl))) <;> (apply A.take 6; exact rfl; exact rfl; kernel_rfl; kernel_rfl; kernel_rfl; (apply Ok1.indexAddrA; (iterate 5 exact rfl); omega; omega)) <;> (apply A.take 7; exact rfl; exact rfl; kernel_rfl; kernel_rfl; kernel_rfl; (apply Ok1.load; exact rfl; (apply Ld.own1; exact rfl; exact rfl; (focus ((repeat' (first | exact At.head | apply At.tail)); done)); exact hyf))) <;> ((apply A.take 8; exact rfl; exact rfl; kernel_rfl; kernel_rfl; kernel_rfl; (apply Ok1.neq_f; exact rfl; exact rfl; omega))) <;> (apply A.take 9; exact rfl; exact rfl; kernel_rfl; kernel_rfl; kernel_rfl; (apply Ok1.move; exact rfl)) <;> ((apply A.takeG 10; exact rfl; exact rfl; rotate_left 3; exact rfl; exact rfl; rotate_right 3; kernel_rfl; kernel_rfl; kernel_rfl; (apply Ok1.move; exact rfl))) <;> ((apply A.takeG 11; exact rfl; exact rfl; rotate_left 3; exact rfl; exact rfl; rotate_right 3; kernel_rfl; kernel_rfl; kernel_rfl; (apply Ok1.fieldAddr; (iterate 5 exact rfl)))) <;> ((apply A.takeG 12; exact rfl; exact rfl; rotate_left 3; exact rfl; exact rfl; rotate_right 3; kernel_rfl; kernel_rfl; kernel_rfl; (apply Ok1.indexAddrA; (iterate 5 exact rfl); omega; omega))) <;> ((apply A.takeG 13; exact rfl; exact rfl; rotate_left 3; exact rfl; exact rfl; rotate_right 3; kernel_rfl; kernel_rfl; kernel_rfl; (apply Ok1.load; exact rfl; (apply Ld.own1; exact rfl; exact rfl; exact At.head; exact hxl)))) <;> ((apply A.takeG 14; exact rfl; exact rfl; rotate_left 3; exact rfl; exact rfl; rotate_right 3; kernel_rfl; kernel_rfl; kernel_rfl; (apply Ok1.move; exact rfl))) <;> ((apply A.takeG 15; exact rfl; exact rfl; rotate_left 3; exact rfl; exact rfl; rotate_right 3; kernel_rfl; kernel_rfl; kernel_rfl; (apply Ok1.fieldAddr; (iterate 5 exact rfl)))) <;> ((apply A.takeG 16; exact rfl; exact rfl; rotate_left 3; exact rfl; exact rfl; rotate_right 3; kernel_rfl; kernel_rfl; kernel_rfl; (apply Ok1.indexAddrA; (iterate 5 exact rfl); omega; omega))) <;> ((apply A.takeG 17; exact rfl; exact rfl; rotate_left 3; exact rfl; exact rfl; rotate_right 3; kernel_rfl; kernel_rfl; kernel_rfl; (apply Ok1.load; exact rfl; (apply Ld.own1; exact rfl; exact rfl; (focus ((repeat' (first | exact At.head | apply At.tail)); done)); exact hyl)))) <;> (apply A.one 18; kernel_rfl; exact rfl; (((apply R.isG; apply R.guard_run; exact rfl; exact rfl; ((apply R.callV (vs := [.slice x.2.p x.2.xs.length x.2.cap, .slice y.2.p y.2.xs.length y.2.cap]); (iterate 3 exact rfl); intro w1 hw1; exact hsm w1 hw1.chg))))); apply R.nil; refine ⟨?_, ?_⟩; (focus ((repeat' (first | exact trivial | (refine ⟨?_, ?_⟩; (focus ((repeat' (first | exact At.head | apply At.tail)); done)))))))) <;> ((apply A.takeG 19; exact rfl; exact rfl; rotate_left 3; exact rfl; exact rfl; rotate_right 3; kernel_rfl; kernel_rfl; kernel_rfl; (apply Ok1.not_t; exact rfl))) <;> (apply A.take 20; exact rfl; exact rfl; kernel_rfl; kernel_rfl; kernel_rfl; (apply Ok1.pick_f; exact rfl; exact rfl)) <;> (apply A.done; kernel_rfl))) | apply T.seq | apply T.region | apply T.block | apply T.skip | (apply T.cond_t; exact rfl) | (apply T.cond_f; exact rfl)))
          exact ⟨i + 1, ⟨by omega, hst⟩, by omega, ⟨rfl, rfl, rfl, trivial⟩, by (focus ((repeat' (first | exact Keep.nil _ | exact Ext.one _ _ | apply Keep.cons)); done))⟩
        · rw [decide_eq_false h2] at hsm
          have hn := hno (fun h => h2 (Prod.mk.inj h).2)
          repeat' (first | (apply R.is1; first | (apply R.isBin; (apply R.pure; exact rfl; (apply Ok1.lss_t; exact rfl; exact rfl; omega))) | (apply R.pure; exact rfl; first | (apply Ok1.move; exact rfl) | (apply Ok1.assign; exact rfl))) | apply R.nil | (apply T.is; first | (apply T.drawC (id := 4) [0,1] (by decide); ((apply A.take 0; exact rfl; exact rfl; kernel_rfl; kernel_rfl; kernel_rfl; (apply Ok1.move; exact rfl)) <;> (apply A.take 1; exact rfl; exact rfl; kernel_rfl; kernel_rfl; kernel_rfl; (apply Ok1.fieldAddr; (iterate 5 exact rfl))) <;> (apply A.take 2; exact rfl; exact rfl; kernel_rfl; kernel_rfl; kernel_rfl; (apply Ok1.indexAddrA; (iterate 5 exact rfl); omega; omega)) <;> (apply A.take 3; exact rfl; exact rfl; kernel_rfl; kernel_rfl; kernel_rfl; (apply Ok1.load; exact rfl; (apply Ld.own1; exact rfl; exact rfl; exact At.head; exact hxf))) <;> (apply A.take 4; exact rfl; exact rfl; kernel_rfl; kernel_rfl; kernel_rfl; (apply Ok1.move; exact rfl)) <;> (apply A.take 5; exact rfl; exact rfl; kernel_rfl; kernel_rfl; kernel_rfl; (apply Ok1.fieldAddr; (iterate 5 exact rfl))) <;> (apply A.take 6; exact rfl; exact rfl; kernel_rfl; kernel_rfl; kernel_rfl; (apply Ok1.indexAddrA; (iterate 5 exact rfl); omega; omega)) <;> (apply A.take 7; exact rfl; exact rfl; kernel_rfl; kernel_rfl; kernel_rfl; (apply Ok1.load; exact rfl; (apply Ld.own1; exact rfl; exact rfl; (focus ((repeat' (first | exact At.head | apply At.tail)); done)); exact hyf))) <;> ((apply A.take 8; exact rfl; exact rfl; kernel_rfl; kernel_rfl; kernel_rfl; (apply Ok1.neq_f; exact rfl; exact rfl; omega))) <;> (apply A.take 9; exact rfl; exact rfl; kernel_rfl; kernel_rfl; kernel_rfl; (apply Ok1.move; exact rfl)) <;> ((apply A.takeG 10; exact rfl; exact rfl; rotate_left 3; exact rfl; exact rfl; rotate_right 3; kernel_rfl; kernel_rfl; kernel_rfl; (apply Ok1.move; exact rfl))) <;> ((apply A.takeG 11; exact rfl; exact rfl; rotate_left 3; exact rfl; exact rfl; rotate_right 3; kernel_rfl; kernel_rfl; kernel_rfl; (apply Ok1.fieldAddr; (iterate 5 exact rfl)))) <;> ((apply A.takeG 12; exact rfl; exact rfl; rotate_left 3; exact rfl; exact rfl; rotate_right 3; kernel_rfl; kernel_rfl; kernel_rfl; (apply Ok1.indexAddrA; (iterate 5 exact rfl); omega; omega))) <;> ((apply A.takeG 13; exact rfl; exact rfl; rotate_left 3; exact rfl; exact rfl; rotate_right 3; kernel_rfl; kernel_rfl; kernel_rfl; (apply Ok1.load; exact rfl; (apply Ld.own1; exact rfl; exact rfl; exact At.head; exact hxl)))) <;> ((apply A.takeG 14; exact rfl; exact rfl; rotate_left 3; exact rfl; exact rfl; rotate_right 3; kernel_rfl; kernel_rfl; kernel_rfl; (apply Ok1.move; exact rfl))) <;> ((apply A.takeG 15; exact rfl; exact rfl; rotate_left 3; exact rfl; exact rfl; rotate_right 3; kernel_rfl; kernel_rfl; kernel_rfl; (apply Ok1.fieldAddr; (iterate 5 exact rfl)))) <;> ((apply A.takeG 16; exact rfl; exact rfl; rotate_left 3; exact rfl; exact rfl; rotate_right 3; kernel_rfl; kernel_rfl; kernel_rfl; (apply Ok1.indexAddrA; (iterate 5 exact rfl); omega; omega))) <;> ((apply A.takeG 17; exact rfl; exact rfl; rotate_left 3; exact rfl; exact rfl; rotate_right 3; kernel_rfl; kernel_rfl; kernel_rfl; (apply Ok1.load; exact rfl; (apply Ld.own1; exact rfl; exact rfl; (focus ((repeat' (first | exact At.head | apply At.tail)); done)); exact hyl)))) <;> (apply A.one 18; kernel_rfl; exact rfl; (((apply R.isG; apply R.guard_run; exact rfl; exact rfl; ((apply R.callV (vs := [.slice x.2.p x.2.xs.length x.2.cap, .slice y.2.p y.2.xs.length y.2.cap]); (iterate 3 exact rfl); intro w1 hw1; exact hsm w1 hw1.chg))))); apply R.nil; refine ⟨?_, ?_⟩; (focus ((repeat' (first | exact trivial | (refine ⟨?_, ?_⟩; (focus ((repeat' (first | exact At.head | apply At.tail)); done)))))))) <;> ((apply A.takeG 19; exact rfl; exact rfl; rotate_left 3; exact rfl; exact rfl; rotate_right 3; kernel_rfl; kernel_rfl; kernel_rfl; (apply Ok1.not_f; exact rfl))) <;> (apply A.take 20; exact rfl; exact rfl; kernel_rfl; kernel_rfl; kernel_rfl; (apply Ok1.pick_f; exact rfl; exact rfl)) <;> (apply A.done; kernel_rfl))) | apply T.seq | apply T.region | apply T.block | apply T.skip | apply T.ret | (apply T.cond_t; exact rfl)))
          (apply RetOk.t; exact rfl)
          rw [hn]
      · have hn := hno (fun h => h1 (Prod.mk.inj h).1)
        repeat' (first | (apply R.is1; first | (apply R.isBin; (apply R.pure; exact rfl; (apply Ok1.lss_t; exact rfl; exact rfl; omega))) | (apply R.pure; exact rfl; first | (apply Ok1.move; exact rfl) | (apply Ok1.assign; exact rfl))) | apply R.nil | (apply T.is; first | (apply T.drawC (id := 4) [0,1] (by decide); ((apply A.take 0; exact rfl; exact rfl; kernel_rfl; kernel_rfl; kernel_rfl; (apply Ok1.move; exact rfl)) <;> (apply A.take 1; exact rfl; exact rfl; kernel_rfl; kernel_rfl; kernel_rfl; (apply Ok1.fieldAddr; (iterate 5 exact rfl))) <;> (apply A.take 2; exact rfl; exact rfl; kernel_rfl; kernel_rfl; kernel_rfl; (apply Ok1.indexAddrA; (iterate 5 exact rfl); omega; omega)) <;> (apply A.take 3; exact rfl; exact rfl; kernel_rfl; kernel_rfl; kernel_rfl; (apply Ok1.load; exact rfl; (apply Ld.own1; exact rfl; exact rfl; exact At.head; exact hxf))) <;> (apply A.take 4; exact rfl; exact rfl; kernel_rfl; kernel_rfl; kernel_rfl; (apply Ok1.move; exact rfl)) <;> (apply A.take 5; exact rfl; exact rfl; kernel_rfl; kernel_rfl; kernel_rfl; (apply Ok1.fieldAddr; (iterate 5 exact rfl))) <;> (apply A.take 6; exact rfl; exact rfl; kernel_rfl; kernel_rfl; kernel_rfl; (apply Ok1.indexAddrA; (iterate 5 exact rfl); omega; omega)) <;> (apply A.take 7; exact rfl; exact rfl; kernel_rfl; kernel_rfl; kernel_rfl; (apply Ok1.load; exact rfl; (apply Ld.own1; exact rfl; exact rfl; (focus ((repeat' (first | exact At.head | apply At.tail)); done)); exact hyf))) <;> ((apply A.take 8; exact rfl; exact rfl; kernel_rfl; kernel_rfl; kernel_rfl; (apply Ok1.neq_t; exact rfl; exact rfl; omega))) <;> (apply A.take 9; exact rfl; exact rfl; kernel_rfl; kernel_rfl; kernel_rfl; (apply Ok1.move; exact rfl)) <;> ((apply A.skipG 10; exact rfl; exact rfl; rotate_left 3; exact rfl; exact rfl; rotate_right 3; kernel_rfl; kernel_rfl; kernel_rfl)) <;> ((apply A.skipG 11; exact rfl; exact rfl; rotate_left 3; exact rfl; exact rfl; rotate_right 3; kernel_rfl; kernel_rfl; kernel_rfl)) <;> ((apply A.skipG 12; exact rfl; exact rfl; rotate_left 3; exact rfl; exact rfl; rotate_right 3; kernel_rfl; kernel_rfl; kernel_rfl)) <;> ((apply A.skipG 13; exact rfl; exact rfl; rotate_left 3; exact rfl; exact rfl; rotate_right 3; kernel_rfl; kernel_rfl; kernel_rfl)) <;> ((apply A.skipG 14; exact rfl; exact rfl; rotate_left 3; exact rfl; exact rfl; rotate_right 3; kernel_rfl; kernel_rfl; kernel_rfl)) <;> ((apply A.skipG 15; exact rfl; exact rfl; rotate_left 3; exact rfl; exact rfl; rotate_right 3; kernel_rfl; kernel_rfl; kernel_rfl)) <;> ((apply A.skipG 16; exact rfl; exact rfl; rotate_left 3; exact rfl; exact rfl; rotate_right 3; kernel_rfl; kernel_rfl; kernel_rfl)) <;> ((apply A.skipG 17; exact rfl; exact rfl; rotate_left 3; exact rfl; exact rfl; rotate_right 3; kernel_rfl; kernel_rfl; kernel_rfl)) <;> (apply A.one 18; kernel_rfl; exact rfl; (((apply R.isG; (apply R.guard_not; (iterate 3 exact rfl))))); apply R.nil; refine ⟨?_, ?_⟩; (focus ((repeat' (first | exact trivial | (refine ⟨?_, ?_⟩; (focus ((repeat' (first | exact At.head | apply At.tail)); done)))))))) <;> ((apply A.skipG 19; exact rfl; exact rfl; rotate_left 3; exact rfl; exact rfl; rotate_right 3; kernel_rfl; kernel_rfl; kernel_rfl)) <;> (apply A.take 20; exact rfl; exact rfl; kernel_rfl; kernel_rfl; kernel_rfl; (apply Ok1.pick_t; exact rfl; exact rfl)) <;> (apply A.done; kernel_rfl))) | apply T.seq | apply T.region | apply T.block | apply T.skip | apply T.ret | (apply T.cond_t; exact rfl)))
        (apply RetOk.t; exact rfl)
        rw [hn]
    · have hi4 : i = 4 := by omega
      subst hi4
      rw [List.take_of_length_le (by omega), List.take_of_length_le (by omega)] at hpre
      rw [decide_eq_true hpre]
      repeat' (first | (apply R.is1; first | (apply R.isBin; (apply R.pure; exact rfl; (apply Ok1.lss_f; exact rfl; exact rfl; omega))) | (apply R.pure; exact rfl; first | (apply Ok1.move; exact rfl) | (apply Ok1.assign; exact rfl))) | apply R.nil | (apply T.is; first | apply T.seq | apply T.region | apply T.exit | apply T.ret | (apply T.cond_f; exact rfl)))
      (apply RetOk.t; exact rfl)
      rfl
end Go.Proofs.Ytligpachgcmkcaa
/- Contracts of delta: an answer within room. -/
set_option linter.unusedSimpArgs false
set_option linter.unusedVariables false
namespace Go.Proofs.Ytligpachgcmkcaa
open Go.RowKit Go.Shelf
set_option maxRecDepth 100000

/-- Serials log by log, as long as there is room. -/
def cutD : Nat → List (Int × List Int) → List (Int × List Int)
  | _, [] => []
  | n, x :: r => (x.1, x.2.take n) :: cutD (n - x.2.length) r
def minV (ls : List (List Int)) (vs : List Int) : List Int := (ls.zip vs).map fun x => min x.2 x.1.length
def ovr (room : Int) (d : Dl) : Int := (max (16 + 2 * (cntL (pur d) : Int) - room) 0 + 1) / 2
def cutN (room : Int) (d : Dl) (x : Pi) : Nat := (max ((x.xs.length : Int) - ovr room d) 0).toNat
def cutP (n : Nat) (x : Pi) : Pi := ⟨x.p, n, x.xs.take n⟩
def cutAt (room : Int) (k : Nat) (d : Dl) : Dl := match d[k]? with
  | some x => d.set k (x.1, cutP (cutN room d x.2) x.2)
  | none => d
theorem cutAt_len (room : Int) (k : Nat) (d : Dl) : (cutAt room k d).length = d.length := by
  unfold cutAt; split <;> simp
theorem cutN_le (room : Int) (d : Dl) (x : Pi) : cutN room d x ≤ x.xs.length := by
  unfold cutN ovr
  omega
theorem cutAt_mem {room : Int} {k : Nat} {d : Dl} {y : Int × Pi} (h : y ∈ cutAt room k d) : y ∈ d ∨ ∃ x n, x ∈ d ∧ n ≤ x.2.xs.length ∧ y = (x.1, cutP n x.2) := by
  unfold cutAt at h
  split at h
  · rename_i x hx
    rcases List.mem_or_eq_of_mem_set h with h1 | h1
    · exact .inl h1
    · exact .inr ⟨x, _, List.mem_of_getElem? hx, cutN_le _ _ _, h1⟩
  · exact .inl h
theorem DlO.cut {d : Dl} {L : Lst} (h : DlO d L) (room : Int) (k : Nat) : DlO (cutAt room k d) L := by
  refine ⟨fun y hy => ?_, fun y hy hne => ?_, fun w0 w S L' hw hin y hy => ?_⟩
  · rcases cutAt_mem hy with h1 | ⟨x, n, hx, hn, rfl⟩
    · exact h.cap y h1
    · simp only [cutP, List.length_take]; omega
  · rcases cutAt_mem hy with h1 | ⟨x, n, hx, hn, rfl⟩
    · exact h.adr y h1 hne
    · refine h.adr x hx ?_
      rintro h0
      apply hne
      simp [cutP, h0]
  · rcases cutAt_mem hy with h1 | ⟨x, n, hx, hn, rfl⟩
    · exact h.rd w0 w S L' hw hin y h1
    · exact (h.rd w0 w S L' hw hin x hx).pre iV_len n
def cutF (room : Int) (d : Dl) : Nat → Dl
  | 0 => d
  | k + 1 => cutAt room (3 - k) (cutF room d k)
theorem cutF_len (room : Int) (d : Dl) (k : Nat) : (cutF room d k).length = d.length := by
  induction k with
  | zero => rfl
  | succ k ih => rw [cutF, cutAt_len, ih]
theorem DlO.cutF {d : Dl} {L : Lst} (h : DlO d L) (room : Int) (k : Nat) : DlO (cutF room d k) L := by
  induction k with
  | zero => exact h
  | succ k ih => exact ih.cut room _
theorem cutF_le (room : Int) (d : Dl) (m : Nat) (h : ∀ x ∈ d, x.2.xs.length ≤ m) (k : Nat) : ∀ x ∈ cutF room d k, x.2.xs.length ≤ m := by
  induction k with
  | zero => exact h
  | succ k ih =>
    intro y hy
    rcases cutAt_mem hy with h1 | ⟨x, n, hx, hn, rfl⟩
    · exact ih y h1
    · have := ih x hx
      simp only [cutP, List.length_take]; omega
theorem take_eq {α : Type} {l : List α} {m n : Nat} (h : min m l.length = min n l.length) : l.take m = l.take n := by
  rcases Nat.le_total m l.length with h1 | h1
  · rcases Nat.le_total n l.length with h2 | h2
    · rw [Nat.min_eq_left h1, Nat.min_eq_left h2] at h; rw [h]
    · rw [Nat.min_eq_left h1, Nat.min_eq_right h2] at h; rw [List.take_of_length_le h2, h, List.take_length]
  · rcases Nat.le_total n l.length with h2 | h2
    · rw [Nat.min_eq_right h1, Nat.min_eq_left h2] at h; rw [List.take_of_length_le h1, ← h, List.take_length]
    · rw [List.take_of_length_le h1, List.take_of_length_le h2]
theorem cutF_all (room : Int) (hr : 16 ≤ room) (d : Dl) (hd : d.length = 4) : pur (cutF room d 4) = cutD ((room - 16) / 2).toNat (pur d) := by
  match d, hd with
  | [(a0, x0), (a1, x1), (a2, x2), (a3, x3)], _ =>
    obtain ⟨m, hm⟩ : ∃ m : Nat, (room - 16) / 2 = m := ⟨((room - 16) / 2).toNat, by omega⟩
    rw [hm, Int.toNat_natCast]
    have e1 : cutF room [(a0, x0), (a1, x1), (a2, x2), (a3, x3)] 1 = [(a0, x0), (a1, x1), (a2, x2), (a3, cutP (cutN room [(a0, x0), (a1, x1), (a2, x2), (a3, x3)] x3) x3)] := rfl
    have n3 : cutN room [(a0, x0), (a1, x1), (a2, x2), (a3, x3)] x3 = min x3.xs.length (m - x0.xs.length - x1.xs.length - x2.xs.length) := by
      simp only [cutN, ovr, cntL, pur, List.map_cons, List.map_nil, List.sum_cons, List.sum_nil]
      omega
    rw [n3] at e1
    generalize hy3 : cutP (min x3.xs.length (m - x0.xs.length - x1.xs.length - x2.xs.length)) x3 = y3 at *
    have l3 : y3.xs.length = min x3.xs.length (m - x0.xs.length - x1.xs.length - x2.xs.length) := by rw [← hy3]; simp only [cutP, List.length_take]; omega
    have t3 : y3.xs = x3.xs.take (m - x0.xs.length - x1.xs.length - x2.xs.length) := by rw [← hy3]; exact take_eq (by omega)
    have e2 : cutF room [(a0, x0), (a1, x1), (a2, x2), (a3, x3)] 2 = [(a0, x0), (a1, x1), (a2, cutP (cutN room [(a0, x0), (a1, x1), (a2, x2), (a3, y3)] x2) x2), (a3, y3)] := by rw [cutF, e1]; rfl
    have n2 : cutN room [(a0, x0), (a1, x1), (a2, x2), (a3, y3)] x2 = min x2.xs.length (m - x0.xs.length - x1.xs.length) := by
      simp only [cutN, ovr, cntL, pur, List.map_cons, List.map_nil, List.sum_cons, List.sum_nil, l3]
      omega
    rw [n2] at e2
    generalize hy2 : cutP (min x2.xs.length (m - x0.xs.length - x1.xs.length)) x2 = y2 at *
    have l2 : y2.xs.length = min x2.xs.length (m - x0.xs.length - x1.xs.length) := by rw [← hy2]; simp only [cutP, List.length_take]; omega
    have t2 : y2.xs = x2.xs.take (m - x0.xs.length - x1.xs.length) := by rw [← hy2]; exact take_eq (by omega)
    have e3 : cutF room [(a0, x0), (a1, x1), (a2, x2), (a3, x3)] 3 = [(a0, x0), (a1, cutP (cutN room [(a0, x0), (a1, x1), (a2, y2), (a3, y3)] x1) x1), (a2, y2), (a3, y3)] := by rw [cutF, e2]; rfl
    have n1 : cutN room [(a0, x0), (a1, x1), (a2, y2), (a3, y3)] x1 = min x1.xs.length (m - x0.xs.length) := by
      simp only [cutN, ovr, cntL, pur, List.map_cons, List.map_nil, List.sum_cons, List.sum_nil, l3, l2]
      omega
    rw [n1] at e3
    generalize hy1 : cutP (min x1.xs.length (m - x0.xs.length)) x1 = y1 at *
    have l1 : y1.xs.length = min x1.xs.length (m - x0.xs.length) := by rw [← hy1]; simp only [cutP, List.length_take]; omega
    have t1 : y1.xs = x1.xs.take (m - x0.xs.length) := by rw [← hy1]; exact take_eq (by omega)
    have e4 : cutF room [(a0, x0), (a1, x1), (a2, x2), (a3, x3)] 4 = [(a0, cutP (cutN room [(a0, x0), (a1, y1), (a2, y2), (a3, y3)] x0) x0), (a1, y1), (a2, y2), (a3, y3)] := by rw [cutF, e3]; rfl
    have n0 : cutN room [(a0, x0), (a1, y1), (a2, y2), (a3, y3)] x0 = min x0.xs.length m := by
      simp only [cutN, ovr, cntL, pur, List.map_cons, List.map_nil, List.sum_cons, List.sum_nil, l3, l2, l1]
      omega
    rw [e4, n0]
    simp only [pur, List.map_cons, List.map_nil, cutD, t1, t2, t3, cutP]
    rw [take_eq (l := x0.xs) (m := min x0.xs.length m) (n := m) (by omega)]
theorem dl_setlog {d : Dl} (hd : d.length = 4) {k : Nat} {x : Int × Pi} (hx : d[k]? = some x) (y : Pi) : setE (dlV d) (4 + k * 1) [.slice y.p y.xs.length y.cap] = some (dlV (d.set k (x.1, y))) := by
  have hk : k < 4 := by rw [← hd]; exact (List.getElem?_eq_some_iff.1 hx).1
  rw [setE_one (by rw [show (dlV d).length = 8 by simp [dlV, fl_pi, iis_len, hd]]; omega)]
  congr 1
  match d, hd, k, hk, hx with
  | [_, _, _, _], _, 0, _, rfl => rfl
  | [_, _, _, _], _, 1, _, rfl => rfl
  | [_, _, _, _], _, 2, _, rfl => rfl
  | [_, _, _, _], _, 3, _, rfl => rfl
theorem backward_ok (p : Option Addr) (n c : Nat) (w : World) : CallM Try.prog 76 [.slice p n c] [] w fun v L => ∃ cb, v = .func (.func 100) #[] #[.pointer (some ⟨cb, 0, none⟩)] ∧ L = [(cb, .cells ⟨[.slice p n c]⟩ 144 (0, 0))] := by
  refine enterK (tb := tb) Try.func76 rfl Try.ntmps76 rfl ?_
  repeat' (first | (apply R.is1; first | (apply R.pure; exact rfl; first | (apply Ok1.assign; exact rfl) | (apply Ok1.makeFunc; exact rfl; exact rfl)) | (apply R.box; (iterate 3 exact rfl); intro)) | apply R.nil | (apply T.is; first | apply T.seq | apply T.region | apply T.ret))
  (apply RetOk.t; exact rfl)
  exact ⟨_, by (focus ((repeat' (first | exact Keep.nil _ | exact Ext.one _ _ | apply Keep.cons)); done)), _, rfl, rfl⟩
/-- The blocks of the answer's loop: the delta, the room. -/
def AnL (b5 b10 : Nat) (room : Int) (d : Dl) : Lst := [(b10, .cells ⟨dlV d⟩ 41 (0, 0)), (b5, .cells ⟨[.int .i64 room]⟩ 3 (0, 0))]
theorem backward1_ok (b5 b10 : Nat) (room : Int) (F : Nat → Dl) (hF : ∀ k, (F k).length = 4) (l : Nat) (o : Obj) (cb : Nat)
    (hY : ∀ k x w, k < 4 → (F k)[3 - k]? = some x → YieldM Try.prog l [.int .i64 (3 - k), .slice x.2.p x.2.xs.length x.2.cap] ((l, o) :: AnL b5 b10 room (F k)) w fun v L => v = .bool true ∧ ∃ L5, L5 = AnL b5 b10 room (F (k + 1)) ∧ L = (l, o) :: L5) (w : World) :
    CallM Try.prog 100 [.func (.yield l) #[] #[], .pointer (some ⟨cb, 0, none⟩)] ((l, o) :: (cb, .cells ⟨[.slice (some ⟨b10, 4, none⟩) 4 4]⟩ 144 (0, 0)) :: AnL b5 b10 room (F 0)) w fun v L => L = (l, o) :: (cb, .cells ⟨[.slice (some ⟨b10, 4, none⟩) 4 4]⟩ 144 (0, 0)) :: AnL b5 b10 room (F 4) := by
  refine enterK (tb := tb) Try.func100 rfl Try.ntmps100 rfl ?_
  repeat' (first | (apply R.is1; first | (apply R.isBin; (apply R.pure; exact rfl; (apply Ok1.sub64; exact rfl; exact rfl; omega; omega))) | (apply R.isCall; (apply R.pure; exact rfl; (apply Ok1.lenS; (iterate 3 exact rfl)))) | (apply R.pure; exact rfl; first | (apply Ok1.load; exact rfl; (apply Ld.own1; exact rfl; exact rfl; (focus ((repeat' (first | exact At.head | apply At.tail)); done)); exact rfl)) | (apply Ok1.assign; exact rfl))) | apply R.nil | (apply T.is; first | apply T.seq | apply T.region | apply T.block))
  apply T.loopK (α := Nat) (I := fun k => k ≤ 4) (σi := fun k => [(0, .func (.yield l) #[] #[]), (1, .pointer (some ⟨cb, 0, none⟩)), (3, .int .i64 (3 - k))])
    (Li := fun k => (l, o) :: (cb, .cells ⟨[.slice (some ⟨b10, 4, none⟩) 4 4]⟩ 144 (0, 0)) :: AnL b5 b10 room (F k)) (μ := fun k => 4 - k) (i0 := 0)
  · exact Nat.zero_le _
  · exact ⟨rfl, rfl, rfl, trivial⟩
  · (focus ((repeat' (first | exact Keep.nil _ | exact Ext.one _ _ | apply Keep.cons)); done))
  · intro k hk
    rcases Nat.lt_or_ge k 4 with hlt | hge
    · obtain ⟨x, hx⟩ : ∃ x, (F k)[3 - k]? = some x := ⟨_, List.getElem?_eq_getElem (by rw [hF]; omega)⟩
      have hlog := dl_log (hF k) hx
      have hyy := hY k x
      have h3 : ((3 - k : Nat) : Int) = 3 - (k : Int) := by omega
      simp only [AnL] at hyy ⊢
      generalize dlV (F k) = D at *
      repeat' (first | (apply RI.yield; (iterate 3 exact rfl); (focus (exact Ext.two _ (Ext.one _ _) (Ext.cons _ (Ext.all _)))); intro w1 hw1; exact hyy w1 hlt hx; rintro v Lo ⟨rfl, L5, rfl, rfl⟩) | (apply R.is1; first | (apply R.isBin; (apply R.pure; exact rfl; first | (apply Ok1.sub64; exact rfl; exact rfl; omega; omega) | (apply Ok1.geq_t; exact rfl; exact rfl; omega))) | (apply R.pure; exact rfl; first | (apply Ok1.load; exact rfl; apply Ld.own1; exact rfl; exact rfl; (focus ((repeat' (first | exact At.head | apply At.tail)); done)); rw [show (3 - (k : Int)).toNat = 3 - k by omega]; exact hlog) | (apply Ok1.move; exact rfl) | (apply Ok1.load; exact rfl; (apply Ld.own1; exact rfl; exact rfl; (focus ((repeat' (first | exact At.head | apply At.tail)); done)); exact rfl)) | (apply Ok1.assign; exact rfl) | (apply Ok1.indexAddr; (iterate 5 exact rfl); omega; omega) | (apply Ok1.not_t; exact rfl))) | apply R.nil | (apply T.is; first | apply T.regionIn (id := 3) | apply T.seq | apply T.region | apply T.block | apply T.skip | (apply T.cond_t; exact rfl) | (apply T.cond_f; exact rfl)) | (apply RI.step; exact rfl) | apply RI.nil)
      have h4 : (3 : Int) - k - 1 = 3 - ((k + 1 : Nat) : Int) := by omega
      exact ⟨k + 1, by omega, by omega, ⟨rfl, rfl, by rw [← h4]; rfl, trivial⟩, by (focus ((repeat' (first | exact Keep.nil _ | exact Ext.one _ _ | apply Keep.cons | apply Ext.cons)); done))⟩
    · have hk4 : k = 4 := by omega
      subst hk4
      repeat' (first | (apply R.is1; first | (apply R.isBin; (apply R.pure; exact rfl; (apply Ok1.geq_f; exact rfl; exact rfl; omega))) | (apply R.pure; exact rfl; (apply Ok1.move; exact rfl))) | apply R.nil | (apply T.is; first | apply T.seq | apply T.region | apply T.exit | (apply T.cond_f; exact rfl)))
      (apply RetOk.n)
      exact ⟨_, by (focus ((repeat' (first | exact Keep.nil _ | exact Ext.one _ _ | apply Keep.cons)); done)), rfl⟩
section
variable {X : Cx} {σ : Env} {L : Lst} {d : Option Nat} {ty : TypeId} {pos : String} {af : Array Edge} {g : Option (Nat × Bool)} {x y : Operand} {k : IntKind} {i j m : Int} {ats : Array TypeId}
theorem Ok1.max2E (hx : ev σ x = some (.int k i)) (hy : ev σ y = some (.int k j)) (hm : max i j = m) : Ok1 X ⟨d, .call { callee := .builtin .max, args := #[x, y], argTypes := ats }, ty, pos, af, g⟩ σ L (.int k m) := hm ▸ Ok1.max2 hx hy
theorem Ok1.min2E (hx : ev σ x = some (.int k i)) (hy : ev σ y = some (.int k j)) (hm : min i j = m) : Ok1 X ⟨d, .call { callee := .builtin .min, args := #[x, y], argTypes := ats }, ty, pos, af, g⟩ σ L (.int k m) := hm ▸ Ok1.min2 hx hy
end
theorem pur_len9 {d : Dl} {e : List (Int × List Int)} (h : pur d = e) : d.length = e.length := by rw [← h, pur, List.length_map]
theorem cnt_le {d : Dl} (hd : d.length = 4) (h : ∀ x ∈ d, x.2.xs.length ≤ 256) : cntL (pur d) ≤ 1024 := by
  match d, hd with
  | [(a0, x0), (a1, x1), (a2, x2), (a3, x3)], _ =>
    have h0 := h _ (.head _)
    have h1 := h _ (.tail _ (.head _))
    have h2 := h _ (.tail _ (.tail _ (.head _)))
    have h3 := h _ (.tail _ (.tail _ (.tail _ (.head _))))
    simp only at h0 h1 h2 h3
    simp only [cntL, pur, List.map_cons, List.map_nil, List.sum_cons, List.sum_nil]
    omega
theorem answer_bad (bs : Nat) (vs : List Int) (hv : vs.length = 4) (room : Int) (h : ¬ VR vs ∨ room < 16) : CallP Try.prog 45 [.pointer (some ⟨bs, 0, none⟩), .agg ⟨iis vs⟩, .int .i64 room] (.tuple #[.agg ⟨noD⟩, .int .i64 (if VR vs then 2 else 10)]) := by
  have hr := vright_ok vs hv
  have hil : (iis vs).length = 4 := by rw [iis_len, hv]
  refine enterP (tb := tb) Try.func45 rfl Try.ntmps45 rfl fun w => ?_
  by_cases hV : VR vs
  · rw [if_pos hV]
    rw [decide_eq_true hV] at hr
    have hlt : room < 16 := h.resolve_left (fun h => h hV)
    repeat' (first | (apply R.is1; first | (apply R.isBin; (apply R.pure; exact rfl; first | (apply Ok1.lss_t; exact rfl; exact rfl; omega) | (apply Ok1.eqlP; (iterate 5 exact rfl)))) | (apply R.isCall; apply R.callP rfl rfl rfl hr) | (apply R.pure; exact rfl; first | (apply Ok1.load; exact rfl; (apply Ld.ownk; exact rfl; exact rfl; (focus ((repeat' (first | exact At.head | apply At.tail)); done)); exact subE_all hil)) | (apply Ok1.move; exact rfl) | (apply Ok1.load; exact rfl; (apply Ld.own1; exact rfl; exact rfl; (focus ((repeat' (first | exact At.head | apply At.tail)); done)); exact rfl)) | (apply Ok1.assign; exact rfl) | (apply Ok1.build; (iterate 5 exact rfl)) | (apply Ok1.not_t; exact rfl)) | (apply R.box; (iterate 3 exact rfl); intro) | (apply R.alloc; (iterate 3 exact rfl); intro)) | (apply R.is0; (apply R.store; (iterate 6 exact rfl); exact Upd.head; exact rfl)) | apply R.nil | (apply T.is; first | apply T.seq | apply T.region | apply T.block | apply T.ret | (apply T.cond_t; exact rfl) | (apply T.cond_f; exact rfl)))
    (apply RetOk.ct; exact rfl; ((apply Ld.ownk; exact rfl; exact rfl; exact At.head; exact rfl)); exact rfl)
    rfl
  · rw [if_neg hV]
    rw [decide_eq_false hV] at hr
    repeat' (first | (apply R.is1; first | (apply R.isBin; (apply R.pure; exact rfl; (apply Ok1.eqlP; (iterate 5 exact rfl)))) | (apply R.isCall; apply R.callP rfl rfl rfl hr) | (apply R.pure; exact rfl; first | (apply Ok1.load; exact rfl; (apply Ld.ownk; exact rfl; exact rfl; (focus ((repeat' (first | exact At.head | apply At.tail)); done)); exact subE_all hil)) | (apply Ok1.move; exact rfl) | (apply Ok1.assign; exact rfl) | (apply Ok1.build; (iterate 5 exact rfl)) | (apply Ok1.not_f; exact rfl)) | (apply R.box; (iterate 3 exact rfl); intro) | (apply R.alloc; (iterate 3 exact rfl); intro)) | (apply R.is0; (apply R.store; (iterate 6 exact rfl); exact Upd.head; exact rfl)) | apply R.nil | (apply T.is; first | apply T.seq | apply T.region | apply T.block | apply T.ret | (apply T.cond_t; exact rfl) | (apply T.cond_f; exact rfl)))
    (apply RetOk.ct; exact rfl; ((apply Ld.ownk; exact rfl; exact rfl; exact At.head; exact rfl)); exact rfl)
    rfl
theorem min4 (ls : List (List Int)) (v0 v1 v2 v3 : Int) (l0 l1 l2 l3 : List Int) (h : ls = [l0, l1, l2, l3]) : minV ls [v0, v1, v2, v3] = [min v0 l0.length, min v1 l1.length, min v2 l2.length, min v3 l3.length] := by rw [h]; rfl
theorem minV_ok {ls : List (List Int)} {vs : List Int} (h : VR vs) : VOk ls (minV ls vs) := by
  intro x hx
  obtain ⟨i, hi⟩ := List.getElem?_of_mem hx
  rw [List.getElem?_zip_eq_some] at hi
  obtain ⟨h1, h2⟩ := hi
  rw [minV, List.getElem?_map] at h2
  cases hz : (ls.zip vs)[i]? with
  | none => rw [hz] at h2; cases h2
  | some z =>
    rw [hz] at h2
    rw [List.getElem?_zip_eq_some] at hz
    have e1 : x.1 = z.1 := Option.some.inj (h1.symm.trans hz.1)
    have h3 := h z.2 (List.mem_of_getElem? hz.2)
    have h4 := Option.some.inj h2
    rw [e1, ← h4]
    simp only
    omega
theorem minV_len {ls : List (List Int)} {vs : List Int} (h1 : ls.length = 4) (h2 : vs.length = 4) : (minV ls vs).length = 4 := by simp [minV, h1, h2]
theorem answer_ok (bs : Nat) (gs : List Lg) (hg : GOk gs) (v0 v1 v2 v3 : Int) (hV : VR [v0, v1, v2, v3]) (room : Int) (hr16 : 16 ≤ room) (hr63 : room ≤ 9223372036854775807) (w : World) (hs : SetR w bs gs) :
    CallM Try.prog 45 [.pointer (some ⟨bs, 0, none⟩), .agg ⟨iis [v0, v1, v2, v3]⟩, .int .i64 room] [] w fun v L => ∃ d, d.length = 4 ∧ v = .tuple #[.agg ⟨dlV d⟩, .int .i64 0] ∧ pur d = cutD ((room - 16) / 2).toNat (sinD (lgs gs) (minV (lgs gs) [v0, v1, v2, v3])) ∧ DlO d L := by
  have hr := vright_ok [v0, v1, v2, v3] rfl
  rw [decide_eq_true hV] at hr
  have hve := fun w1 (hc : Chg [] w w1) => versions_ok bs gs hg w1 (hs.chg hc)
  obtain ⟨g0, g1, g2, g3, rfl⟩ : ∃ g0 g1 g2 g3, gs = [g0, g1, g2, g3] := by
    match gs, hg.len with
    | [a, b, c, d], _ => exact ⟨a, b, c, d, rfl⟩
  have hm4 := min4 (lgs [g0, g1, g2, g3]) v0 v1 v2 v3 g0.xs g1.xs g2.xs g3.xs rfl
  have hmo := minV_ok (ls := lgs [g0, g1, g2, g3]) hV
  have hml := minV_len (ls := lgs [g0, g1, g2, g3]) (vs := [v0, v1, v2, v3]) rfl rfl
  have hsi := fun w1 (hc : Chg [] w w1) => since_ok bs _ hg _ hml w1 (hs.chg hc)
  simp only [if_pos hmo, hmo, not_true_eq_false, true_and, false_and, or_false] at hsi
  have hsl : ∀ d : Dl, pur d = sinD (lgs [g0, g1, g2, g3]) (minV (lgs [g0, g1, g2, g3]) [v0, v1, v2, v3]) → d.length = 4 ∧ ∀ x ∈ d, x.2.xs.length ≤ 256 := fun d h => by
    refine ⟨by rw [pur_len9 h, sinD, List.length_map, List.length_zip, hml]; rfl, fun x hx => ?_⟩
    have h9 : (x.1, x.2.xs) ∈ pur d := List.mem_map.2 ⟨x, hx, rfl⟩
    rw [h, sinD] at h9
    obtain ⟨z, hz, he⟩ := List.mem_map.1 h9
    have h8 := (List.of_mem_zip hz).1
    rw [lgs] at h8
    obtain ⟨g, hgm, hge⟩ := List.mem_map.1 h8
    have h7 := hg.le g hgm
    have h6 : x.2.xs = z.1.drop z.2.toNat := (congrArg Prod.snd he).symm
    rw [h6, List.length_drop, ← hge]
    omega
  generalize hsd : sinD (lgs [g0, g1, g2, g3]) (minV (lgs [g0, g1, g2, g3]) [v0, v1, v2, v3]) = SD at *
  rw [hm4] at hsi
  refine enterF (tb := tb) Try.func45 rfl Try.ntmps45 rfl ?_
  have hbk := fun p n c w1 => backward_ok p n c w1
  repeat' (first | (apply TF.range2 (gf := 100); exact rfl; exact rfl) | apply TF.seq | (apply R.is1; first | (apply R.isBin; (apply R.pure; exact rfl; first | (apply Ok1.add64; exact rfl; exact rfl; omega; omega) | (apply Ok1.lss_t; exact rfl; exact rfl; omega) | (apply Ok1.lss_f; exact rfl; exact rfl; omega) | (apply Ok1.neq_f; exact rfl; exact rfl; omega) | (apply Ok1.eqlP; (iterate 5 exact rfl)))) | (apply R.isCall; first | apply R.callP rfl rfl rfl hr | (apply R.callV (vs := [.pointer (some ⟨bs, 0, none⟩)]); (iterate 3 exact rfl); intro w1 hw1; exact hve w1 hw1.chg) | (apply R.callE (vs := [.pointer (some ⟨bs, 0, none⟩), .agg ⟨[.int .i64 (min v0 g0.xs.length), .int .i64 (min v1 g1.xs.length), .int .i64 (min v2 g2.xs.length), .int .i64 (min v3 g3.xs.length)]⟩]); (iterate 3 exact rfl); exact Ext.none _; intro w1 hw1; exact hsi w1 hw1.chg; rintro v M ⟨d, rfl, hpd, hdo⟩; obtain ⟨hd4, hd256⟩ := hsl d hpd; have hd8 := dl_len8r hd4; have hd1 := dl_oner d) | (apply R.callE (vs := [.slice (some ⟨_, 4, none⟩) 4 4]); (iterate 3 exact rfl); exact Ext.none _; intro w1 hw1; exact hbk _ _ _ w1; rintro v Lo ⟨cb, rfl, rfl⟩) | (apply R.pure; exact rfl; (apply Ok1.min2; exact rfl; exact rfl))) | (apply R.pure; exact rfl; first | (apply Ok1.sliceArr; (iterate 4 exact rfl)) | (apply Ok1.move; exact rfl) | (apply Ok1.fieldAddr; (iterate 5 exact rfl)) | (apply Ok1.load; exact rfl; first | (apply Ld.own1; exact rfl; exact rfl; (focus ((repeat' (first | exact At.head | apply At.tail)); done)); exact rfl) | (apply Ld.ownk; exact rfl; exact rfl; (focus ((repeat' (first | exact At.head | apply At.tail)); done)); exact rfl)) | (apply Ok1.assign; exact rfl) | (apply Ok1.indexAddrA; (iterate 5 exact rfl); omega; omega) | (apply Ok1.extract; exact rfl; exact rfl) | (apply Ok1.not_t; exact rfl) | (apply Ok1.index1; (iterate 6 exact rfl); omega; omega; exact rfl)) | (apply R.box; (iterate 3 exact rfl); intro) | (apply R.alloc; (iterate 3 exact rfl); intro)) | (apply R.is0; first | (apply R.store; (iterate 4 exact rfl); exact hd8; exact hd1; exact Upd.head; exact setE_all (by rw [hd8]; rfl)) | (apply R.store; (iterate 6 exact rfl); (focus ((repeat' (first | exact Upd.head | apply Upd.tail)); done)); exact rfl)) | apply R.nil | (apply T.is; first | apply T.rounds 5 | apply T.seq | apply T.region | apply T.block | apply T.skip | apply T.exit | (apply T.cond_t; exact rfl) | (apply T.cond_f; exact rfl)))
  rename_i b4 b5 b6 b10
  clear hbk hsi hve hr
  have hFl : ∀ k, (cutF room d k).length = 4 := fun k => (cutF_len room d k).trans hd4
  have hFle := cutF_le room d 256 hd256
  refine ⟨⟨[.pointer (some ⟨cb, 0, none⟩)], (cb, .cells ⟨[.slice (some ⟨b10, 4, none⟩) 4 4]⟩ 144 (0, 0)) :: AnL b5 b10 room (cutF room d 0), (b6, .cells ⟨noD⟩ 41 (0, 0)) :: M, fun Lb => Lb = (cb, .cells ⟨[.slice (some ⟨b10, 4, none⟩) 4 4]⟩ 144 (0, 0)) :: AnL b5 b10 room (cutF room d 4), ?_, rfl, ?_, ?_⟩⟩
  · simp only [AnL, cutF, noD]
    (focus ((repeat' (first | exact Ext.one _ _ | exact Ext.here _ _ | apply Keep.cons | apply Keep.last | apply Ext.cons | apply Ext.app)); done))
  · intro l rec w1 hok _
    refine (backward1_ok b5 b10 room (cutF room d) hFl l _ cb ?_ w1).wk (fun v L h => ⟨_, rfl, h⟩)
    intro k x w2 hk hx
    apply YieldM.of2 (tb := tb) hok.mod hok.params (blt_lt rfl) (blt_lt rfl) hok.state hok.pending
    rw [hok.assign, hok.body]
    repeat' (first | apply TI.seq | (apply TI.region; exact rfl) | (apply R.is1; (apply R.pure; exact rfl; (apply Ok1.assign; exact rfl))) | apply R.nil)
    refine ⟨AnL b5 b10 room (cutF room d k), by simp only [AnL]; (focus ((repeat' (first | exact Keep.nil _ | exact Ext.one _ _ | apply Keep.cons)); done)), ?_⟩
    have hsz := dsize_ok (cutF room d k) (hFl k) (fun y hy => by have := hFle k y hy; omega)
    have hcn := cutN_le room (cutF room d k) x.2
    have hx256 := hFle k x (List.mem_of_getElem? hx)
    have hcap := (hdo.cutF room k).cap x (List.mem_of_getElem? hx)
    have hct : cntL (pur (cutF room d k)) ≤ 1024 := cnt_le (hFl k) (hFle k)
    have hnx : cutF room d (k + 1) = (cutF room d k).set (3 - k) (x.1, cutP (cutN room (cutF room d k) x.2) x.2) := by rw [cutF, cutAt, hx]
    have hst := dl_setlog (hFl k) hx (cutP (cutN room (cutF room d k) x.2) x.2)
    rw [← hnx] at hst
    have hov : (max (16 + 2 * (cntL (pur (cutF room d k)) : Int) - room) 0 + 1) / 2 = ovr room (cutF room d k) := rfl
    have hov0 : 0 ≤ ovr room (cutF room d k) ∧ ovr room (cutF room d k) ≤ 2000 := by rw [← hov]; omega
    have hmx : max ((x.2.xs.length : Int) - ovr room (cutF room d k)) 0 = (cutN room (cutF room d k) x.2 : Int) := by unfold cutN; omega
    have hl8 := dl_len8r (hFl k)
    have hcl : (cutP (cutN room (cutF room d k) x.2) x.2).xs.length = cutN room (cutF room d k) x.2 := by simp only [cutP, List.length_take]; omega
    rw [hcl] at hst
    simp only [cutP] at hst
    simp only [AnL]
    generalize dlV (cutF room d (k + 1)) = D2 at *
    generalize cutN room (cutF room d k) x.2 = n at *
    generalize ovr room (cutF room d k) = ov at *
    generalize cntL (pur (cutF room d k)) = c at *
    generalize dlV (cutF room d k) = D1 at *
    apply TI.block
    apply TI.seq
    apply TI.drawC (id := 18) [1,2] (by decide) rfl
    (apply A.take 0; exact rfl; exact rfl; kernel_rfl; kernel_rfl; kernel_rfl; (apply Ok1.load; exact rfl; (apply Ld.ownk; exact rfl; exact rfl; exact At.head; exact subE_all hl8)))
      <;> (apply A.take 2; exact rfl; exact rfl; kernel_rfl; kernel_rfl; kernel_rfl; (apply Ok1.load; exact rfl; (apply Ld.own1; exact rfl; exact rfl; (focus ((repeat' (first | exact At.head | apply At.tail)); done)); exact rfl)))
      <;> (apply A.one 1; kernel_rfl; exact rfl; ((apply R.callP rfl rfl rfl hsz)); apply R.nil; refine ⟨?_, ?_⟩; (focus ((repeat' (first | exact trivial | (refine ⟨?_, ?_⟩; (focus ((repeat' (first | exact At.head | apply At.tail)); done))))))))
      <;> (apply A.take 3; exact rfl; exact rfl; kernel_rfl; kernel_rfl; kernel_rfl; (apply Ok1.sub64; exact rfl; exact rfl; omega; omega))
      <;> (apply A.take 4; exact rfl; exact rfl; kernel_rfl; kernel_rfl; kernel_rfl; (apply Ok1.max2; exact rfl; exact rfl))
      <;> (apply A.take 5; exact rfl; exact rfl; kernel_rfl; kernel_rfl; kernel_rfl; (apply Ok1.add64; exact rfl; exact rfl; omega; omega))
      <;> (apply A.take 6; exact rfl; exact rfl; kernel_rfl; kernel_rfl; kernel_rfl; (apply Ok1.quo64; exact rfl; exact rfl; omega; omega; omega))
      <;> (apply A.take 7; exact rfl; exact rfl; kernel_rfl; kernel_rfl; kernel_rfl; (apply Ok1.assign; exact rfl))
      <;> (apply A.done; kernel_rfl)
    simp only [noQ]
    rw [hov]
    repeat' (first | apply TI.seq | (apply TI.region; exact rfl) | (apply R.is1; first | (apply R.isBin; (apply R.pure; exact rfl; (apply Ok1.sub64; exact rfl; exact rfl; omega; omega))) | (apply R.isCall; first | (apply R.pure; exact rfl; apply Ok1.max2E; exact rfl; exact rfl; exact hmx) | (apply R.pure; exact rfl; (apply Ok1.lenS; (iterate 3 exact rfl)))) | (apply R.pure; exact rfl; first | (apply Ok1.pre3 (j := n); (iterate 6 exact rfl); omega) | (apply Ok1.move; exact rfl) | (apply Ok1.fieldAddr; (iterate 5 exact rfl)) | (apply Ok1.assign; exact rfl) | (apply Ok1.indexAddrA; (iterate 5 exact rfl); omega; omega))) | (apply R.is0; (apply R.store; (iterate 6 exact rfl); (focus ((repeat' (first | exact Upd.head | apply Upd.tail)); done)); rw [show (3 - (k : Int)).toNat = 3 - k by omega]; exact hst)) | apply R.nil)
    exact ⟨_, by (focus ((repeat' (first | exact Keep.nil _ | exact Ext.one _ _ | apply Keep.cons)); done)), rfl⟩
  · rintro D Lb rfl
    have hl8 := dl_len8r (hFl 4)
    have h1c := dl_oner (cutF room d 4)
    simp only [AnL]
    repeat' (first | apply TD.seq | apply TD.region | apply TD.ret | (apply R.is1; (apply R.pure; exact rfl; first | (apply Ok1.load; exact rfl; (apply Ld.ownk; exact rfl; exact rfl; (focus ((repeat' (first | exact At.head | apply At.tail)); done)); exact subE_all hl8)) | (apply Ok1.assign; exact rfl))) | (apply R.is0; (apply R.store; (iterate 4 exact rfl); exact hl8; exact h1c; (focus ((repeat' (first | exact Upd.head | apply Upd.tail)); done)); exact setE_all (by rw [hl8]; rfl))) | apply R.nil)
    refine ⟨rfl, (b6, .cells ⟨dlV (cutF room d 4)⟩ 41 (0, 0)) :: M, by (focus ((repeat' (first | exact Ext.one _ _ | exact Ext.all _ | apply Keep.cons | apply Keep.last | apply Ext.cons)); done)), ?_⟩
    (apply RetOk.ct; exact rfl; (apply Ld.ownk; exact rfl; exact rfl; (focus ((repeat' (first | exact At.head | apply At.tail)); done)); exact subE_all hl8); exact rfl)
    refine ⟨cutF room d 4, hFl 4, rfl, ?_, (hdo.cutF room 4).mono fun z hz => List.mem_cons_of_mem _ hz⟩
    rw [cutF_all room hr16 d hd4, hpd]
end Go.Proofs.Ytligpachgcmkcaa
