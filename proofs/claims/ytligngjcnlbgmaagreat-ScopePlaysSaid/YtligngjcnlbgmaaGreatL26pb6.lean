/- Texts of the proof: Ss4, Rf6, Ss5, Lsz, Sq1, Sq2, Sq3, Sq4. -/
import Derived.Test.YtligngjcnlbgmaaGreatL26pb5
set_option linter.unusedSimpArgs false
set_option linter.unusedVariables false
namespace Go.Proofs.YtligngjcnlbgmaaGreat
open Go.RowKit Go.Shelf
set_option maxRecDepth 100000
theorem vright26_ok (o r v : Int) : CallP Tryz.prog 48 [.int .i64 o, .int .i64 r, .int .i64 v] (.bool (decide (HRt o r v))) := by
  refine enterP (tb := tb) Tryz.func48 rfl Tryz.ntmps48 rfl fun w => ?_
  by_cases h1 : 0 < o
  case neg =>
    rw [decide_eq_false (by unfold HRt; omega)]
    repeat' (first | (apply R.is1; first | (apply R.isBin; (apply R.pure; exact rfl; (apply Ok1.gtr_f; exact rfl; exact rfl; omega))) | (apply R.pure; exact rfl; first | (apply Ok1.move; exact rfl) | (apply Ok1.assign; exact rfl) | (apply Ok1.pick_f; exact rfl; exact rfl))) | (apply R.isG; (apply R.guard_not; (iterate 3 exact rfl))) | apply R.nil | (apply T.is; first | apply T.seq | apply T.region | apply T.ret))
    (apply RetOk.t; exact rfl)
    rfl
  by_cases h2 : o < 65536
  case neg =>
    rw [decide_eq_false (by unfold HRt; omega)]
    repeat' (first | (apply R.is1; first | (apply R.isBin; (apply R.pure; exact rfl; first | (apply Ok1.lss_f; exact rfl; exact rfl; omega) | (apply Ok1.gtr_t; exact rfl; exact rfl; omega))) | (apply R.pure; exact rfl; first | (apply Ok1.move; exact rfl) | (apply Ok1.assign; exact rfl) | (apply Ok1.pick_t; exact rfl; exact rfl) | (apply Ok1.pick_f; exact rfl; exact rfl))) | (apply R.isG; first | (apply R.guard_run; exact rfl; exact rfl) | (apply R.guard_not; (iterate 3 exact rfl))) | apply R.nil | (apply T.is; first | apply T.seq | apply T.region | apply T.ret))
    (apply RetOk.t; exact rfl)
    rfl
  by_cases h3 : 0 ≤ r
  case neg =>
    rw [decide_eq_false (by unfold HRt; omega)]
    repeat' (first | (apply R.is1; first | (apply R.isBin; (apply R.pure; exact rfl; first | (apply Ok1.lss_t; exact rfl; exact rfl; omega) | (apply Ok1.gtr_t; exact rfl; exact rfl; omega) | (apply Ok1.geq_f; exact rfl; exact rfl; omega))) | (apply R.pure; exact rfl; first | (apply Ok1.move; exact rfl) | (apply Ok1.assign; exact rfl) | (apply Ok1.pick_t; exact rfl; exact rfl) | (apply Ok1.pick_f; exact rfl; exact rfl))) | (apply R.isG; first | (apply R.guard_run; exact rfl; exact rfl) | (apply R.guard_not; (iterate 3 exact rfl))) | apply R.nil | (apply T.is; first | apply T.seq | apply T.region | apply T.ret))
    (apply RetOk.t; exact rfl)
    rfl
  by_cases h4 : r < 8
  case neg =>
    rw [decide_eq_false (by unfold HRt; omega)]
    repeat' (first | (apply R.is1; first | (apply R.isBin; (apply R.pure; exact rfl; first | (apply Ok1.lss_t; exact rfl; exact rfl; omega) | (apply Ok1.lss_f; exact rfl; exact rfl; omega) | (apply Ok1.gtr_t; exact rfl; exact rfl; omega) | (apply Ok1.geq_t; exact rfl; exact rfl; omega))) | (apply R.pure; exact rfl; first | (apply Ok1.move; exact rfl) | (apply Ok1.assign; exact rfl) | (apply Ok1.pick_t; exact rfl; exact rfl) | (apply Ok1.pick_f; exact rfl; exact rfl))) | (apply R.isG; first | (apply R.guard_run; exact rfl; exact rfl) | (apply R.guard_not; (iterate 3 exact rfl))) | apply R.nil | (apply T.is; first | apply T.seq | apply T.region | apply T.ret))
    (apply RetOk.t; exact rfl)
    rfl
  by_cases h5 : 0 < v
  case neg =>
    rw [decide_eq_false (by unfold HRt; omega)]
    repeat' (first | (apply R.is1; first | (apply R.isBin; (apply R.pure; exact rfl; first | (apply Ok1.lss_t; exact rfl; exact rfl; omega) | (apply Ok1.gtr_t; exact rfl; exact rfl; omega) | (apply Ok1.gtr_f; exact rfl; exact rfl; omega) | (apply Ok1.geq_t; exact rfl; exact rfl; omega))) | (apply R.pure; exact rfl; first | (apply Ok1.move; exact rfl) | (apply Ok1.assign; exact rfl) | (apply Ok1.pick_t; exact rfl; exact rfl) | (apply Ok1.pick_f; exact rfl; exact rfl))) | (apply R.isG; first | (apply R.guard_run; exact rfl; exact rfl) | (apply R.guard_not; (iterate 3 exact rfl))) | apply R.nil | (apply T.is; first | apply T.seq | apply T.region | apply T.ret))
    (apply RetOk.t; exact rfl)
    rfl
  by_cases h6 : v < 2147483648
  case neg =>
    rw [decide_eq_false (by unfold HRt; omega)]
    repeat' (first | (apply R.is1; first | (apply R.isBin; (apply R.pure; exact rfl; first | (apply Ok1.lss_t; exact rfl; exact rfl; omega) | (apply Ok1.lss_f; exact rfl; exact rfl; omega) | (apply Ok1.gtr_t; exact rfl; exact rfl; omega) | (apply Ok1.geq_t; exact rfl; exact rfl; omega))) | (apply R.pure; exact rfl; first | (apply Ok1.move; exact rfl) | (apply Ok1.assign; exact rfl) | (apply Ok1.pick_t; exact rfl; exact rfl))) | (apply R.isG; (apply R.guard_run; exact rfl; exact rfl)) | apply R.nil | (apply T.is; first | apply T.seq | apply T.region | apply T.ret))
    (apply RetOk.t; exact rfl)
    rfl
  rw [decide_eq_true (by unfold HRt; omega)]
  repeat' (first | (apply R.is1; first | (apply R.isBin; (apply R.pure; exact rfl; first | (apply Ok1.lss_t; exact rfl; exact rfl; omega) | (apply Ok1.gtr_t; exact rfl; exact rfl; omega) | (apply Ok1.geq_t; exact rfl; exact rfl; omega))) | (apply R.pure; exact rfl; first | (apply Ok1.move; exact rfl) | (apply Ok1.assign; exact rfl) | (apply Ok1.pick_t; exact rfl; exact rfl))) | (apply R.isG; (apply R.guard_run; exact rfl; exact rfl)) | apply R.nil | (apply T.is; first | apply T.seq | apply T.region | apply T.ret))
  (apply RetOk.t; exact rfl)
  rfl
theorem vhead_ok (o r v : Int) (h : HRt o r v) (w : World) : CallM Tryz.prog 49 [.int .i64 o, .int .i64 r, .int .i64 v] [] w fun x L => ∃ ov, OvOk 1 ov 7 (u8s (headI o r v)) ∧ x = slV ov 7 ∧ L = blkL 5 ov (u8s (headI o r v)) := by
  unfold HRt at h
  have h1 := vout_ok 1 (by decide) o (by omega) (by omega)
  have h2 := vout_ok 2 (by decide) v (by omega) (by omega)
  simp only [show 2 ^ 1 = 2 from rfl] at h1
  simp only [show 2 ^ 2 = 4 from rfl] at h2
  have hcl : u8s (headI o r v) = u8s (beI 2 o []) ++ [.int .u8 r] ++ u8s (beI 4 v []) := by
    rw [be4]
    have : r % 256 = r := by omega
    unfold headI numI
    simp only [this, u8s_app]
    rfl
  refine enterK (tb := tb) Tryz.func49 rfl Tryz.ntmps49 rfl ?_
  repeat' (first | (apply R.is1; first | (apply R.isCall; first | (apply R.callE (vs := [.agg ⟨[.int .i64 1, .int .i64 o, .slice none 0 0]⟩]); (iterate 3 exact rfl); exact Ext.none _; intro w1 hw1; exact h1 w1; rintro x Lo ⟨ov1, hov1, rfl, rfl⟩) | (apply R.callE (vs := [.agg ⟨[.int .i64 2, .int .i64 v, .slice none 0 0]⟩]); (iterate 3 exact rfl); exact Ext.none _; intro w1 hw1; exact h2 w1; rintro x Lo ⟨ov3, hov3, rfl, rfl⟩; rw [slV_eq hov3]) | ((apply R.append1; (iterate 12 exact rfl); (focus ((repeat' (first | exact OwnAt.mid hov1 | apply OwnAt.tail)); done)); exact At.head; exact rfl; exact rfl; omega; omega; intro b2 j2 k2 hj2); have hov2 := hov1.some (b := b2) (ys := [.int .u8 r]) (m := 1) rfl hj2) | (apply R.appendRd (xs := beI 4 v []) (v := u8V) (sz := 1) (ov := some (b2, j2, k2)) (n := 2 + 1) (old := u8s (beI 2 o []) ++ [.int .u8 r]); (iterate 12 exact rfl); exact hov2; (focus ((repeat' (first | exact Ext.one _ _ | apply Ext.app)); done)); exact rfl; exact u8V_len; exact rfl; (intro w1 hw1; exact rdown hov3 hw1 (Ext.mem (by (focus ((repeat' (exact Ext.here _ _)); done))))); (focus (rw [fl_u8]; exact u8s_one _)); omega; intro ov4 hov4 _; rw [fl_u8, ← hcl] at hov4; rw [fl_u8, ← hcl])) | (apply R.pure; exact rfl; first | (apply Ok1.move; exact rfl) | (apply Ok1.assign; exact rfl) | (apply Ok1.build; (iterate 5 exact rfl)) | (apply Ok1.convU8; (iterate 5 exact rfl); omega; omega)) | (apply R.buildSlice; (iterate 12 exact rfl); intro)) | apply R.nil | (apply T.is; first | apply T.seq | apply T.region | apply T.ret))
  (apply RetOk.t; exact rfl)
  exact ⟨_, by (focus ((repeat' (first | exact Ext.here _ _ | apply Keep.last)); done)), ov4, hov4, rfl, rfl⟩
theorem vcheck26_ok (o r v : Int) (p : Option Addr) (n cap : Nat) (w : World) : CallW Tryz.prog 36 [.agg ⟨ntC o r v p n cap⟩] w fun x _ => x = .int .i64 (takC o r v n) := by
  have hr := vright26_ok o r v
  unfold takC
  refine enterW (tb := tb) Tryz.func36 rfl Tryz.ntmps36 rfl ?_
  simp only [ntC]
  by_cases h : HRt o r v
  case neg =>
    rw [decide_eq_false h] at hr
    rw [if_pos h]
    repeat' (first | (apply R.is1; first | (apply R.isCall; apply R.callP rfl rfl rfl hr) | (apply R.pure; exact rfl; first | (apply Ok1.fieldAddr; (iterate 5 exact rfl)) | (apply Ok1.load; exact rfl; (apply Ld.own1; exact rfl; exact rfl; exact At.head; exact rfl)) | (apply Ok1.assign; exact rfl) | (apply Ok1.not_f; exact rfl)) | (apply R.box; (iterate 3 exact rfl); intro)) | apply R.nil | (apply T.is; first | apply T.seq | apply T.region | apply T.ret | (apply T.cond_t; exact rfl)))
    (apply RetOk.t; exact rfl)
    rfl
  rw [decide_eq_true h] at hr
  rw [if_neg (fun g => g h)]
  by_cases h1 : n < 32
  · rw [if_pos (.inl h1)]
    repeat' (first | (apply R.is1; first | (apply R.isBin; (apply R.pure; exact rfl; (apply Ok1.lss_t; exact rfl; exact rfl; omega))) | (apply R.isCall; first | apply R.callP rfl rfl rfl hr | (apply R.pure; exact rfl; (apply Ok1.lenS; (iterate 3 exact rfl)))) | (apply R.pure; exact rfl; first | (apply Ok1.move; exact rfl) | (apply Ok1.fieldAddr; (iterate 5 exact rfl)) | (apply Ok1.load; exact rfl; (apply Ld.own1; exact rfl; exact rfl; exact At.head; exact rfl)) | (apply Ok1.assign; exact rfl) | (apply Ok1.pick_t; exact rfl; exact rfl) | (apply Ok1.not_t; exact rfl)) | (apply R.box; (iterate 3 exact rfl); intro)) | (apply R.isG; (apply R.guard_not; (iterate 3 exact rfl))) | apply R.nil | (apply T.is; first | apply T.seq | apply T.region | apply T.skip | apply T.ret | (apply T.cond_t; exact rfl) | (apply T.cond_f; exact rfl)))
    (apply RetOk.t; exact rfl)
    rfl
  by_cases h2 : 96 < n
  · rw [if_pos (.inr h2)]
    repeat' (first | (apply R.is1; first | (apply R.isBin; (apply R.pure; exact rfl; first | (apply Ok1.lss_f; exact rfl; exact rfl; omega) | (apply Ok1.gtr_t; exact rfl; exact rfl; omega))) | (apply R.isCall; first | apply R.callP rfl rfl rfl hr | (apply R.pure; exact rfl; (apply Ok1.lenS; (iterate 3 exact rfl)))) | (apply R.pure; exact rfl; first | (apply Ok1.move; exact rfl) | (apply Ok1.fieldAddr; (iterate 5 exact rfl)) | (apply Ok1.load; exact rfl; (apply Ld.own1; exact rfl; exact rfl; exact At.head; exact rfl)) | (apply Ok1.assign; exact rfl) | (apply Ok1.pick_f; exact rfl; exact rfl) | (apply Ok1.not_t; exact rfl)) | (apply R.box; (iterate 3 exact rfl); intro)) | (apply R.isG; (apply R.guard_run; exact rfl; exact rfl)) | apply R.nil | (apply T.is; first | apply T.seq | apply T.region | apply T.skip | apply T.ret | (apply T.cond_t; exact rfl) | (apply T.cond_f; exact rfl)))
    (apply RetOk.t; exact rfl)
    rfl
  rw [if_neg (by omega)]
  repeat' (first | (apply R.is1; first | (apply R.isBin; (apply R.pure; exact rfl; first | (apply Ok1.lss_f; exact rfl; exact rfl; omega) | (apply Ok1.gtr_f; exact rfl; exact rfl; omega))) | (apply R.isCall; first | apply R.callP rfl rfl rfl hr | (apply R.pure; exact rfl; (apply Ok1.lenS; (iterate 3 exact rfl)))) | (apply R.pure; exact rfl; first | (apply Ok1.move; exact rfl) | (apply Ok1.fieldAddr; (iterate 5 exact rfl)) | (apply Ok1.load; exact rfl; (apply Ld.own1; exact rfl; exact rfl; exact At.head; exact rfl)) | (apply Ok1.assign; exact rfl) | (apply Ok1.pick_f; exact rfl; exact rfl) | (apply Ok1.not_t; exact rfl)) | (apply R.box; (iterate 3 exact rfl); intro)) | (apply R.isG; (apply R.guard_run; exact rfl; exact rfl)) | apply R.nil | (apply T.is; first | apply T.seq | apply T.region | apply T.skip | apply T.ret | (apply T.cond_f; exact rfl)))
  (apply RetOk.t; exact rfl)
  rfl
theorem vnseal_bad (p : Option Addr) (m cap : Nat) (o r v : Int) (q : Option Addr) (n c : Nat) (hne : nsE o r v n ≠ 0) (w : World) : CallM Tryz.prog 11 [.agg ⟨tabV⟩, .slice p m cap, .agg ⟨ntC o r v q n c⟩] [] w fun x L => x = .tuple #[.agg ⟨ntC 0 0 0 none 0 0⟩, .int .i64 (nsE o r v n)] ∧ L = [] := by
  have hr := vright26_ok o r v
  generalize tabV = tv at *
  refine enterK (tb := tb) Tryz.func11 rfl Tryz.ntmps11 rfl ?_
  simp only [ntC]
  by_cases h : HRt o r v
  · have h64 : 64 < n := by
      unfold nsE at hne
      rw [if_neg (fun g => g h)] at hne
      by_cases g : 64 < n
      · exact g
      · rw [if_neg g] at hne; exact absurd rfl hne
    have he : nsE o r v n = 2 := by unfold nsE; rw [if_neg (fun g => g h), if_pos h64]
    rw [decide_eq_true h] at hr
    rw [he]
    repeat' (first | (apply R.is1; first | (apply R.isBin; (apply R.pure; exact rfl; (apply Ok1.gtr_t; exact rfl; exact rfl; omega))) | (apply R.isCall; first | apply R.callP rfl rfl rfl hr | (apply R.pure; exact rfl; (apply Ok1.lenS; (iterate 3 exact rfl)))) | (apply R.pure; exact rfl; first | (apply Ok1.fieldAddr; (iterate 5 exact rfl)) | (apply Ok1.load; exact rfl; (apply Ld.own1; exact rfl; exact rfl; (focus ((repeat' (first | exact At.head | apply At.tail)); done)); exact rfl)) | (apply Ok1.assign; exact rfl) | (apply Ok1.build; (iterate 5 exact rfl)) | (apply Ok1.not_t; exact rfl)) | (apply R.box; (iterate 3 exact rfl); intro) | (apply R.alloc; (iterate 3 exact rfl); intro)) | (apply R.is0; (apply R.store; (iterate 6 exact rfl); exact Upd.head; exact rfl)) | apply R.nil | (apply T.is; first | apply T.seq | apply T.region | apply T.skip | apply T.ret | (apply T.cond_t; exact rfl) | (apply T.cond_f; exact rfl)))
    (apply RetOk.ct; exact rfl; ((apply Ld.ownk; exact rfl; exact rfl; exact At.head; exact rfl)); exact rfl)
    exact ⟨[], by (focus ((repeat' (exact Keep.nil _)); done)), rfl, rfl⟩
  · have he : nsE o r v n = 10 := by unfold nsE; rw [if_pos h]
    rw [decide_eq_false h] at hr
    rw [he]
    repeat' (first | (apply R.is1; first | (apply R.isCall; apply R.callP rfl rfl rfl hr) | (apply R.pure; exact rfl; first | (apply Ok1.fieldAddr; (iterate 5 exact rfl)) | (apply Ok1.load; exact rfl; (apply Ld.own1; exact rfl; exact rfl; (focus ((repeat' (first | exact At.head | apply At.tail)); done)); exact rfl)) | (apply Ok1.assign; exact rfl) | (apply Ok1.build; (iterate 5 exact rfl)) | (apply Ok1.not_f; exact rfl)) | (apply R.box; (iterate 3 exact rfl); intro) | (apply R.alloc; (iterate 3 exact rfl); intro)) | (apply R.is0; (apply R.store; (iterate 6 exact rfl); exact Upd.head; exact rfl)) | apply R.nil | (apply T.is; first | apply T.seq | apply T.region | apply T.ret | (apply T.cond_t; exact rfl)))
    (apply RetOk.ct; exact rfl; ((apply Ld.ownk; exact rfl; exact rfl; exact At.head; exact rfl)); exact rfl)
    exact ⟨[], by (focus ((repeat' (exact Keep.nil _)); done)), rfl, rfl⟩
theorem vnseal_ok (p : Option Addr) (m cap : Nat) (k : List Int) (hm : m = k.length) (hkl : m ≤ 999999000) (hkb : Byt k) (o r v : Int) (q : Option Addr) (n c : Nat) (xs : List Int) (hn : n = xs.length) (hby : Byt xs) (h : HRt o r v) (h64 : n ≤ 64) (w : World) (hp : RdSl w p u8V k) (hq : RdSl w q u8V xs) : CallM Tryz.prog 11 [.agg ⟨tabV⟩, .slice p m cap, .agg ⟨ntC o r v q n c⟩] [] w fun x L => ∃ ov, OvOk 1 ov (n + 32) (u8s (nsI k o r v xs)) ∧ x = .tuple #[.agg ⟨ntC o r v (ovp ov) (n + 32) (ovc ov (n + 32))⟩, .int .i64 0] ∧ L = blkL 5 ov (u8s (nsI k o r v xs)) := by
  have htl := tab_len
  have hr := vright26_ok o r v
  rw [decide_eq_true h] at hr
  have hh := fun w1 => vhead_ok o r v h w1
  have hhl := headI_len o r v
  have hhb := headI_byt o r v
  have hss : nsI k o r v xs = sealI k (headI o r v) (headI o r v) xs := rfl
  have hse := fun q9 c9 w1 (hc : Chg [] w w1) h1 => vsseal_ok p m cap k hm hkl hkb q9 7 c9 (headI o r v) hhl.symm (by decide) hhb q9 7 c9 (headI o r v) hhl.symm (by decide) hhb q n c xs hn (by omega) hby w1 (hp.chg' hc (fun _ => Off.nil _)) h1 h1 (hq.chg' hc (fun _ => Off.nil _))
  rw [← hss] at hse
  generalize nsI k o r v xs = SS at *
  generalize headI o r v = H at *
  generalize tabV = tv at *
  refine enterK (tb := tb) Tryz.func11 rfl Tryz.ntmps11 rfl ?_
  simp only [ntC]
  repeat' (first | (apply R.is1; first | (apply R.isBin; (apply R.pure; exact rfl; (apply Ok1.gtr_f; exact rfl; exact rfl; omega))) | (apply R.isCall; first | apply R.callP rfl rfl rfl hr | (apply R.callE (vs := [.int .i64 o, .int .i64 r, .int .i64 v]); (iterate 3 exact rfl); exact Ext.none _; intro w1 hw1; exact hh w1; rintro x Lo ⟨ov7, hov7, rfl, rfl⟩; rw [slV_eq hov7]) | (apply R.pure; exact rfl; (apply Ok1.lenS; (iterate 3 exact rfl)))) | (apply R.pure; exact rfl; first | (apply Ok1.fieldAddr; (iterate 5 exact rfl)) | (apply Ok1.load; exact rfl; (apply Ld.own1; exact rfl; exact rfl; (focus ((repeat' (first | exact At.head | apply At.tail)); done)); exact rfl)) | (apply Ok1.assign; exact rfl) | (apply Ok1.not_t; exact rfl)) | (apply R.box; (iterate 3 exact rfl); intro) | (apply R.alloc; (iterate 3 exact rfl); intro)) | apply R.nil | (apply T.is; first | (apply T.stop1 6) | apply T.seq | apply T.region | apply T.skip | (apply T.cond_f; exact rfl)))
  refine ⟨?_⟩
  rename_i b3 b5 b6
  have hse2 := fun w1 hc L (h1 : Hp w [] L w1) h2 => hse (ovp ov7) (ovc ov7 7) w1 hc (rdown (e := 5) (by rw [hhl]; exact hov7) h1 h2)
  obtain ⟨b7, j7, k7, rfl⟩ := ovsome hov7 (by decide)
  simp only [ovp, ovc, blkL, List.cons_append, List.nil_append] at hse2 ⊢
  repeat' ((apply T.is; first | (apply T.drawC (id := 6) [2,3] (by decide); ((apply A.take 0; exact rfl; exact rfl; kernel_rfl; kernel_rfl; kernel_rfl; (apply Ok1.fieldAddr; (iterate 5 exact rfl))) <;> (apply A.take 1; exact rfl; exact rfl; kernel_rfl; kernel_rfl; kernel_rfl; (apply Ok1.load; exact rfl; (apply Ld.own1; exact rfl; exact rfl; exact At.head; exact rfl))) <;> (apply A.take 2; exact rfl; exact rfl; kernel_rfl; kernel_rfl; kernel_rfl; (apply Ok1.fieldAddr; (iterate 5 exact rfl))) <;> (apply A.take 3; exact rfl; exact rfl; kernel_rfl; kernel_rfl; kernel_rfl; (apply Ok1.load; exact rfl; (apply Ld.own1; exact rfl; exact rfl; exact At.head; exact rfl))) <;> (apply A.take 4; exact rfl; exact rfl; kernel_rfl; kernel_rfl; kernel_rfl; (apply Ok1.fieldAddr; (iterate 5 exact rfl))) <;> (apply A.take 5; exact rfl; exact rfl; kernel_rfl; kernel_rfl; kernel_rfl; (apply Ok1.load; exact rfl; (apply Ld.own1; exact rfl; exact rfl; exact At.head; exact rfl))) <;> (apply A.take 6; exact rfl; exact rfl; kernel_rfl; kernel_rfl; kernel_rfl; (apply Ok1.load; exact rfl; (apply Ld.ownk; exact rfl; exact rfl; (focus ((repeat' (first | exact At.head | apply At.tail)); done)); exact subE_all htl))) <;> (apply A.take 7; exact rfl; exact rfl; kernel_rfl; kernel_rfl; kernel_rfl; (apply Ok1.move; exact rfl)) <;> (apply A.take 8; exact rfl; exact rfl; kernel_rfl; kernel_rfl; kernel_rfl; (apply Ok1.move; exact rfl)) <;> (apply A.take 9; exact rfl; exact rfl; kernel_rfl; kernel_rfl; kernel_rfl; (apply Ok1.move; exact rfl)) <;> (apply A.take 10; exact rfl; exact rfl; kernel_rfl; kernel_rfl; kernel_rfl; (apply Ok1.fieldAddr; (iterate 5 exact rfl))) <;> (apply A.take 11; exact rfl; exact rfl; kernel_rfl; kernel_rfl; kernel_rfl; (apply Ok1.load; exact rfl; (apply Ld.own1; exact rfl; exact rfl; exact At.head; exact rfl))) <;> (apply A.one 12; kernel_rfl; exact rfl; (((apply R.callE (vs := [.agg ⟨tv⟩, .slice p m cap, .slice (some ⟨b7, 0, none⟩) 7 (7 + j7), .slice (some ⟨b7, 0, none⟩) 7 (7 + j7), .slice q n c]); (iterate 3 exact rfl); exact Ext.none _; intro w1 hw1; exact hse2 w1 hw1.chg _ hw1 (fun z hz => by rw [List.mem_singleton.1 hz]; exact At.mem (by exact At.head)); rintro x Lo ⟨ov9, hov9, rfl, rfl⟩; rw [slV_eq hov9]))); apply R.nil; refine ⟨?_, ?_⟩; (focus ((repeat' (first | exact trivial | (refine ⟨?_, ?_⟩; (focus ((repeat' (first | exact At.head | apply At.tail | apply At.right)); done)))))))) <;> (apply A.take 13; exact rfl; exact rfl; kernel_rfl; kernel_rfl; kernel_rfl; (apply Ok1.build; (iterate 5 exact rfl))) <;> (apply A.one 14; kernel_rfl; exact rfl; (((apply R.store; (iterate 6 exact rfl); (focus ((repeat' (first | exact Upd.head | apply Upd.tail | apply Upd.right)); done)); exact rfl))); apply R.nil; refine ⟨?_, ?_⟩; (focus ((repeat' (first | exact trivial | (refine ⟨?_, ?_⟩; (focus ((repeat' (first | exact At.head | apply At.tail | apply At.right)); done)))))))) <;> (apply A.take 15; exact rfl; exact rfl; kernel_rfl; kernel_rfl; kernel_rfl; (apply Ok1.assign; exact rfl)) <;> (apply A.done; kernel_rfl))) | apply T.seq | apply T.ret))
  all_goals (apply RetOk.ct; exact rfl; ((apply Ld.ownk; exact rfl; exact rfl; (focus ((repeat' (first | exact At.head | apply At.tail | apply At.right)); done)); exact rfl)); exact rfl)
  all_goals exact ⟨_, by (focus ((repeat' (first | exact Ext.here _ _ | apply Keep.last)); done)), ov9, hov9, rfl, rfl⟩
theorem vnopen_ok (p : Option Addr) (m cap : Nat) (k : List Int) (hm : m = k.length) (hkl : m ≤ 999999000) (hkb : Byt k) (o r v : Int) (q : Option Addr) (n c : Nat) (s : List Int) (hn : n = s.length) (hcap : n ≤ c) (hby : Byt s) (w : World) (hp : RdSl w p u8V k) (hq : RdSl w q u8V s) : CallM Tryz.prog 18 [.agg ⟨tabV⟩, .slice p m cap, .agg ⟨ntC o r v q n c⟩] [] w fun x L => if noE k o r v s = 0 then ∃ ov, OvOk 1 ov (noI k o r v s).length (u8s (noI k o r v s)) ∧ x = .tuple #[.agg ⟨ntC o r v (ovp ov) (noI k o r v s).length (ovc ov (noI k o r v s).length)⟩, .int .i64 0] ∧ L = blkL 5 ov (u8s (noI k o r v s)) else x = .tuple #[.agg ⟨ntC 0 0 0 none 0 0⟩, .int .i64 (noE k o r v s)] ∧ L = [] := by
  have htl := tab_len
  have hr := vright26_ok o r v
  by_cases h : HRt o r v
  case neg =>
    have he : noE k o r v s = 10 := by unfold noE; rw [if_pos h]
    rw [decide_eq_false h] at hr
    rw [he]
    have hz : ¬ (10 : Int) = 0 := by decide
    simp only [if_neg hz]
    generalize tabV = tv at *
    refine enterK (tb := tb) Tryz.func18 rfl Tryz.ntmps18 rfl ?_
    simp only [ntC]
    repeat' (first | (apply R.is1; first | (apply R.isCall; apply R.callP rfl rfl rfl hr) | (apply R.pure; exact rfl; first | (apply Ok1.fieldAddr; (iterate 5 exact rfl)) | (apply Ok1.load; exact rfl; (apply Ld.own1; exact rfl; exact rfl; (focus ((repeat' (first | exact At.head | apply At.tail)); done)); exact rfl)) | (apply Ok1.assign; exact rfl) | (apply Ok1.build; (iterate 5 exact rfl)) | (apply Ok1.not_f; exact rfl)) | (apply R.box; (iterate 3 exact rfl); intro) | (apply R.alloc; (iterate 3 exact rfl); intro)) | (apply R.is0; (apply R.store; (iterate 6 exact rfl); exact Upd.head; exact rfl)) | apply R.nil | (apply T.is; first | apply T.seq | apply T.region | apply T.ret | (apply T.cond_t; exact rfl)))
    (apply RetOk.ct; exact rfl; ((apply Ld.ownk; exact rfl; exact rfl; exact At.head; exact rfl)); exact rfl)
    exact ⟨[], by (focus ((repeat' (exact Keep.nil _)); done)), rfl, rfl⟩
  rw [decide_eq_true h] at hr
  have hh := fun w1 => vhead_ok o r v h w1
  by_cases h96 : 96 < n
  · have he : noE k o r v s = 2 := by unfold noE; rw [if_neg (fun g => g h), if_pos (by omega)]
    rw [he]
    have hz : ¬ (2 : Int) = 0 := by decide
    simp only [if_neg hz]
    generalize tabV = tv at *
    refine enterK (tb := tb) Tryz.func18 rfl Tryz.ntmps18 rfl ?_
    simp only [ntC]
    repeat' (first | (apply R.is1; first | (apply R.isBin; (apply R.pure; exact rfl; (apply Ok1.gtr_t; exact rfl; exact rfl; omega))) | (apply R.isCall; first | apply R.callP rfl rfl rfl hr | (apply R.pure; exact rfl; (apply Ok1.lenS; (iterate 3 exact rfl)))) | (apply R.pure; exact rfl; first | (apply Ok1.fieldAddr; (iterate 5 exact rfl)) | (apply Ok1.load; exact rfl; (apply Ld.own1; exact rfl; exact rfl; (focus ((repeat' (first | exact At.head | apply At.tail)); done)); exact rfl)) | (apply Ok1.assign; exact rfl) | (apply Ok1.build; (iterate 5 exact rfl)) | (apply Ok1.not_t; exact rfl)) | (apply R.box; (iterate 3 exact rfl); intro) | (apply R.alloc; (iterate 3 exact rfl); intro)) | (apply R.is0; (apply R.store; (iterate 6 exact rfl); exact Upd.head; exact rfl)) | apply R.nil | (apply T.is; first | apply T.seq | apply T.region | apply T.skip | apply T.ret | (apply T.cond_t; exact rfl) | (apply T.cond_f; exact rfl)))
    (apply RetOk.ct; exact rfl; ((apply Ld.ownk; exact rfl; exact rfl; exact At.head; exact rfl)); exact rfl)
    exact ⟨[], by (focus ((repeat' (exact Keep.nil _)); done)), rfl, rfl⟩
  have hhl := headI_len o r v
  have hhb := headI_byt o r v
  have he : noE k o r v s = sopE k (headI o r v) (headI o r v) s := by unfold noE; rw [if_neg (fun g => g h), if_neg (by omega)]
  have hi : noI k o r v s = sopI k (headI o r v) s := rfl
  have hop := fun q9 c9 w1 (hc : Chg [] w w1) h1 => vsopen_ok p m cap k hm hkl hkb q9 7 c9 (headI o r v) hhl.symm (by decide) hhb q9 7 c9 (headI o r v) hhl.symm (by decide) hhb q n c s hn hcap (by omega) hby w1 (hp.chg' hc (fun _ => Off.nil _)) h1 h1 (hq.chg' hc (fun _ => Off.nil _))
  have hN : sopN k (headI o r v) (headI o r v) s = if noE k o r v s = 0 then noI k o r v s else [] := by unfold sopN; rw [he, hi]
  rw [← he] at hop
  generalize sopN k (headI o r v) (headI o r v) s = N at *
  generalize noI k o r v s = I9 at *
  generalize noE k o r v s = E9 at *
  generalize headI o r v = H at *
  generalize tabV = tv at *
  by_cases hE : E9 = 0
  · simp only [if_pos hE]
    rw [if_pos hE] at hN
    subst hN hE
    refine enterK (tb := tb) Tryz.func18 rfl Tryz.ntmps18 rfl ?_
    simp only [ntC]
    repeat' (first | (apply R.is1; first | (apply R.isBin; (apply R.pure; exact rfl; first | (apply Ok1.gtr_f; exact rfl; exact rfl; omega) | (apply Ok1.neq_f; exact rfl; exact rfl; omega))) | (apply R.isCall; first | apply R.callP rfl rfl rfl hr | (apply R.callE (vs := [.int .i64 o, .int .i64 r, .int .i64 v]); (iterate 3 exact rfl); exact Ext.none _; intro w1 hw1; exact hh w1; rintro x Lo ⟨ov7, hov7, rfl, rfl⟩; rw [slV_eq hov7]) | (apply R.callE (vs := [.agg ⟨tv⟩, .slice p m cap, .slice (ovp ov7) 7 (ovc ov7 7), .slice (ovp ov7) 7 (ovc ov7 7), .slice q n c]); (iterate 3 exact rfl); exact Ext.none _; intro w1 hw1; exact hop _ _ w1 hw1.chg (rdown (by rw [hhl]; exact hov7) hw1 (Ext.mem (by (focus ((repeat' (exact Ext.here _ _)); done))))); rintro x Lo ⟨ov9, hov9, rfl, rfl⟩; rw [slV_eq hov9]) | (apply R.pure; exact rfl; (apply Ok1.lenS; (iterate 3 exact rfl)))) | (apply R.pure; exact rfl; first | (apply Ok1.load; exact rfl; first | (apply Ld.ownk; exact rfl; exact rfl; (focus ((repeat' (first | exact At.head | apply At.tail | apply At.right)); done)); exact subE_all htl) | (apply Ld.own1; exact rfl; exact rfl; (focus ((repeat' (first | exact At.head | apply At.tail | apply At.right)); done)); exact rfl)) | (apply Ok1.move; exact rfl) | (apply Ok1.fieldAddr; (iterate 5 exact rfl)) | (apply Ok1.assign; exact rfl) | (apply Ok1.build; (iterate 5 exact rfl)) | (apply Ok1.extract; exact rfl; exact rfl) | (apply Ok1.not_t; exact rfl)) | (apply R.box; (iterate 3 exact rfl); intro) | (apply R.alloc; (iterate 3 exact rfl); intro)) | (apply R.is0; (apply R.store; (iterate 6 exact rfl); (focus ((repeat' (first | exact Upd.head | apply Upd.right)); done)); exact rfl)) | apply R.nil | (apply T.is; first | apply T.seq | apply T.region | apply T.skip | apply T.ret | (apply T.cond_f; exact rfl)))
    (apply RetOk.ct; exact rfl; ((apply Ld.ownk; exact rfl; exact rfl; (focus ((repeat' (first | exact At.head | apply At.right)); done)); exact rfl)); exact rfl)
    exact ⟨_, by (focus ((repeat' (first | exact Ext.here _ _ | apply Keep.last)); done)), ov9, hov9, rfl, rfl⟩
  · simp only [if_neg hE]
    rw [if_neg hE] at hN
    subst hN
    refine enterK (tb := tb) Tryz.func18 rfl Tryz.ntmps18 rfl ?_
    simp only [ntC]
    repeat' (first | (apply R.is1; first | (apply R.isBin; (apply R.pure; exact rfl; first | (apply Ok1.gtr_f; exact rfl; exact rfl; omega) | (apply Ok1.neq_t; exact rfl; exact rfl; omega))) | (apply R.isCall; first | apply R.callP rfl rfl rfl hr | (apply R.callE (vs := [.int .i64 o, .int .i64 r, .int .i64 v]); (iterate 3 exact rfl); exact Ext.none _; intro w1 hw1; exact hh w1; rintro x Lo ⟨ov7, hov7, rfl, rfl⟩; rw [slV_eq hov7]) | (apply R.callE (vs := [.agg ⟨tv⟩, .slice p m cap, .slice (ovp ov7) 7 (ovc ov7 7), .slice (ovp ov7) 7 (ovc ov7 7), .slice q n c]); (iterate 3 exact rfl); exact Ext.none _; intro w1 hw1; exact hop _ _ w1 hw1.chg (rdown (by rw [hhl]; exact hov7) hw1 (Ext.mem (by (focus ((repeat' (exact Ext.here _ _)); done))))); rintro x Lo ⟨ov9, hov9, rfl, rfl⟩; rw [slV_eq hov9]) | (apply R.pure; exact rfl; (apply Ok1.lenS; (iterate 3 exact rfl)))) | (apply R.pure; exact rfl; first | (apply Ok1.load; exact rfl; first | (apply Ld.ownk; exact rfl; exact rfl; (focus ((repeat' (first | exact At.head | apply At.tail | apply At.right)); done)); exact subE_all htl) | (apply Ld.own1; exact rfl; exact rfl; (focus ((repeat' (first | exact At.head | apply At.tail | apply At.right)); done)); exact rfl)) | (apply Ok1.move; exact rfl) | (apply Ok1.fieldAddr; (iterate 5 exact rfl)) | (apply Ok1.assign; exact rfl) | (apply Ok1.build; (iterate 5 exact rfl)) | (apply Ok1.extract; exact rfl; exact rfl) | (apply Ok1.not_t; exact rfl)) | (apply R.box; (iterate 3 exact rfl); intro) | (apply R.alloc; (iterate 3 exact rfl); intro)) | (apply R.is0; (apply R.store; (iterate 6 exact rfl); (focus ((repeat' (first | exact Upd.head | apply Upd.right)); done)); exact rfl)) | apply R.nil | (apply T.is; first | apply T.seq | apply T.region | apply T.skip | apply T.ret | (apply T.cond_t; exact rfl) | (apply T.cond_f; exact rfl)))
    (apply RetOk.ct; exact rfl; ((apply Ld.ownk; exact rfl; exact rfl; (focus ((repeat' (first | exact At.head | apply At.right)); done)); exact rfl)); exact rfl)
    exact ⟨[], by (focus ((repeat' (exact Keep.nil _)); done)), rfl, rfl⟩
end Go.Proofs.YtligngjcnlbgmaaGreat
set_option linter.unusedSimpArgs false
set_option linter.unusedVariables false
namespace Go.Proofs.YtligngjcnlbgmaaGreat
open Go.RowKit Go.Shelf
set_option maxRecDepth 100000
def u64n (l : List Nat) : List Value := l.map fun (d : Nat) => .int .u64 (d : Int)
def dig : Nat → Nat → List Nat
  | 0, _ => []
  | n + 1, v => v % 65536 :: dig n (v / 65536)
def val : List Nat → Nat
  | [] => 0
  | d :: r => d + 65536 * val r
theorem dig_len (n v : Nat) : (dig n v).length = n := by
  induction n generalizing v with
  | zero => rfl
  | succ n ih => simp [dig, ih]
theorem dig_get (n v i : Nat) (h : i < n) : (dig n v).getD i 0 = v / 65536 ^ i % 65536 := by
  induction n generalizing v i with
  | zero => omega
  | succ n ih =>
    cases i with
    | zero => simp [dig]
    | succ i =>
      have := ih (v / 65536) i (by omega)
      simp only [dig, List.getD_cons_succ, this, Nat.div_div_eq_div_mul]
      rw [Nat.pow_succ, Nat.mul_comm]
theorem dig_val {l : List Nat} (h : ∀ d ∈ l, d < 65536) : dig l.length (val l) = l := by
  induction l with
  | nil => rfl
  | cons d l ih =>
    have h1 := ih fun x hx => h x (List.mem_cons_of_mem _ hx)
    have h2 := h d List.mem_cons_self
    simp only [val, List.length_cons, dig]
    rw [show (d + 65536 * val l) % 65536 = d by omega, show (d + 65536 * val l) / 65536 = val l by omega, h1]
theorem dig_mod (n v : Nat) : dig n (v % 65536 ^ n) = dig n v := by
  induction n generalizing v with
  | zero => rfl
  | succ n ih =>
    simp only [dig]
    have h1 : v % 65536 ^ (n + 1) % 65536 = v % 65536 := Nat.mod_mod_of_dvd v (by rw [Nat.pow_succ]; exact Nat.dvd_mul_left _ _)
    have h2 : v % 65536 ^ (n + 1) / 65536 = v / 65536 % 65536 ^ n := by
      rw [Nat.pow_succ, Nat.mul_comm, Nat.mod_mul_right_div_self]
    rw [h1, h2, ih]
theorem val_set (l : List Nat) (i x : Nat) (h : i < l.length) : val (l.set i x) + l.getD i 0 * 65536 ^ i = val l + x * 65536 ^ i := by
  induction l generalizing i with
  | nil => simp at h
  | cons d l ih =>
    cases i with
    | zero => simp [val]; omega
    | succ i =>
      have := ih i (by simpa using h)
      simp only [List.set_cons_succ, val, List.getD_cons_succ]
      rw [Nat.pow_succ, ← Nat.mul_assoc, ← Nat.mul_assoc]
      omega
theorem mod_step (A i : Nat) : A % 65536 ^ (i + 1) = A % 65536 ^ i + A / 65536 ^ i % 65536 * 65536 ^ i := by
  rw [Nat.pow_succ, Nat.mod_mul, Nat.mul_comm (65536 ^ i)]
/-- One step of the inner loop. -/
theorem inner_step {Z Z' Z0 ov a B z i k : Nat} (hset : Z' + z * 65536 ^ (i + k) = Z + (ov + z + a * (B / 65536 ^ k % 65536)) % 65536 * 65536 ^ (i + k))
    (h : Z + ov * 65536 ^ (i + k) = Z0 + a * (B % 65536 ^ k) * 65536 ^ i) :
    Z' + (ov + z + a * (B / 65536 ^ k % 65536)) / 65536 * 65536 ^ (i + (k + 1)) = Z0 + a * (B % 65536 ^ (k + 1)) * 65536 ^ i := by
  rw [mod_step B k]
  generalize B / 65536 ^ k % 65536 = b at *
  have e1 : a * (B % 65536 ^ k + b * 65536 ^ k) * 65536 ^ i = a * (B % 65536 ^ k) * 65536 ^ i + a * b * 65536 ^ (i + k) := by rw [Nat.mul_add a, Nat.add_mul, Nat.pow_add, ← Nat.mul_assoc a, Nat.mul_assoc (a * b), Nat.mul_comm (65536 ^ k)]
  rw [e1, ← Nat.add_assoc Z0, ← h, show i + (k + 1) = (i + k) + 1 by omega, Nat.pow_succ]
  generalize 65536 ^ (i + k) = P at *
  have h4 := Nat.div_add_mod (ov + z + a * b) 65536
  generalize (ov + z + a * b) / 65536 = q at *
  generalize (ov + z + a * b) % 65536 = m at *
  have h5 : (65536 * q + m) * P = (ov + z + a * b) * P := by rw [h4]
  rw [Nat.add_mul, Nat.add_mul, Nat.add_mul, Nat.mul_comm 65536 q, Nat.mul_assoc] at h5
  rw [Nat.mul_comm P 65536]
  generalize q * (65536 * P) = s1 at *
  generalize m * P = s2 at *
  generalize ov * P = s3 at *
  generalize z * P = s4 at *
  generalize a * b * P = s5 at *
  omega
theorem outer_step {Z Z0 ov A B i : Nat} (hi : i ≤ 12) (h0 : Z0 % 65536 ^ 12 = (A % 65536 ^ i * B) % 65536 ^ 12)
    (h : Z + ov * 65536 ^ 12 = Z0 + (A / 65536 ^ i % 65536) * (B % 65536 ^ (12 - i)) * 65536 ^ i) : Z % 65536 ^ 12 = (A % 65536 ^ (i + 1) * B) % 65536 ^ 12 := by
  have h1 : Z % 65536 ^ 12 = (Z + ov * 65536 ^ 12) % 65536 ^ 12 := by rw [Nat.add_mul_mod_self_right]
  rw [h1, h, mod_step A i, Nat.add_mul]
  generalize A / 65536 ^ i % 65536 = a
  have h2 : (a * (B % 65536 ^ (12 - i)) * 65536 ^ i) % 65536 ^ 12 = (a * 65536 ^ i * B) % 65536 ^ 12 := by
    have e : 65536 ^ 12 = 65536 ^ i * 65536 ^ (12 - i) := by rw [← Nat.pow_add]; congr 1; omega
    rw [Nat.mul_comm _ (65536 ^ i), Nat.mul_comm a (65536 ^ i), Nat.mul_assoc (65536 ^ i) a B, e, Nat.mul_mod_mul_left, Nat.mul_mod_mul_left]
    rw [Nat.mul_mod a (B % _), Nat.mod_mod, ← Nat.mul_mod]
  rw [Nat.add_mod, h0, h2, ← Nat.add_mod]
theorem parts_ok (y : Nat) (hy : y < 18446744073709551616) : CallP Tryz.prog 110 [.int .u64 y] (.agg ⟨u64n (dig 12 y)⟩) := by
  refine enterP (tb := tb) Tryz.func110 rfl Tryz.ntmps110 rfl fun w => ?_
  repeat' (first | (apply R.is1; first | (apply R.isBin; (apply R.pure; exact rfl; first | (apply Ok1.quoU; exact rfl; exact rfl; omega; omega; omega) | (apply Ok1.add64; exact rfl; exact rfl; omega; omega) | (apply Ok1.lss_t; exact rfl; exact rfl; omega) | (apply Ok1.lss_f; exact rfl; exact rfl; omega) | (apply Ok1.remN; exact rfl; exact rfl; omega; omega))) | (apply R.pure; exact rfl; first | (apply Ok1.move; exact rfl) | (apply Ok1.load; exact rfl; (apply Ld.ownk; exact rfl; exact rfl; exact At.head; exact rfl)) | (apply Ok1.assign; exact rfl) | (apply Ok1.indexAddrA; (iterate 5 exact rfl); omega; omega) | (apply Ok1.buildA; (iterate 6 exact rfl))) | (apply R.alloc; (iterate 3 exact rfl); intro)) | (apply R.is0; (apply R.store; (iterate 6 exact rfl); (focus ((repeat' (first | exact Upd.head | apply Upd.tail)); done)); exact rfl)) | apply R.nil | (apply T.is; first | apply T.rounds 5 | apply T.seq | apply T.region | apply T.block | apply T.skip | apply T.exit | apply T.ret | (apply T.cond_t; exact rfl) | (apply T.cond_f; exact rfl)))
  (apply RetOk.c; exact rfl; ((apply Ld.ownk; exact rfl; exact rfl; (focus ((repeat' (first | exact At.head | apply At.tail)); done)); exact rfl)))
  have h0 : y / 65536 / 65536 / 65536 / 65536 = 0 := by omega
  have h1 : ∀ n, dig n 0 = List.replicate n 0 := by
    intro n
    induction n with
    | zero => rfl
    | succ n ih => simp [dig, ih, List.replicate_succ]
  have h2 : dig 12 y = y % 65536 :: y / 65536 % 65536 :: y / 65536 / 65536 % 65536 :: y / 65536 / 65536 / 65536 % 65536 :: dig 8 (y / 65536 / 65536 / 65536 / 65536) := rfl
  rw [h2, h0, h1]
  simp only [u64n, List.map_cons, Int.natCast_emod, Int.natCast_ediv]
  rfl
theorem u64n_len (l : List Nat) : (u64n l).length = l.length := by simp [u64n]
theorem u64n_get {l : List Nat} {o : Nat} (h : o < l.length) : (u64n l)[o]? = some (.int .u64 (l.getD o 0 : Nat)) := by simp [u64n, h]
theorem u64n_one (l : List Nat) : (u64n l).all Value.oneCell' = true := by rw [List.all_eq_true]; intro x hx; obtain ⟨y, _, rfl⟩ := List.mem_map.1 hx; rfl
theorem u64n_set {l : List Nat} {o x : Nat} (h : o < l.length) : setE (u64n l) o [.int .u64 (x : Int)] = some (u64n (l.set o x)) := by
  rw [setE_one (by rw [u64n_len]; exact h)]
  simp [u64n, List.map_set]
theorem times_ok (U V : Nat) : CallP Tryz.prog 111 [.agg ⟨u64n (dig 12 U)⟩, .agg ⟨u64n (dig 12 V)⟩] (.agg ⟨u64n (dig 12 (U * V))⟩) := by
  refine enterP (tb := tb) Tryz.func111 rfl Tryz.ntmps111 rfl fun w => ?_
  have hla := dig_len 12 U
  have hlb := dig_len 12 V
  have hga : ∀ i : Nat, i < 12 → (u64n (dig 12 U))[0 + (i : Int).toNat * 1]? = some (.int .u64 (U / 65536 ^ i % 65536 : Nat)) := fun i hi => by rw [← dig_get 12 U i hi]; rw [show 0 + (i : Int).toNat * 1 = i by omega]; exact u64n_get (by omega)
  have hgb : ∀ i : Nat, i < 12 → (u64n (dig 12 V))[0 + (i : Int).toNat * 1]? = some (.int .u64 (V / 65536 ^ i % 65536 : Nat)) := fun i hi => by rw [← dig_get 12 V i hi]; rw [show 0 + (i : Int).toNat * 1 = i by omega]; exact u64n_get (by omega)
  have hca : cellsE (.agg ⟨u64n (dig 12 U)⟩) = some (u64n (dig 12 U)) := rfl
  generalize hAv : u64n (dig 12 U) = av at *
  generalize hBv : u64n (dig 12 V) = bv at *
  repeat' (first | (apply R.is1; first | (apply R.pure; exact rfl; first | (apply Ok1.assign; exact rfl) | (apply Ok1.buildA; (iterate 6 exact rfl))) | (apply R.box; (iterate 3 exact rfl); intro) | (apply R.alloc; (iterate 3 exact rfl); intro)) | (apply R.is0; (apply R.store; (iterate 6 exact rfl); exact Upd.head; exact rfl)) | apply R.nil | (apply T.is; first | apply T.seq | apply T.region | apply T.block))
  rename_i bA bB bO bZ
  apply T.loopK (α := Nat × List Nat) (I := fun x => x.1 ≤ 12 ∧ x.2.length = 12 ∧ (∀ d ∈ x.2, d < 65536) ∧ val x.2 % 65536 ^ 12 = (U % 65536 ^ x.1 * V) % 65536 ^ 12) (σi := fun x => [(2, .pointer (some ⟨bA, 0, none⟩)), (3, .pointer (some ⟨bB, 0, none⟩)), (4, .pointer (some ⟨bO, 0, none⟩)), (5, .pointer (some ⟨bZ, 0, none⟩)), (6, .int .i64 x.1)])
    (Li := fun x => [(bZ, .cells ⟨u64n x.2⟩ 205 (0, 0)), (bO, .cells ⟨List.replicate 12 (.int .u64 0)⟩ 205 (0, 0)), (bB, .cells ⟨bv⟩ 205 (0, 0)), (bA, .cells ⟨av⟩ 205 (0, 0))]) (μ := fun x => 12 - x.1) (i0 := (0, List.replicate 12 0))
  · refine ⟨by decide, rfl, ?_, ?_⟩
    · intro d hd; rw [List.eq_of_mem_replicate hd]; decide
    · simp only [Nat.pow_zero, Nat.mod_one, Nat.zero_mul]; rfl
  · exact ⟨rfl, rfl, rfl, rfl, rfl, trivial⟩
  · (focus ((repeat' (first | exact Keep.nil _ | exact Ext.one _ _ | apply Keep.cons)); done))
  · rintro ⟨i, z0⟩ ⟨hi, hz0, hd0, hv0⟩
    simp only at hi hz0 hd0 hv0 ⊢
    rcases Nat.lt_or_ge i 12 with hlt | hge
    · repeat' (first | (apply R.is1; first | (apply R.isBin; (apply R.pure; exact rfl; (apply Ok1.lss_t; exact rfl; exact rfl; omega))) | (apply R.pure; exact rfl; first | (apply Ok1.move; exact rfl) | (apply Ok1.assign; exact rfl))) | apply R.nil | (apply T.is; first | apply T.seq | apply T.region | apply T.block | apply T.skip | (apply T.cond_t; exact rfl)))
      have hai := hga i hlt
      have ha16 : U / 65536 ^ i % 65536 < 65536 := Nat.mod_lt _ (by decide)
      have hout := fun Z ov => @outer_step Z (val z0) ov U V i hi hv0
      generalize U / 65536 ^ i % 65536 = a at *
      apply T.loopK (α := Nat × Nat × List Nat) (I := fun x => i + x.1 ≤ 12 ∧ x.2.1 < 65536 ∧ x.2.2.length = 12 ∧ (∀ d ∈ x.2.2, d < 65536) ∧ val x.2.2 + x.2.1 * 65536 ^ (i + x.1) = val z0 + a * (V % 65536 ^ x.1) * 65536 ^ i) (σi := fun x => [(2, .pointer (some ⟨bA, 0, none⟩)), (3, .pointer (some ⟨bB, 0, none⟩)), (4, .pointer (some ⟨bO, 0, none⟩)), (5, .pointer (some ⟨bZ, 0, none⟩)), (6, .int .i64 i), (7, .int .u64 x.2.1), (8, .int .i64 x.1)])
        (Li := fun x => [(bZ, .cells ⟨u64n x.2.2⟩ 205 (0, 0)), (bO, .cells ⟨List.replicate 12 (.int .u64 0)⟩ 205 (0, 0)), (bB, .cells ⟨bv⟩ 205 (0, 0)), (bA, .cells ⟨av⟩ 205 (0, 0))]) (μ := fun x => 12 - x.1) (i0 := (0, 0, z0))
      · exact ⟨by omega, by simp only; omega, hz0, hd0, by simp [Nat.mod_one]⟩
      · exact ⟨rfl, rfl, rfl, rfl, rfl, rfl, rfl, trivial⟩
      · (focus ((repeat' (first | exact Keep.nil _ | exact Ext.one _ _ | apply Keep.cons)); done))
      · rintro ⟨k, ov, z⟩ ⟨hk, hov, hz, hd, hv⟩
        simp only at hk hov hz hd hv ⊢
        rcases Nat.lt_or_ge (i + k) 12 with hlt2 | hge2
        · have hbk := hgb k (by omega)
          have hb16 : V / 65536 ^ k % 65536 < 65536 := Nat.mod_lt _ (by decide)
          have hpos : 0 + ((i : Int) + (k : Int)).toNat * 1 = i + k := by omega
          have hzk : (u64n z)[0 + ((i : Int) + (k : Int)).toNat * 1]? = some (.int .u64 (z.getD (i + k) 0 : Nat)) := by rw [hpos]; exact u64n_get (by omega)
          have hzm : z.getD (i + k) 0 < 65536 := hd _ (by rw [List.getD_eq_getElem?_getD, List.getElem?_eq_getElem (by omega)]; exact List.getElem_mem _)
          have hvs := fun x => val_set z (i + k) x (by omega)
          have hstep := @inner_step (val z)
          generalize z.getD (i + k) 0 = zk at *
          have hst := fun Z' => @inner_step (val z) Z' (val z0) ov a V zk i k
          generalize V / 65536 ^ k % 65536 = b at *
          have hab : a * b ≤ 65535 * 65535 := Nat.mul_le_mul (by omega) (by omega)
          have hcast : ((a * b : Nat) : Int) = (a : Int) * (b : Int) := by push_cast; rfl
          have hab2 : (a : Int) * (b : Int) ≤ 4294836225 := by rw [← hcast]; omega
          have hab0 : 0 ≤ (a : Int) * (b : Int) := by rw [← hcast]; omega
          have hset : setE (u64n z) (0 + ((i : Int) + (k : Int)).toNat * 1) [.int .u64 (((ov : Int) + (zk : Int) + (a : Int) * (b : Int)) % 65536)] = some (u64n (z.set (i + k) ((ov + zk + a * b) % 65536))) := by
            rw [hpos, ← u64n_set (by omega)]
            congr 3
          have hdiv : ((ov : Int) + (zk : Int) + (a : Int) * (b : Int)) / 65536 = (((ov + zk + a * b) / 65536 : Nat) : Int) := by
            rw [Int.natCast_ediv, Int.natCast_add, Int.natCast_add, Int.natCast_mul]; rfl
          repeat' (first | (apply R.is1; first | (apply R.isBin; (apply R.pure; exact rfl; first | (apply Ok1.quoU; exact rfl; exact rfl; omega; omega; omega) | (apply Ok1.add64; exact rfl; exact rfl; omega; omega) | (apply Ok1.lss_t; exact rfl; exact rfl; omega) | (apply Ok1.remN; exact rfl; exact rfl; omega; omega))) | (apply R.pure; exact rfl; first | (apply Ok1.move; exact rfl) | (apply Ok1.assign; exact rfl) | (apply Ok1.indexAddrA; (iterate 5 exact rfl); omega; omega))) | (apply R.is0; (apply R.store; (iterate 6 exact rfl); exact Upd.head; exact hset)) | apply R.nil | (apply T.is; first | (apply T.drawC (id := 9) [0,2,3] (by decide); ((apply A.take 0; exact rfl; exact rfl; kernel_rfl; kernel_rfl; kernel_rfl; (apply Ok1.move; exact rfl)) <;> (apply A.take 1; exact rfl; exact rfl; kernel_rfl; kernel_rfl; kernel_rfl; (apply Ok1.move; exact rfl)) <;> (apply A.take 2; exact rfl; exact rfl; kernel_rfl; kernel_rfl; kernel_rfl; (apply Ok1.move; exact rfl)) <;> (apply A.take 3; exact rfl; exact rfl; kernel_rfl; kernel_rfl; kernel_rfl; (apply Ok1.add64; exact rfl; exact rfl; omega; omega)) <;> (apply A.take 4; exact rfl; exact rfl; kernel_rfl; kernel_rfl; kernel_rfl; (apply Ok1.indexAddrA; (iterate 5 exact rfl); omega; omega)) <;> (apply A.take 5; exact rfl; exact rfl; kernel_rfl; kernel_rfl; kernel_rfl; (apply Ok1.load; exact rfl; apply Ld.own1; exact rfl; exact rfl; exact At.head; with_reducible (exact hzk))) <;> (apply A.take 6; exact rfl; exact rfl; kernel_rfl; kernel_rfl; kernel_rfl; (apply Ok1.addU; exact rfl; exact rfl; omega; omega)) <;> (apply A.take 7; exact rfl; exact rfl; kernel_rfl; kernel_rfl; kernel_rfl; (apply Ok1.move; exact rfl)) <;> (apply A.take 8; exact rfl; exact rfl; kernel_rfl; kernel_rfl; kernel_rfl; (apply Ok1.indexAddrA; (iterate 5 exact rfl); omega; omega)) <;> (apply A.take 9; exact rfl; exact rfl; kernel_rfl; kernel_rfl; kernel_rfl; (apply Ok1.load; exact rfl; apply Ld.own1; exact rfl; exact rfl; (focus ((repeat' (first | exact At.head | apply At.tail)); done)); with_reducible (exact hai))) <;> (apply A.take 10; exact rfl; exact rfl; kernel_rfl; kernel_rfl; kernel_rfl; (apply Ok1.move; exact rfl)) <;> (apply A.take 11; exact rfl; exact rfl; kernel_rfl; kernel_rfl; kernel_rfl; (apply Ok1.indexAddrA; (iterate 5 exact rfl); omega; omega)) <;> (apply A.take 12; exact rfl; exact rfl; kernel_rfl; kernel_rfl; kernel_rfl; (apply Ok1.load; exact rfl; apply Ld.own1; exact rfl; exact rfl; (focus ((repeat' (first | exact At.head | apply At.tail)); done)); with_reducible (exact hbk))) <;> (apply A.take 13; exact rfl; exact rfl; kernel_rfl; kernel_rfl; kernel_rfl; (apply Ok1.mulU; exact rfl; exact rfl; omega; omega)) <;> (apply A.take 14; exact rfl; exact rfl; kernel_rfl; kernel_rfl; kernel_rfl; (apply Ok1.addU; exact rfl; exact rfl; omega; omega)) <;> (apply A.take 15; exact rfl; exact rfl; kernel_rfl; kernel_rfl; kernel_rfl; (apply Ok1.assign; exact rfl)) <;> (apply A.done; kernel_rfl))) | apply T.seq | apply T.region | apply T.block | apply T.skip | (apply T.cond_t; exact rfl)))
          refine ⟨(k + 1, (ov + zk + a * b) / 65536, z.set (i + k) ((ov + zk + a * b) % 65536)), ⟨by simp only; omega, by simp only; omega, by simp only [List.length_set]; exact hz, ?_, hst _ (hvs _) hv⟩, by simp only; omega, ⟨rfl, rfl, rfl, rfl, rfl, congrArg (fun z => some (Value.int .u64 z)) hdiv, rfl, trivial⟩, ?_⟩
          · intro d hdm
            rcases List.mem_or_eq_of_mem_set hdm with h | rfl
            · exact hd d h
            · exact Nat.mod_lt _ (by decide)
          · (focus ((repeat' (first | exact Keep.nil _ | exact Ext.one _ _ | apply Keep.cons)); done))
        · have he : i + k = 12 := by omega
          have hk2 : k = 12 - i := by omega
          rw [he, hk2] at hv
          have hv2 := hout _ _ hv
          repeat' (first | (apply R.is1; first | (apply R.isBin; (apply R.pure; exact rfl; first | (apply Ok1.add64; exact rfl; exact rfl; omega; omega) | (apply Ok1.lss_f; exact rfl; exact rfl; omega))) | (apply R.pure; exact rfl; first | (apply Ok1.move; exact rfl) | (apply Ok1.assign; exact rfl))) | apply R.nil | (apply T.is; first | apply T.seq | apply T.region | apply T.exit | (apply T.cond_f; exact rfl)))
          exact ⟨(i + 1, z), ⟨by simp only; omega, hz, hd, hv2⟩, by simp only; omega, ⟨rfl, rfl, rfl, rfl, rfl, trivial⟩, by (focus ((repeat' (first | exact Keep.nil _ | exact Ext.one _ _ | apply Keep.cons)); done))⟩
    · have he : i = 12 := by omega
      subst he
      have hfin : u64n z0 = u64n (dig 12 (U * V)) := by
        have h1 := dig_val hd0
        rw [hz0] at h1
        rw [← h1, ← dig_mod 12 (val z0), hv0, Nat.mod_mul_mod, dig_mod]
      rw [← hfin]
      have hl : (u64n z0).length = 12 := by rw [u64n_len, hz0]
      have ho := u64n_one z0
      repeat' (first | (apply R.is1; first | (apply R.isBin; (apply R.pure; exact rfl; (apply Ok1.lss_f; exact rfl; exact rfl; omega))) | (apply R.pure; exact rfl; first | (apply Ok1.load; exact rfl; apply Ld.ownk; exact rfl; exact rfl; exact At.head; exact subE_all hl) | (apply Ok1.move; exact rfl))) | (apply R.is0; (apply R.store; (iterate 4 exact rfl); exact hl; exact ho; (focus ((repeat' (first | exact Upd.head | apply Upd.tail)); done)); exact setE_all hl)) | apply R.nil | (apply T.is; first | apply T.seq | apply T.region | apply T.exit | apply T.ret | (apply T.cond_f; exact rfl)))
      apply RetOk.c
      exact rfl
      apply Ld.ownk
      exact rfl
      exact rfl
      (focus ((repeat' (first | exact At.head | apply At.tail)); done))
      exact subE_all hl
      rfl
end Go.Proofs.YtligngjcnlbgmaaGreat
set_option linter.unusedSimpArgs false
set_option linter.unusedVariables false
namespace Go.Proofs.YtligngjcnlbgmaaGreat
open Go.RowKit Go.Shelf
set_option maxRecDepth 100000
theorem dig_shift (n v : Nat) : dig (n + 1) (65536 * v) = 0 :: dig n v := by
  simp only [dig]
  rw [Nat.mul_mod_right, Nat.mul_div_cancel_left v (by decide)]
theorem dig_zero (n : Nat) : dig n 0 = List.replicate n 0 := by
  induction n with
  | zero => rfl
  | succ n ih => simp [dig, ih, List.replicate_succ]
theorem dig_one (n p : Nat) (h : p < 65536) : dig (n + 1) p = p :: List.replicate n 0 := by
  simp only [dig]
  rw [Nat.mod_eq_of_lt h, Nat.div_eq_of_lt h, dig_zero]
theorem top4 (p : Nat) (h : p < 65536) : dig 12 (p * 65536 ^ 4) = [0, 0, 0, 0, p, 0, 0, 0, 0, 0, 0, 0] := by
  rw [show p * 65536 ^ 4 = 65536 * (65536 * (65536 * (65536 * p))) by omega, dig_shift, dig_shift, dig_shift, dig_shift, dig_one _ _ h]
  rfl
theorem top6 (p : Nat) (h : p < 65536) : dig 12 (p * 65536 ^ 6) = [0, 0, 0, 0, 0, 0, p, 0, 0, 0, 0, 0] := by
  rw [show p * 65536 ^ 6 = 65536 * (65536 * (65536 * (65536 * (65536 * (65536 * p))))) by omega, dig_shift, dig_shift, dig_shift, dig_shift, dig_shift, dig_shift, dig_one _ _ h]
  rfl
theorem cmp_step {X T i : Nat} (h : X / 65536 ^ (i + 1) = T / 65536 ^ (i + 1)) :
    (X / 65536 ^ i % 65536 = T / 65536 ^ i % 65536 → X / 65536 ^ i = T / 65536 ^ i) ∧ (X / 65536 ^ i % 65536 < T / 65536 ^ i % 65536 → X ≤ T) ∧ (T / 65536 ^ i % 65536 < X / 65536 ^ i % 65536 → ¬ X ≤ T) := by
  rw [Nat.pow_succ, ← Nat.div_div_eq_div_mul, ← Nat.div_div_eq_div_mul] at h
  have hm : ∀ {a b : Nat}, a / 65536 ^ i < b / 65536 ^ i → a < b := by
    intro a b hab
    apply Nat.lt_of_not_le
    intro hba
    have := Nat.div_le_div_right (c := 65536 ^ i) hba
    omega
  refine ⟨fun e => by omega, fun e => Nat.le_of_lt (hm (by omega)), fun e => Nat.not_le_of_lt (hm (by omega))⟩
theorem small_2 (y p X TT : Nat) (hy : y < 137438953472) (hp : p < 65536) (hX : X = y * y) (hT : TT = p * 65536 ^ 4) : CallP Tryz.prog 69 [.int .u64 y, .int .u64 2, .int .u64 p] (.bool (decide (X ≤ TT))) := by
  refine enterP (tb := tb) Tryz.func69 rfl Tryz.ntmps69 rfl fun w => ?_
  obtain ⟨D, hD⟩ : ∃ D : Nat → List Value, D = fun v => u64n (dig 12 v) := ⟨_, rfl⟩
  have hpa : CallP Tryz.prog 110 [.int .u64 y] (.agg ⟨D y⟩) := by rw [hD]; exact parts_ok y (by omega)
  have hti : ∀ a b, CallP Tryz.prog 111 [.agg ⟨D a⟩, .agg ⟨D b⟩] (.agg ⟨D (a * b)⟩) := by intro a b; rw [hD]; exact times_ok a b
  have hDl : ∀ v, (D v).length = 12 := by intro v; rw [hD]; simp only [u64n_len, dig_len]
  have hDo : ∀ v, (D v).all Value.oneCell' = true := by intro v; rw [hD]; exact u64n_one _
  have hDg : ∀ (v i : Nat), i < 12 → ∀ j : Int, j = (i : Int) → (D v)[0 + j.toNat * 1]? = some (.int .u64 (v / 65536 ^ i % 65536 : Nat)) := by
    intro v i hi j hj
    subst hj
    rw [hD, ← dig_get 12 v i hi, show 0 + (i : Int).toNat * 1 = i by omega]; exact u64n_get (by rw [dig_len]; exact hi)
  have ht4 : setE [.int .u64 0, .int .u64 0, .int .u64 0, .int .u64 0, .int .u64 0, .int .u64 0, .int .u64 0, .int .u64 0, .int .u64 0, .int .u64 0, .int .u64 0, .int .u64 0] 4 [.int .u64 (p : Int)] = some (D TT) := by
    rw [hD, hT]; simp only [top4 p hp]; rfl
  have hb1 : y * y < 137438953472 * 137438953472 := Nat.mul_lt_mul'' hy hy
  have hb2 : y * y * y < 137438953472 * 137438953472 * 137438953472 := Nat.mul_lt_mul'' hb1 hy
  have hXb : X < 65536 ^ 12 := by rw [hX]; omega
  have hTb : TT < 65536 ^ 12 := by rw [hT]; omega
  have hti1 := hti y y
  rw [← hX] at hti1
  clear hD hti hT hX hb1 hb2
  repeat' (first | (apply R.is1; first | (apply R.isCall; apply R.callP rfl rfl rfl hpa) | (apply R.pure; exact rfl; first | (apply Ok1.move; exact rfl) | (apply Ok1.assign; exact rfl)) | (apply R.alloc; (iterate 3 exact rfl); intro)) | (apply R.is0; (apply R.store; (iterate 4 exact rfl); exact hDl _; exact hDo _; exact Upd.head; exact setE_all (hDl _))) | apply R.nil | (apply T.is; first | apply T.seq | apply T.region | apply T.block))
  apply T.rounds 3
  repeat' (first | (apply R.is1; first | (apply R.isBin; (apply R.pure; exact rfl; first | (apply Ok1.mulU; exact rfl; exact rfl; omega; omega) | (apply Ok1.addU; exact rfl; exact rfl; omega; omega) | (apply Ok1.lss_t; exact rfl; exact rfl; omega) | (apply Ok1.lss_f; exact rfl; exact rfl; omega))) | (apply R.pure; exact rfl; first | (apply Ok1.move; exact rfl) | (apply Ok1.assign; exact rfl) | (apply Ok1.indexAddrA; (iterate 5 exact rfl); omega; omega) | (apply Ok1.buildA; (iterate 6 exact rfl))) | (apply R.alloc; (iterate 3 exact rfl); intro)) | (apply R.is0; first | (apply R.store; (iterate 6 exact rfl); exact Upd.head; exact ht4) | (apply R.store; (iterate 6 exact rfl); exact Upd.head; exact rfl)) | apply R.nil | (apply T.is; first | (apply T.drawC (id := 5) [] (by decide); ((apply A.take 1; exact rfl; exact rfl; kernel_rfl; kernel_rfl; kernel_rfl; (apply Ok1.move; exact rfl)) <;> (apply A.call 2; exact rfl; exact rfl; kernel_rfl; kernel_rfl; kernel_rfl; exact rfl; exact rfl; (exact fun w1 _ => hpa.w w1)) <;> (apply A.one 0; kernel_rfl; exact rfl; (((apply R.pure; exact rfl; (apply Ok1.load; exact rfl; apply Ld.ownk; exact rfl; exact rfl; exact At.head; exact subE_all (hDl _))))); apply R.nil; refine ⟨?_, ?_⟩; (focus ((repeat' (exact trivial))))) <;> (apply A.call 3; exact rfl; exact rfl; kernel_rfl; kernel_rfl; kernel_rfl; exact rfl; exact rfl; (exact fun w1 _ => hti1.w w1)) <;> (apply A.one 4; kernel_rfl; exact rfl; (((apply R.store; (iterate 4 exact rfl); exact hDl _; exact hDo _; exact Upd.head; exact setE_all ((hDl _).trans (hDl _).symm)))); apply R.nil; refine ⟨?_, ?_⟩; (focus ((repeat' (exact trivial))))) <;> (apply A.done; kernel_rfl))) | apply T.seq | apply T.region | apply T.block | apply T.skip | apply T.exit | (apply T.cond_t; exact rfl) | (apply T.cond_f; exact rfl)))
  rename_i bX bT
  have hb0 : X / 65536 ^ 12 = TT / 65536 ^ 12 := by rw [Nat.div_eq_of_lt hXb, Nat.div_eq_of_lt hTb]
  apply T.loopK (α := Nat) (I := fun m => m ≤ 12 ∧ X / 65536 ^ m = TT / 65536 ^ m) (σi := fun m => [(7, .pointer (some ⟨bX, 0, none⟩)), (9, .pointer (some ⟨bT, 0, none⟩)), (10, .int .i64 ((m : Int) - 1))])
    (Li := fun _ => [(bT, .cells ⟨D TT⟩ 205 (0, 0)), (bX, .cells ⟨D X⟩ 205 (0, 0))]) (μ := fun m => m) (i0 := 12)
  · exact ⟨Nat.le_refl _, hb0⟩
  · exact ⟨rfl, rfl, rfl, trivial⟩
  · (focus ((repeat' (first | exact Keep.nil _ | exact Ext.one _ _ | apply Keep.cons)); done))
  · rintro m ⟨hm, hq⟩
    cases m with
    | zero =>
      repeat' (first | (apply R.is1; first | (apply R.isBin; (apply R.pure; exact rfl; (apply Ok1.geq_f; exact rfl; exact rfl; omega))) | (apply R.pure; exact rfl; first | (apply Ok1.move; exact rfl) | (apply Ok1.assign; exact rfl))) | apply R.nil | (apply T.is; first | apply T.seq | apply T.region | apply T.exit | apply T.ret | (apply T.cond_f; exact rfl)))
      (apply RetOk.t; exact rfl)
      simp only [Nat.pow_zero, Nat.div_one] at hq
      rw [decide_eq_true (Nat.le_of_eq hq)]
    | succ i =>
      obtain ⟨h1, h2, h3⟩ := cmp_step hq
      have gx := hDg X i (by omega) (((i + 1 : Nat) : Int) - 1) (by omega)
      have gt := hDg TT i (by omega) (((i + 1 : Nat) : Int) - 1) (by omega)
      generalize X / 65536 ^ i % 65536 = xi at *
      generalize TT / 65536 ^ i % 65536 = ti at *
      rcases Nat.lt_trichotomy xi ti with hc | hc | hc
      · repeat' (first | (apply R.is1; first | (apply R.isBin; (apply R.pure; exact rfl; (apply Ok1.geq_t; exact rfl; exact rfl; omega))) | (apply R.pure; exact rfl; (apply Ok1.move; exact rfl))) | apply R.nil | (apply T.is; first | (apply T.drawC (id := 11) [0,1] (by decide); ((apply A.take 0; exact rfl; exact rfl; kernel_rfl; kernel_rfl; kernel_rfl; (apply Ok1.move; exact rfl)) <;> (apply A.take 1; exact rfl; exact rfl; kernel_rfl; kernel_rfl; kernel_rfl; (apply Ok1.indexAddrA; (iterate 5 exact rfl); omega; omega)) <;> (apply A.take 2; exact rfl; exact rfl; kernel_rfl; kernel_rfl; kernel_rfl; (apply Ok1.load; exact rfl; apply Ld.own1; exact rfl; exact rfl; (focus ((repeat' (first | exact At.head | apply At.tail)); done)); with_reducible (exact gx))) <;> (apply A.take 3; exact rfl; exact rfl; kernel_rfl; kernel_rfl; kernel_rfl; (apply Ok1.move; exact rfl)) <;> (apply A.take 4; exact rfl; exact rfl; kernel_rfl; kernel_rfl; kernel_rfl; (apply Ok1.indexAddrA; (iterate 5 exact rfl); omega; omega)) <;> (apply A.take 5; exact rfl; exact rfl; kernel_rfl; kernel_rfl; kernel_rfl; (apply Ok1.load; exact rfl; apply Ld.own1; exact rfl; exact rfl; exact At.head; with_reducible (exact gt))) <;> ((apply A.take 6; exact rfl; exact rfl; kernel_rfl; kernel_rfl; kernel_rfl; (apply Ok1.neq_t; exact rfl; exact rfl; omega))) <;> (apply A.done; kernel_rfl))) | (apply T.drawC (id := 12) [0,1] (by decide); ((apply A.take 0; exact rfl; exact rfl; kernel_rfl; kernel_rfl; kernel_rfl; (apply Ok1.move; exact rfl)) <;> (apply A.take 1; exact rfl; exact rfl; kernel_rfl; kernel_rfl; kernel_rfl; (apply Ok1.indexAddrA; (iterate 5 exact rfl); omega; omega)) <;> (apply A.take 2; exact rfl; exact rfl; kernel_rfl; kernel_rfl; kernel_rfl; (apply Ok1.load; exact rfl; apply Ld.own1; exact rfl; exact rfl; (focus ((repeat' (first | exact At.head | apply At.tail)); done)); with_reducible (exact gx))) <;> (apply A.take 3; exact rfl; exact rfl; kernel_rfl; kernel_rfl; kernel_rfl; (apply Ok1.move; exact rfl)) <;> (apply A.take 4; exact rfl; exact rfl; kernel_rfl; kernel_rfl; kernel_rfl; (apply Ok1.indexAddrA; (iterate 5 exact rfl); omega; omega)) <;> (apply A.take 5; exact rfl; exact rfl; kernel_rfl; kernel_rfl; kernel_rfl; (apply Ok1.load; exact rfl; apply Ld.own1; exact rfl; exact rfl; exact At.head; with_reducible (exact gt))) <;> ((apply A.take 6; exact rfl; exact rfl; kernel_rfl; kernel_rfl; kernel_rfl; (apply Ok1.lss_t; exact rfl; exact rfl; omega))) <;> (apply A.take 7; exact rfl; exact rfl; kernel_rfl; kernel_rfl; kernel_rfl; (apply Ok1.assign; exact rfl)) <;> (apply A.done; kernel_rfl))) | apply T.seq | apply T.region | apply T.block | apply T.skip | apply T.ret | (apply T.cond_t; exact rfl)))
        (apply RetOk.t; exact rfl)
        rw [decide_eq_true (h2 hc)]
      · repeat' (first | (apply R.is1; first | (apply R.isBin; (apply R.pure; exact rfl; first | (apply Ok1.sub64; exact rfl; exact rfl; omega; omega) | (apply Ok1.geq_t; exact rfl; exact rfl; omega))) | (apply R.pure; exact rfl; first | (apply Ok1.move; exact rfl) | (apply Ok1.assign; exact rfl))) | apply R.nil | (apply T.is; first | (apply T.drawC (id := 11) [0,1] (by decide); ((apply A.take 0; exact rfl; exact rfl; kernel_rfl; kernel_rfl; kernel_rfl; (apply Ok1.move; exact rfl)) <;> (apply A.take 1; exact rfl; exact rfl; kernel_rfl; kernel_rfl; kernel_rfl; (apply Ok1.indexAddrA; (iterate 5 exact rfl); omega; omega)) <;> (apply A.take 2; exact rfl; exact rfl; kernel_rfl; kernel_rfl; kernel_rfl; (apply Ok1.load; exact rfl; apply Ld.own1; exact rfl; exact rfl; (focus ((repeat' (first | exact At.head | apply At.tail)); done)); with_reducible (exact gx))) <;> (apply A.take 3; exact rfl; exact rfl; kernel_rfl; kernel_rfl; kernel_rfl; (apply Ok1.move; exact rfl)) <;> (apply A.take 4; exact rfl; exact rfl; kernel_rfl; kernel_rfl; kernel_rfl; (apply Ok1.indexAddrA; (iterate 5 exact rfl); omega; omega)) <;> (apply A.take 5; exact rfl; exact rfl; kernel_rfl; kernel_rfl; kernel_rfl; (apply Ok1.load; exact rfl; apply Ld.own1; exact rfl; exact rfl; exact At.head; with_reducible (exact gt))) <;> ((apply A.take 6; exact rfl; exact rfl; kernel_rfl; kernel_rfl; kernel_rfl; (apply Ok1.neq_f; exact rfl; exact rfl; omega))) <;> (apply A.done; kernel_rfl))) | apply T.seq | apply T.region | apply T.block | apply T.skip | (apply T.cond_t; exact rfl) | (apply T.cond_f; exact rfl)))
        refine ⟨i, ⟨by omega, h1 hc⟩, by omega, ⟨rfl, rfl, ?_, trivial⟩, by (focus ((repeat' (first | exact Keep.nil _ | exact Ext.one _ _ | apply Keep.cons)); done))⟩
        exact congrArg (fun z => some (Value.int .i64 z)) (by omega)
      · repeat' (first | (apply R.is1; first | (apply R.isBin; (apply R.pure; exact rfl; (apply Ok1.geq_t; exact rfl; exact rfl; omega))) | (apply R.pure; exact rfl; (apply Ok1.move; exact rfl))) | apply R.nil | (apply T.is; first | (apply T.drawC (id := 11) [0,1] (by decide); ((apply A.take 0; exact rfl; exact rfl; kernel_rfl; kernel_rfl; kernel_rfl; (apply Ok1.move; exact rfl)) <;> (apply A.take 1; exact rfl; exact rfl; kernel_rfl; kernel_rfl; kernel_rfl; (apply Ok1.indexAddrA; (iterate 5 exact rfl); omega; omega)) <;> (apply A.take 2; exact rfl; exact rfl; kernel_rfl; kernel_rfl; kernel_rfl; (apply Ok1.load; exact rfl; apply Ld.own1; exact rfl; exact rfl; (focus ((repeat' (first | exact At.head | apply At.tail)); done)); with_reducible (exact gx))) <;> (apply A.take 3; exact rfl; exact rfl; kernel_rfl; kernel_rfl; kernel_rfl; (apply Ok1.move; exact rfl)) <;> (apply A.take 4; exact rfl; exact rfl; kernel_rfl; kernel_rfl; kernel_rfl; (apply Ok1.indexAddrA; (iterate 5 exact rfl); omega; omega)) <;> (apply A.take 5; exact rfl; exact rfl; kernel_rfl; kernel_rfl; kernel_rfl; (apply Ok1.load; exact rfl; apply Ld.own1; exact rfl; exact rfl; exact At.head; with_reducible (exact gt))) <;> ((apply A.take 6; exact rfl; exact rfl; kernel_rfl; kernel_rfl; kernel_rfl; (apply Ok1.neq_t; exact rfl; exact rfl; omega))) <;> (apply A.done; kernel_rfl))) | (apply T.drawC (id := 12) [0,1] (by decide); ((apply A.take 0; exact rfl; exact rfl; kernel_rfl; kernel_rfl; kernel_rfl; (apply Ok1.move; exact rfl)) <;> (apply A.take 1; exact rfl; exact rfl; kernel_rfl; kernel_rfl; kernel_rfl; (apply Ok1.indexAddrA; (iterate 5 exact rfl); omega; omega)) <;> (apply A.take 2; exact rfl; exact rfl; kernel_rfl; kernel_rfl; kernel_rfl; (apply Ok1.load; exact rfl; apply Ld.own1; exact rfl; exact rfl; (focus ((repeat' (first | exact At.head | apply At.tail)); done)); with_reducible (exact gx))) <;> (apply A.take 3; exact rfl; exact rfl; kernel_rfl; kernel_rfl; kernel_rfl; (apply Ok1.move; exact rfl)) <;> (apply A.take 4; exact rfl; exact rfl; kernel_rfl; kernel_rfl; kernel_rfl; (apply Ok1.indexAddrA; (iterate 5 exact rfl); omega; omega)) <;> (apply A.take 5; exact rfl; exact rfl; kernel_rfl; kernel_rfl; kernel_rfl; (apply Ok1.load; exact rfl; apply Ld.own1; exact rfl; exact rfl; exact At.head; with_reducible (exact gt))) <;> ((apply A.take 6; exact rfl; exact rfl; kernel_rfl; kernel_rfl; kernel_rfl; (apply Ok1.lss_f; exact rfl; exact rfl; omega))) <;> (apply A.take 7; exact rfl; exact rfl; kernel_rfl; kernel_rfl; kernel_rfl; (apply Ok1.assign; exact rfl)) <;> (apply A.done; kernel_rfl))) | apply T.seq | apply T.region | apply T.block | apply T.skip | apply T.ret | (apply T.cond_t; exact rfl)))
        (apply RetOk.t; exact rfl)
        rw [decide_eq_false (h3 hc)]
theorem small_3 (y p X TT : Nat) (hy : y < 137438953472) (hp : p < 65536) (hX : X = y * y * y) (hT : TT = p * 65536 ^ 6) : CallP Tryz.prog 69 [.int .u64 y, .int .u64 3, .int .u64 p] (.bool (decide (X ≤ TT))) := by
  refine enterP (tb := tb) Tryz.func69 rfl Tryz.ntmps69 rfl fun w => ?_
  obtain ⟨D, hD⟩ : ∃ D : Nat → List Value, D = fun v => u64n (dig 12 v) := ⟨_, rfl⟩
  have hpa : CallP Tryz.prog 110 [.int .u64 y] (.agg ⟨D y⟩) := by rw [hD]; exact parts_ok y (by omega)
  have hti : ∀ a b, CallP Tryz.prog 111 [.agg ⟨D a⟩, .agg ⟨D b⟩] (.agg ⟨D (a * b)⟩) := by intro a b; rw [hD]; exact times_ok a b
  have hDl : ∀ v, (D v).length = 12 := by intro v; rw [hD]; simp only [u64n_len, dig_len]
  have hDo : ∀ v, (D v).all Value.oneCell' = true := by intro v; rw [hD]; exact u64n_one _
  have hDg : ∀ (v i : Nat), i < 12 → ∀ j : Int, j = (i : Int) → (D v)[0 + j.toNat * 1]? = some (.int .u64 (v / 65536 ^ i % 65536 : Nat)) := by
    intro v i hi j hj
    subst hj
    rw [hD, ← dig_get 12 v i hi, show 0 + (i : Int).toNat * 1 = i by omega]; exact u64n_get (by rw [dig_len]; exact hi)
  have ht6 : setE [.int .u64 0, .int .u64 0, .int .u64 0, .int .u64 0, .int .u64 0, .int .u64 0, .int .u64 0, .int .u64 0, .int .u64 0, .int .u64 0, .int .u64 0, .int .u64 0] 6 [.int .u64 (p : Int)] = some (D TT) := by
    rw [hD, hT]; simp only [top6 p hp]; rfl
  have hb1 : y * y < 137438953472 * 137438953472 := Nat.mul_lt_mul'' hy hy
  have hb2 : y * y * y < 137438953472 * 137438953472 * 137438953472 := Nat.mul_lt_mul'' hb1 hy
  have hXb : X < 65536 ^ 12 := by rw [hX]; omega
  have hTb : TT < 65536 ^ 12 := by rw [hT]; omega
  have hti1 := hti y y
  have hti2 := hti (y * y) y
  rw [← hX] at hti2
  generalize y * y = yy at *
  clear hD hti hT hX hb1 hb2
  repeat' (first | (apply R.is1; first | (apply R.isCall; apply R.callP rfl rfl rfl hpa) | (apply R.pure; exact rfl; first | (apply Ok1.move; exact rfl) | (apply Ok1.assign; exact rfl)) | (apply R.alloc; (iterate 3 exact rfl); intro)) | (apply R.is0; (apply R.store; (iterate 4 exact rfl); exact hDl _; exact hDo _; exact Upd.head; exact setE_all (hDl _))) | apply R.nil | (apply T.is; first | apply T.seq | apply T.region | apply T.block))
  apply T.rounds 3
  repeat' (first | (apply R.is1; first | (apply R.isBin; (apply R.pure; exact rfl; first | (apply Ok1.mulU; exact rfl; exact rfl; omega; omega) | (apply Ok1.addU; exact rfl; exact rfl; omega; omega) | (apply Ok1.lss_t; exact rfl; exact rfl; omega) | (apply Ok1.lss_f; exact rfl; exact rfl; omega))) | (apply R.pure; exact rfl; first | (apply Ok1.move; exact rfl) | (apply Ok1.assign; exact rfl) | (apply Ok1.indexAddrA; (iterate 5 exact rfl); omega; omega) | (apply Ok1.buildA; (iterate 6 exact rfl))) | (apply R.alloc; (iterate 3 exact rfl); intro)) | (apply R.is0; first | (apply R.store; (iterate 6 exact rfl); exact Upd.head; exact ht6) | (apply R.store; (iterate 6 exact rfl); exact Upd.head; exact rfl)) | apply R.nil | (apply T.is; first | (apply T.drawC (id := 5) [] (by decide); ((apply A.take 1; exact rfl; exact rfl; kernel_rfl; kernel_rfl; kernel_rfl; (apply Ok1.move; exact rfl)) <;> (apply A.call 2; exact rfl; exact rfl; kernel_rfl; kernel_rfl; kernel_rfl; exact rfl; exact rfl; (exact fun w1 _ => hpa.w w1)) <;> (apply A.one 0; kernel_rfl; exact rfl; (((apply R.pure; exact rfl; (apply Ok1.load; exact rfl; apply Ld.ownk; exact rfl; exact rfl; exact At.head; exact subE_all (hDl _))))); apply R.nil; refine ⟨?_, ?_⟩; (focus ((repeat' (exact trivial))))) <;> (apply A.call 3; exact rfl; exact rfl; kernel_rfl; kernel_rfl; kernel_rfl; exact rfl; exact rfl; first | (exact fun w1 _ => hti1.w w1) | (exact fun w1 _ => hti2.w w1)) <;> (apply A.one 4; kernel_rfl; exact rfl; (((apply R.store; (iterate 4 exact rfl); exact hDl _; exact hDo _; exact Upd.head; exact setE_all ((hDl _).trans (hDl _).symm)))); apply R.nil; refine ⟨?_, ?_⟩; (focus ((repeat' (exact trivial))))) <;> (apply A.done; kernel_rfl))) | apply T.seq | apply T.region | apply T.block | apply T.skip | apply T.exit | (apply T.cond_t; exact rfl) | (apply T.cond_f; exact rfl)))
  rename_i bX bT
  have hb0 : X / 65536 ^ 12 = TT / 65536 ^ 12 := by rw [Nat.div_eq_of_lt hXb, Nat.div_eq_of_lt hTb]
  apply T.loopK (α := Nat) (I := fun m => m ≤ 12 ∧ X / 65536 ^ m = TT / 65536 ^ m) (σi := fun m => [(7, .pointer (some ⟨bX, 0, none⟩)), (9, .pointer (some ⟨bT, 0, none⟩)), (10, .int .i64 ((m : Int) - 1))])
    (Li := fun _ => [(bT, .cells ⟨D TT⟩ 205 (0, 0)), (bX, .cells ⟨D X⟩ 205 (0, 0))]) (μ := fun m => m) (i0 := 12)
  · exact ⟨Nat.le_refl _, hb0⟩
  · exact ⟨rfl, rfl, rfl, trivial⟩
  · (focus ((repeat' (first | exact Keep.nil _ | exact Ext.one _ _ | apply Keep.cons)); done))
  · rintro m ⟨hm, hq⟩
    cases m with
    | zero =>
      repeat' (first | (apply R.is1; first | (apply R.isBin; (apply R.pure; exact rfl; (apply Ok1.geq_f; exact rfl; exact rfl; omega))) | (apply R.pure; exact rfl; first | (apply Ok1.move; exact rfl) | (apply Ok1.assign; exact rfl))) | apply R.nil | (apply T.is; first | apply T.seq | apply T.region | apply T.exit | apply T.ret | (apply T.cond_f; exact rfl)))
      (apply RetOk.t; exact rfl)
      simp only [Nat.pow_zero, Nat.div_one] at hq
      rw [decide_eq_true (Nat.le_of_eq hq)]
    | succ i =>
      obtain ⟨h1, h2, h3⟩ := cmp_step hq
      have gx := hDg X i (by omega) (((i + 1 : Nat) : Int) - 1) (by omega)
      have gt := hDg TT i (by omega) (((i + 1 : Nat) : Int) - 1) (by omega)
      generalize X / 65536 ^ i % 65536 = xi at *
      generalize TT / 65536 ^ i % 65536 = ti at *
      rcases Nat.lt_trichotomy xi ti with hc | hc | hc
      · repeat' (first | (apply R.is1; first | (apply R.isBin; (apply R.pure; exact rfl; (apply Ok1.geq_t; exact rfl; exact rfl; omega))) | (apply R.pure; exact rfl; (apply Ok1.move; exact rfl))) | apply R.nil | (apply T.is; first | (apply T.drawC (id := 11) [0,1] (by decide); ((apply A.take 0; exact rfl; exact rfl; kernel_rfl; kernel_rfl; kernel_rfl; (apply Ok1.move; exact rfl)) <;> (apply A.take 1; exact rfl; exact rfl; kernel_rfl; kernel_rfl; kernel_rfl; (apply Ok1.indexAddrA; (iterate 5 exact rfl); omega; omega)) <;> (apply A.take 2; exact rfl; exact rfl; kernel_rfl; kernel_rfl; kernel_rfl; (apply Ok1.load; exact rfl; apply Ld.own1; exact rfl; exact rfl; (focus ((repeat' (first | exact At.head | apply At.tail)); done)); with_reducible (exact gx))) <;> (apply A.take 3; exact rfl; exact rfl; kernel_rfl; kernel_rfl; kernel_rfl; (apply Ok1.move; exact rfl)) <;> (apply A.take 4; exact rfl; exact rfl; kernel_rfl; kernel_rfl; kernel_rfl; (apply Ok1.indexAddrA; (iterate 5 exact rfl); omega; omega)) <;> (apply A.take 5; exact rfl; exact rfl; kernel_rfl; kernel_rfl; kernel_rfl; (apply Ok1.load; exact rfl; apply Ld.own1; exact rfl; exact rfl; exact At.head; with_reducible (exact gt))) <;> ((apply A.take 6; exact rfl; exact rfl; kernel_rfl; kernel_rfl; kernel_rfl; (apply Ok1.neq_t; exact rfl; exact rfl; omega))) <;> (apply A.done; kernel_rfl))) | (apply T.drawC (id := 12) [0,1] (by decide); ((apply A.take 0; exact rfl; exact rfl; kernel_rfl; kernel_rfl; kernel_rfl; (apply Ok1.move; exact rfl)) <;> (apply A.take 1; exact rfl; exact rfl; kernel_rfl; kernel_rfl; kernel_rfl; (apply Ok1.indexAddrA; (iterate 5 exact rfl); omega; omega)) <;> (apply A.take 2; exact rfl; exact rfl; kernel_rfl; kernel_rfl; kernel_rfl; (apply Ok1.load; exact rfl; apply Ld.own1; exact rfl; exact rfl; (focus ((repeat' (first | exact At.head | apply At.tail)); done)); with_reducible (exact gx))) <;> (apply A.take 3; exact rfl; exact rfl; kernel_rfl; kernel_rfl; kernel_rfl; (apply Ok1.move; exact rfl)) <;> (apply A.take 4; exact rfl; exact rfl; kernel_rfl; kernel_rfl; kernel_rfl; (apply Ok1.indexAddrA; (iterate 5 exact rfl); omega; omega)) <;> (apply A.take 5; exact rfl; exact rfl; kernel_rfl; kernel_rfl; kernel_rfl; (apply Ok1.load; exact rfl; apply Ld.own1; exact rfl; exact rfl; exact At.head; with_reducible (exact gt))) <;> ((apply A.take 6; exact rfl; exact rfl; kernel_rfl; kernel_rfl; kernel_rfl; (apply Ok1.lss_t; exact rfl; exact rfl; omega))) <;> (apply A.take 7; exact rfl; exact rfl; kernel_rfl; kernel_rfl; kernel_rfl; (apply Ok1.assign; exact rfl)) <;> (apply A.done; kernel_rfl))) | apply T.seq | apply T.region | apply T.block | apply T.skip | apply T.ret | (apply T.cond_t; exact rfl)))
        (apply RetOk.t; exact rfl)
        rw [decide_eq_true (h2 hc)]
      · repeat' (first | (apply R.is1; first | (apply R.isBin; (apply R.pure; exact rfl; first | (apply Ok1.sub64; exact rfl; exact rfl; omega; omega) | (apply Ok1.geq_t; exact rfl; exact rfl; omega))) | (apply R.pure; exact rfl; first | (apply Ok1.move; exact rfl) | (apply Ok1.assign; exact rfl))) | apply R.nil | (apply T.is; first | (apply T.drawC (id := 11) [0,1] (by decide); ((apply A.take 0; exact rfl; exact rfl; kernel_rfl; kernel_rfl; kernel_rfl; (apply Ok1.move; exact rfl)) <;> (apply A.take 1; exact rfl; exact rfl; kernel_rfl; kernel_rfl; kernel_rfl; (apply Ok1.indexAddrA; (iterate 5 exact rfl); omega; omega)) <;> (apply A.take 2; exact rfl; exact rfl; kernel_rfl; kernel_rfl; kernel_rfl; (apply Ok1.load; exact rfl; apply Ld.own1; exact rfl; exact rfl; (focus ((repeat' (first | exact At.head | apply At.tail)); done)); with_reducible (exact gx))) <;> (apply A.take 3; exact rfl; exact rfl; kernel_rfl; kernel_rfl; kernel_rfl; (apply Ok1.move; exact rfl)) <;> (apply A.take 4; exact rfl; exact rfl; kernel_rfl; kernel_rfl; kernel_rfl; (apply Ok1.indexAddrA; (iterate 5 exact rfl); omega; omega)) <;> (apply A.take 5; exact rfl; exact rfl; kernel_rfl; kernel_rfl; kernel_rfl; (apply Ok1.load; exact rfl; apply Ld.own1; exact rfl; exact rfl; exact At.head; with_reducible (exact gt))) <;> ((apply A.take 6; exact rfl; exact rfl; kernel_rfl; kernel_rfl; kernel_rfl; (apply Ok1.neq_f; exact rfl; exact rfl; omega))) <;> (apply A.done; kernel_rfl))) | apply T.seq | apply T.region | apply T.block | apply T.skip | (apply T.cond_t; exact rfl) | (apply T.cond_f; exact rfl)))
        refine ⟨i, ⟨by omega, h1 hc⟩, by omega, ⟨rfl, rfl, ?_, trivial⟩, by (focus ((repeat' (first | exact Keep.nil _ | exact Ext.one _ _ | apply Keep.cons)); done))⟩
        exact congrArg (fun z => some (Value.int .i64 z)) (by omega)
      · repeat' (first | (apply R.is1; first | (apply R.isBin; (apply R.pure; exact rfl; (apply Ok1.geq_t; exact rfl; exact rfl; omega))) | (apply R.pure; exact rfl; (apply Ok1.move; exact rfl))) | apply R.nil | (apply T.is; first | (apply T.drawC (id := 11) [0,1] (by decide); ((apply A.take 0; exact rfl; exact rfl; kernel_rfl; kernel_rfl; kernel_rfl; (apply Ok1.move; exact rfl)) <;> (apply A.take 1; exact rfl; exact rfl; kernel_rfl; kernel_rfl; kernel_rfl; (apply Ok1.indexAddrA; (iterate 5 exact rfl); omega; omega)) <;> (apply A.take 2; exact rfl; exact rfl; kernel_rfl; kernel_rfl; kernel_rfl; (apply Ok1.load; exact rfl; apply Ld.own1; exact rfl; exact rfl; (focus ((repeat' (first | exact At.head | apply At.tail)); done)); with_reducible (exact gx))) <;> (apply A.take 3; exact rfl; exact rfl; kernel_rfl; kernel_rfl; kernel_rfl; (apply Ok1.move; exact rfl)) <;> (apply A.take 4; exact rfl; exact rfl; kernel_rfl; kernel_rfl; kernel_rfl; (apply Ok1.indexAddrA; (iterate 5 exact rfl); omega; omega)) <;> (apply A.take 5; exact rfl; exact rfl; kernel_rfl; kernel_rfl; kernel_rfl; (apply Ok1.load; exact rfl; apply Ld.own1; exact rfl; exact rfl; exact At.head; with_reducible (exact gt))) <;> ((apply A.take 6; exact rfl; exact rfl; kernel_rfl; kernel_rfl; kernel_rfl; (apply Ok1.neq_t; exact rfl; exact rfl; omega))) <;> (apply A.done; kernel_rfl))) | (apply T.drawC (id := 12) [0,1] (by decide); ((apply A.take 0; exact rfl; exact rfl; kernel_rfl; kernel_rfl; kernel_rfl; (apply Ok1.move; exact rfl)) <;> (apply A.take 1; exact rfl; exact rfl; kernel_rfl; kernel_rfl; kernel_rfl; (apply Ok1.indexAddrA; (iterate 5 exact rfl); omega; omega)) <;> (apply A.take 2; exact rfl; exact rfl; kernel_rfl; kernel_rfl; kernel_rfl; (apply Ok1.load; exact rfl; apply Ld.own1; exact rfl; exact rfl; (focus ((repeat' (first | exact At.head | apply At.tail)); done)); with_reducible (exact gx))) <;> (apply A.take 3; exact rfl; exact rfl; kernel_rfl; kernel_rfl; kernel_rfl; (apply Ok1.move; exact rfl)) <;> (apply A.take 4; exact rfl; exact rfl; kernel_rfl; kernel_rfl; kernel_rfl; (apply Ok1.indexAddrA; (iterate 5 exact rfl); omega; omega)) <;> (apply A.take 5; exact rfl; exact rfl; kernel_rfl; kernel_rfl; kernel_rfl; (apply Ok1.load; exact rfl; apply Ld.own1; exact rfl; exact rfl; exact At.head; with_reducible (exact gt))) <;> ((apply A.take 6; exact rfl; exact rfl; kernel_rfl; kernel_rfl; kernel_rfl; (apply Ok1.lss_f; exact rfl; exact rfl; omega))) <;> (apply A.take 7; exact rfl; exact rfl; kernel_rfl; kernel_rfl; kernel_rfl; (apply Ok1.assign; exact rfl)) <;> (apply A.done; kernel_rfl))) | apply T.seq | apply T.region | apply T.block | apply T.skip | apply T.ret | (apply T.cond_t; exact rfl)))
        (apply RetOk.t; exact rfl)
        rw [decide_eq_false (h3 hc)]
theorem small_ok (y n p : Nat) (hy : y < 137438953472) (hn : n = 2 ∨ n = 3) (hp : p < 65536) : CallP Tryz.prog 69 [.int .u64 y, .int .u64 n, .int .u64 p] (.bool (decide (y ^ n ≤ p * 65536 ^ (2 * n)))) := by
  rcases hn with rfl | rfl
  · exact small_2 y p (y ^ 2) _ hy hp (Nat.pow_two y) rfl
  · exact small_3 y p (y ^ 3) _ hy hp (by rw [Nat.pow_succ, Nat.pow_two]) rfl
end Go.Proofs.YtligngjcnlbgmaaGreat
set_option linter.unusedSimpArgs false
set_option linter.unusedVariables false
namespace Go.Proofs.YtligngjcnlbgmaaGreat
open Go.RowKit Go.Shelf
set_option maxRecDepth 100000
def rootI (p n : Nat) : Nat → Nat → Nat
  | 0, x => x
  | k + 1, x => if (x + 2 ^ k) ^ n ≤ p * 65536 ^ (2 * n) then rootI p n k (x + 2 ^ k) else rootI p n k x
def rootR (p n : Nat) : Nat := rootI p n 36 0 % 4294967296
theorem root_ok (p n : Nat) (hn : n = 2 ∨ n = 3) (hp : p < 65536) : CallP Tryz.prog 45 [.int .u64 p, .int .u64 n] (.int .u32 (rootR p n)) := by
  refine enterP (tb := tb) Tryz.func45 rfl Tryz.ntmps45 rfl fun w => ?_
  obtain ⟨V, hV⟩ : ∃ V, V = rootI p n 36 0 := ⟨_, rfl⟩
  have hVr : rootR p n = V % 4294967296 := by rw [hV]; rfl
  rw [hVr]
  repeat' (first | (apply R.is1; (apply R.pure; exact rfl; (apply Ok1.assign; exact rfl))) | apply R.nil | (apply T.is; first | apply T.seq | apply T.region | apply T.block))
  apply T.loopK (α := Nat × Nat) (I := fun x => x.1 ≤ 36 ∧ x.2 + 2 ^ x.1 ≤ 68719476736 ∧ rootI p n x.1 x.2 = V) (σi := fun x => [(0, .int .u64 p), (1, .int .u64 n), (5, .int .u64 x.2), (6, .int .i64 ((x.1 : Int) - 1))]) (Li := fun _ => []) (μ := fun x => x.1) (i0 := (36, 0))
  · exact ⟨by simp only; omega, by simp only; omega, hV.symm⟩
  · exact ⟨rfl, rfl, rfl, rfl, trivial⟩
  · (focus ((repeat' (exact Keep.nil _)); done))
  · rintro ⟨k, x⟩ ⟨hk, hb, hr⟩
    simp only at hk hb hr ⊢
    cases k with
    | zero =>
      have hx : x = V := hr
      subst hx
      rw [Nat.pow_zero] at hb
      repeat' (first | (apply R.is1; first | (apply R.isBin; (apply R.pure; exact rfl; first | (apply Ok1.geq_f; exact rfl; exact rfl; omega) | (apply Ok1.remN; exact rfl; exact rfl; omega; omega))) | (apply R.pure; exact rfl; first | (apply Ok1.convU32; (iterate 5 exact rfl); omega; omega) | (apply Ok1.move; exact rfl) | (apply Ok1.assign; exact rfl))) | apply R.nil | (apply T.is; first | apply T.seq | apply T.region | apply T.exit | apply T.ret | (apply T.cond_f; exact rfl)))
      (apply RetOk.t; exact rfl)
      rw [Int.natCast_emod]
      rfl
    | succ k =>
      have hpw : 2 ^ (k + 1) = 2 * 2 ^ k := by rw [Nat.pow_succ, Nat.mul_comm]
      have hr2 : rootI p n (k + 1) x = if (x + 2 ^ k) ^ n ≤ p * 65536 ^ (2 * n) then rootI p n k (x + 2 ^ k) else rootI p n k x := rfl
      rw [hr] at hr2
      rw [hpw] at hb
      have hpos : 0 < 2 ^ k := Nat.pow_pos (by decide)
      have hsm := small_ok (x + 2 ^ k) n p (by omega) hn hp
      have hkn : (((k + 1 : Nat) : Int) - 1).toNat = k := by omega
      have hk0 : 0 ≤ ((k + 1 : Nat) : Int) - 1 := by omega
      have hk64 : (((k + 1 : Nat) : Int) - 1).toNat ≤ IntKind.u64.bits := by rw [hkn]; show k ≤ 64; omega
      have hpk : pw (((k + 1 : Nat) : Int) - 1).toNat = ((2 ^ k : Nat) : Int) := by rw [hkn, pw_eq, Int.natCast_pow]; rfl
      have hI : ∀ x', x' + 2 * 2 ^ k ≤ 68719476736 + 2 ^ k → x' + 2 ^ k ≤ 68719476736 := fun x' h => by omega
      have hx0 : x + 2 ^ k ≤ 68719476736 := by omega
      have hx1 : x + 2 ^ k + 2 ^ k ≤ 68719476736 := by omega
      have hnxt : ((k + 1 : Nat) : Int) - 1 - 1 = (k : Int) - 1 := by omega
      generalize hq : 2 ^ k = q at *
      have hwr : IntKind.u64.wrap (1 * (q : Int)) = (q : Int) := by rw [Int.one_mul]; exact wrap_u64 (by omega) (by omega)
      have hsum : (x : Int) + (q : Int) = ((x + q : Nat) : Int) := by omega
      rw [← hsum] at hsm
      by_cases hle : (x + q) ^ n ≤ p * 65536 ^ (2 * n)
      · rw [if_pos hle] at hr2
        rw [decide_eq_true hle] at hsm
        repeat' (first | (apply R.is1; first | (apply R.isBin; (apply R.pure; exact rfl; first | (apply Ok1.shlE; exact rfl; exact rfl; exact hk0; exact hk64; exact hpk; exact hwr) | (apply Ok1.addU; exact rfl; exact rfl; omega; omega) | (apply Ok1.sub64; exact rfl; exact rfl; omega; omega) | (apply Ok1.geq_t; exact rfl; exact rfl; omega))) | (apply R.isCall; apply R.callP rfl rfl rfl hsm) | (apply R.pure; exact rfl; first | (apply Ok1.move; exact rfl) | (apply Ok1.assign; exact rfl))) | apply R.nil | (apply T.is; first | apply T.seq | apply T.region | apply T.block | apply T.skip | (apply T.cond_t; exact rfl)))
        exact ⟨(k, x + q), ⟨by simp only; omega, by simp only [hq]; exact hx1, hr2.symm⟩, by simp only; omega, ⟨rfl, rfl, congrArg (fun z => some (Value.int .u64 z)) hsum, congrArg (fun z => some (Value.int .i64 z)) hnxt, trivial⟩, by (focus ((repeat' (exact Keep.nil _)); done))⟩
      · rw [if_neg hle] at hr2
        rw [decide_eq_false hle] at hsm
        repeat' (first | (apply R.is1; first | (apply R.isBin; (apply R.pure; exact rfl; first | (apply Ok1.shlE; exact rfl; exact rfl; exact hk0; exact hk64; exact hpk; exact hwr) | (apply Ok1.addU; exact rfl; exact rfl; omega; omega) | (apply Ok1.sub64; exact rfl; exact rfl; omega; omega) | (apply Ok1.geq_t; exact rfl; exact rfl; omega))) | (apply R.isCall; apply R.callP rfl rfl rfl hsm) | (apply R.pure; exact rfl; first | (apply Ok1.move; exact rfl) | (apply Ok1.assign; exact rfl))) | apply R.nil | (apply T.is; first | apply T.seq | apply T.region | apply T.block | apply T.skip | (apply T.cond_t; exact rfl) | (apply T.cond_f; exact rfl)))
        exact ⟨(k, x), ⟨by simp only; omega, by simp only [hq]; exact hx0, hr2.symm⟩, by simp only; omega, ⟨rfl, rfl, rfl, congrArg (fun z => some (Value.int .i64 z)) hnxt, trivial⟩, by (focus ((repeat' (exact Keep.nil _)); done))⟩
end Go.Proofs.YtligngjcnlbgmaaGreat
set_option linter.unusedSimpArgs false
set_option linter.unusedVariables false
namespace Go.Proofs.YtligngjcnlbgmaaGreat
open Go.RowKit Go.Shelf
set_option maxRecDepth 100000
def pl (p : Nat) : Nat → Nat → Bool → Bool
  | 0, _, b => b
  | f + 1, q, b => if q * q ≤ p then pl p f (q + 1) (b && !decide (p % q = 0)) else b
def isP (p : Nat) : Bool := pl p 18 2 true
def PL : List Nat := [2, 3, 5, 7, 11, 13, 17, 19, 23, 29, 31, 37, 41, 43, 47, 53, 59, 61, 67, 71, 73, 79, 83, 89, 97, 101, 103, 107, 109, 113, 127, 131, 137, 139, 149, 151, 157, 163, 167, 173, 179, 181, 191, 193, 197, 199, 211, 223, 227, 229, 233, 239, 241, 251, 257, 263, 269, 271, 277, 281, 283, 293, 307, 311]
def Fp (p : Nat) : List Nat := PL.filter fun x => Nat.blt x p
theorem Fp_step : ∀ p, p < 312 → 2 ≤ p → Fp (p + 1) = (if isP p then Fp p ++ [p] else Fp p) ∧ (Fp p).length < 64 := by decide +kernel
theorem Fp_end : Fp 312 = PL := by decide +kernel
theorem roots3 : PL.map (fun p => ((rootR p 3 : Nat) : Int)) = kI := by decide +kernel
theorem roots2 : (PL.take 8).map (fun p => ((rootR p 2 : Nat) : Int)) = h0I.l := by decide +kernel
def zs (n : Nat) : List Value := List.replicate n (.int .u32 0)
def tbC (l : List Nat) : List Value := u32s (l.map fun p => ((rootR p 3 : Nat) : Int)) ++ (zs (64 - l.length) ++ (u32s ((l.take 8).map fun p => ((rootR p 2 : Nat) : Int)) ++ zs (8 - l.length)))
theorem tbC_end : tbC PL = tabV := by
  unfold tbC
  rw [roots3, roots2]
  rfl
theorem put_mid {o : List Value} {n k i : Nat} {x z : Value} {r : List Value} (hl : o.length = n) (hi : i = n) : setE (o ++ (List.replicate (k + 1) z ++ r)) i [x] = some (o ++ [x] ++ (List.replicate k z ++ r)) := by
  subst hl hi
  rw [setE_mid o (by simp; omega)]
  simp [List.replicate_succ]
theorem tb_put {l : List Nat} {p : Nat} (h : l.length < 64) (h8 : ¬ l.length < 8) : setE (tbC l) l.length [.int .u32 ((rootR p 3 : Nat) : Int)] = some (tbC (l ++ [p])) := by
  unfold tbC zs
  obtain ⟨k, hk⟩ : ∃ k, 64 - l.length = k + 1 := ⟨63 - l.length, by omega⟩
  rw [hk, put_mid (by rw [u32s_len, List.length_map]) rfl, List.map_append, u32s_app, List.length_append, List.length_singleton, show 64 - (l.length + 1) = k by omega, List.take_append_of_le_length (by omega), show 8 - (l.length + 1) = 8 - l.length by omega]
  rfl
def tbM (l : List Nat) (p : Nat) : List Value := u32s ((l ++ [p]).map fun p => ((rootR p 3 : Nat) : Int)) ++ (zs (64 - (l.length + 1)) ++ (u32s ((l.take 8).map fun p => ((rootR p 2 : Nat) : Int)) ++ zs (8 - l.length)))
theorem tb_put1 {l : List Nat} {p : Nat} (h : l.length < 8) : setE (tbC l) l.length [.int .u32 ((rootR p 3 : Nat) : Int)] = some (tbM l p) := by
  unfold tbC tbM zs
  obtain ⟨k, hk⟩ : ∃ k, 64 - l.length = k + 1 := ⟨63 - l.length, by omega⟩
  rw [hk, put_mid (by rw [u32s_len, List.length_map]) rfl, List.map_append, u32s_app, show 64 - (l.length + 1) = k by omega]
  rfl
theorem tb_put2 {l : List Nat} {p : Nat} (h : l.length < 8) : setE (tbM l p) (64 + l.length) [.int .u32 ((rootR p 2 : Nat) : Int)] = some (tbC (l ++ [p])) := by
  unfold tbC tbM zs
  obtain ⟨k, hk⟩ : ∃ k, 8 - l.length = k + 1 := ⟨7 - l.length, by omega⟩
  rw [hk, ← List.append_assoc, ← List.append_assoc]
  have h1 := put_mid (k := k) (z := .int .u32 0) (x := .int .u32 ((rootR p 2 : Nat) : Int)) (r := []) (i := 64 + l.length) (n := 64 + l.length) (o := u32s ((l ++ [p]).map fun p => ((rootR p 3 : Nat) : Int)) ++ List.replicate (64 - (l.length + 1)) (.int .u32 0) ++ u32s ((l.take 8).map fun p => ((rootR p 2 : Nat) : Int))) (by
    simp only [List.length_append, u32s_len, List.length_map, List.length_replicate, List.length_take, List.length_singleton]; omega) rfl
  rw [List.append_nil, List.append_nil] at h1
  rw [h1, List.length_append, List.length_singleton, List.take_of_length_le (by omega : l.length ≤ 8), List.take_of_length_le (by rw [List.length_append, List.length_singleton]; omega), List.map_append (f := fun p => ((rootR p 2 : Nat) : Int)), u32s_app (List.map (fun p => ((rootR p 2 : Nat) : Int)) l), show 8 - (l.length + 1) = k by omega]
  simp only [List.append_assoc]
  rfl
theorem tb_len {l : List Nat} (h : l.length ≤ 64) : (tbC l).length = 72 := by
  unfold tbC zs
  simp only [List.length_append, u32s_len, List.length_map, List.length_replicate, List.length_take]; omega
theorem tb_one (l : List Nat) : (tbC l).all Value.oneCell' = true := by
  have hz : ∀ n, (zs n).all Value.oneCell' = true := by intro n; rw [List.all_eq_true]; intro x hx; rw [List.eq_of_mem_replicate hx]; rfl
  unfold tbC
  simp only [List.all_append, u32s_one, hz, Bool.and_true]
theorem vmake_ok : CallP Tryz.prog 8 [] (.agg ⟨tabV⟩) := by
  refine enterP (tb := tb) Tryz.func8 rfl Tryz.ntmps8 rfl fun w => ?_
  repeat' (first | (apply R.is1; first | (apply R.pure; exact rfl; first | (apply Ok1.assign; exact rfl) | (apply Ok1.build; (iterate 5 exact rfl))) | (apply R.alloc; (iterate 3 exact rfl); intro)) | (apply R.is0; (apply R.store; (iterate 6 exact rfl); exact Upd.head; exact rfl)) | apply R.nil | (apply T.is; first | apply T.seq | apply T.region | apply T.block))
  rename_i bR bT
  apply T.loopK (α := Nat) (I := fun p => 2 ≤ p ∧ p ≤ 312) (σi := fun p => [(0, .pointer (some ⟨bR, 0, none⟩)), (1, .pointer (some ⟨bT, 0, none⟩)), (2, .int .i64 ((Fp p).length : Nat)), (3, .int .u64 p)])
    (Li := fun p => [(bT, .cells ⟨tbC (Fp p)⟩ 34 (0, 0)), (bR, .cells ⟨List.replicate 72 (.int .u32 0)⟩ 34 (0, 0))]) (μ := fun p => 312 - p) (i0 := 2)
  · exact ⟨by decide, by decide⟩
  · exact ⟨rfl, rfl, rfl, rfl, trivial⟩
  · (focus ((repeat' (first | exact Keep.nil _ | exact Ext.one _ _ | apply Keep.cons)); done))
  · rintro p ⟨h2, h3⟩
    rcases Nat.lt_or_ge p 312 with hlt | hge
    · obtain ⟨hst, h64⟩ := Fp_step p hlt h2
      have hr3 := root_ok p 3 (.inr rfl) (by omega)
      have hr2 := root_ok p 2 (.inl rfl) (by omega)
      generalize Fp p = l at *
      repeat' (first | (apply R.is1; first | (apply R.isBin; (apply R.pure; exact rfl; (apply Ok1.lss_t; exact rfl; exact rfl; omega))) | (apply R.pure; exact rfl; first | (apply Ok1.move; exact rfl) | (apply Ok1.assign; exact rfl))) | apply R.nil | (apply T.is; first | apply T.seq | apply T.region | apply T.block | apply T.skip | (apply T.cond_t; exact rfl)))
      apply T.loopK (α := Nat × Bool) (I := fun x => 2 ≤ x.1 ∧ x.1 ≤ 20 ∧ pl p (20 - x.1) x.1 x.2 = isP p) (σi := fun x => [(0, .pointer (some ⟨bR, 0, none⟩)), (1, .pointer (some ⟨bT, 0, none⟩)), (2, .int .i64 (l.length : Nat)), (3, .int .u64 p), (4, .bool x.2), (5, .int .u64 x.1)])
        (Li := fun _ => [(bT, .cells ⟨tbC l⟩ 34 (0, 0)), (bR, .cells ⟨List.replicate 72 (.int .u32 0)⟩ 34 (0, 0))]) (μ := fun x => 20 - x.1) (i0 := (2, true))
      · exact ⟨by decide, by decide, rfl⟩
      · exact ⟨rfl, rfl, rfl, rfl, rfl, rfl, trivial⟩
      · (focus ((repeat' (first | exact Keep.nil _ | exact Ext.one _ _ | apply Keep.cons)); done))
      · rintro ⟨q, b⟩ ⟨hq2, hq20, hpl⟩
        simp only at hq2 hq20 hpl ⊢
        have hqq : ((q * q : Nat) : Int) = (q : Int) * (q : Int) := by rw [Int.natCast_mul]
        have hqb : q * q ≤ 20 * 20 := Nat.mul_le_mul hq20 hq20
        have hpq : ((p % q : Nat) : Int) = (p : Int) % (q : Int) := Int.natCast_emod p q
        rcases Nat.lt_or_ge p (q * q) with hgt | hle
        · have hb : b = isP p := by
            rw [← hpl]
            cases hf : 20 - q with
            | zero => rfl
            | succ f => simp only [pl]; rw [if_neg (by omega)]
          rw [← hb] at hst
          cases b with
          | false =>
            repeat' (first | (apply R.is1; first | (apply R.isBin; (apply R.pure; exact rfl; first | (apply Ok1.mulU; exact rfl; exact rfl; omega; omega) | (apply Ok1.addU; exact rfl; exact rfl; omega; omega) | (apply Ok1.leq_f; exact rfl; exact rfl; omega))) | (apply R.pure; exact rfl; first | (apply Ok1.move; exact rfl) | (apply Ok1.assign; exact rfl) | (apply Ok1.not_f; exact rfl))) | apply R.nil | (apply T.is; first | apply T.seq | apply T.region | apply T.exit | (apply T.cond_t; exact rfl) | (apply T.cond_f; exact rfl)))
            refine ⟨p + 1, ⟨by omega, by omega⟩, by omega, ⟨rfl, rfl, ?_, rfl, trivial⟩, ?_⟩
            · rw [hst]; rfl
            · rw [hst]; (focus ((repeat' (first | exact Keep.nil _ | exact Ext.one _ _ | apply Keep.cons)); done))
          | true =>
            have hst2 : Fp (p + 1) = l ++ [p] := hst
            have hn1 : ((l.length : Nat) : Int) + 1 = (((l ++ [p]).length : Nat) : Int) := by simp
            have ho1 : (0 + 0) + ((l.length : Nat) : Int).toNat * 1 = l.length := by omega
            have ho2 : (0 + 64) + ((l.length : Nat) : Int).toNat * 1 = 64 + l.length := by omega
            by_cases h8 : l.length < 8
            · have hp1 := tb_put1 (p := p) h8
              have hp2 := tb_put2 (p := p) h8
              rw [← ho1] at hp1
              rw [← ho2] at hp2
              repeat' (first | (apply R.is1; first | (apply R.isBin; (apply R.pure; exact rfl; first | (apply Ok1.mulU; exact rfl; exact rfl; omega; omega) | (apply Ok1.addU; exact rfl; exact rfl; omega; omega) | (apply Ok1.add64; exact rfl; exact rfl; omega; omega) | (apply Ok1.lss_t; exact rfl; exact rfl; omega) | (apply Ok1.leq_f; exact rfl; exact rfl; omega))) | (apply R.isCall; first | apply R.callP rfl rfl rfl hr3 | apply R.callP rfl rfl rfl hr2) | (apply R.pure; exact rfl; first | (apply Ok1.move; exact rfl) | (apply Ok1.fieldAddr; (iterate 5 exact rfl)) | (apply Ok1.assign; exact rfl) | (apply Ok1.indexAddrA; (iterate 5 exact rfl); omega; omega) | (apply Ok1.not_t; exact rfl))) | (apply R.is0; (apply R.store; (iterate 6 exact rfl); exact Upd.head; first | exact hp1 | exact hp2)) | apply R.nil | (apply T.is; first | apply T.seq | apply T.region | apply T.skip | apply T.exit | (apply T.cond_t; exact rfl) | (apply T.cond_f; exact rfl)))
              refine ⟨p + 1, ⟨by omega, by omega⟩, by omega, ⟨rfl, rfl, ?_, rfl, trivial⟩, ?_⟩
              · rw [hst2]; exact congrArg (fun z => some (Value.int .i64 z)) hn1
              · rw [hst2]; (focus ((repeat' (first | exact Keep.nil _ | exact Ext.one _ _ | apply Keep.cons)); done))
            · have hp1 := tb_put (p := p) h64 h8
              rw [← ho1] at hp1
              repeat' (first | (apply R.is1; first | (apply R.isBin; (apply R.pure; exact rfl; first | (apply Ok1.mulU; exact rfl; exact rfl; omega; omega) | (apply Ok1.addU; exact rfl; exact rfl; omega; omega) | (apply Ok1.add64; exact rfl; exact rfl; omega; omega) | (apply Ok1.lss_f; exact rfl; exact rfl; omega) | (apply Ok1.leq_f; exact rfl; exact rfl; omega))) | (apply R.isCall; apply R.callP rfl rfl rfl hr3) | (apply R.pure; exact rfl; first | (apply Ok1.move; exact rfl) | (apply Ok1.fieldAddr; (iterate 5 exact rfl)) | (apply Ok1.assign; exact rfl) | (apply Ok1.indexAddrA; (iterate 5 exact rfl); omega; omega) | (apply Ok1.not_t; exact rfl))) | (apply R.is0; (apply R.store; (iterate 6 exact rfl); exact Upd.head; exact hp1)) | apply R.nil | (apply T.is; first | apply T.seq | apply T.region | apply T.skip | apply T.exit | (apply T.cond_f; exact rfl)))
              refine ⟨p + 1, ⟨by omega, by omega⟩, by omega, ⟨rfl, rfl, ?_, rfl, trivial⟩, ?_⟩
              · rw [hst2]; exact congrArg (fun z => some (Value.int .i64 z)) hn1
              · rw [hst2]; (focus ((repeat' (first | exact Keep.nil _ | exact Ext.one _ _ | apply Keep.cons)); done))
        · have hq19 : q < 20 := by
            rcases Nat.lt_or_ge q 20 with h | h
            · exact h
            · have : q = 20 := by omega
              subst this; omega
          have hpl2 : pl p (20 - (q + 1)) (q + 1) (b && !decide (p % q = 0)) = isP p := by
            rw [← hpl, show 20 - q = (20 - (q + 1)) + 1 by omega]
            simp only [pl]
            rw [if_pos hle]
          cases b with
          | false =>
            repeat' (first | (apply R.is1; first | (apply R.isBin; (apply R.pure; exact rfl; first | (apply Ok1.mulU; exact rfl; exact rfl; omega; omega) | (apply Ok1.addU; exact rfl; exact rfl; omega; omega) | (apply Ok1.leq_t; exact rfl; exact rfl; omega))) | (apply R.pure; exact rfl; first | (apply Ok1.move; exact rfl) | (apply Ok1.assign; exact rfl) | (apply Ok1.pick_f; exact rfl; exact rfl))) | (apply R.isG; (apply R.guard_not; (iterate 3 exact rfl))) | apply R.nil | (apply T.is; first | apply T.seq | apply T.region | apply T.block | apply T.skip | (apply T.cond_t; exact rfl)))
            exact ⟨(q + 1, false), ⟨by simp only; omega, by simp only; omega, hpl2⟩, by simp only; omega, ⟨rfl, rfl, rfl, rfl, rfl, rfl, trivial⟩, by (focus ((repeat' (first | exact Keep.nil _ | exact Ext.one _ _ | apply Keep.cons)); done))⟩
          | true =>
            by_cases hz : p % q = 0
            · rw [decide_eq_true hz] at hpl2
              have hz2 : (p : Int) % (q : Int) = 0 := by omega
              repeat' (first | (apply R.is1; first | (apply R.isBin; (apply R.pure; exact rfl; first | (apply Ok1.mulU; exact rfl; exact rfl; omega; omega) | (apply Ok1.addU; exact rfl; exact rfl; omega; omega) | (apply Ok1.leq_t; exact rfl; exact rfl; omega) | (apply Ok1.neq_f; exact rfl; exact rfl; omega) | (apply Ok1.remN; exact rfl; exact rfl; omega; omega))) | (apply R.pure; exact rfl; first | (apply Ok1.move; exact rfl) | (apply Ok1.assign; exact rfl) | (apply Ok1.pick_t; exact rfl; exact rfl))) | (apply R.isG; (apply R.guard_run; exact rfl; exact rfl)) | apply R.nil | (apply T.is; first | apply T.seq | apply T.region | apply T.block | apply T.skip | (apply T.cond_t; exact rfl)))
              exact ⟨(q + 1, false), ⟨by simp only; omega, by simp only; omega, hpl2⟩, by simp only; omega, ⟨rfl, rfl, rfl, rfl, rfl, rfl, trivial⟩, by (focus ((repeat' (first | exact Keep.nil _ | exact Ext.one _ _ | apply Keep.cons)); done))⟩
            · rw [decide_eq_false hz] at hpl2
              have hz2 : (p : Int) % (q : Int) ≠ 0 := by omega
              repeat' (first | (apply R.is1; first | (apply R.isBin; (apply R.pure; exact rfl; first | (apply Ok1.mulU; exact rfl; exact rfl; omega; omega) | (apply Ok1.addU; exact rfl; exact rfl; omega; omega) | (apply Ok1.leq_t; exact rfl; exact rfl; omega) | (apply Ok1.neq_t; exact rfl; exact rfl; omega) | (apply Ok1.remN; exact rfl; exact rfl; omega; omega))) | (apply R.pure; exact rfl; first | (apply Ok1.move; exact rfl) | (apply Ok1.assign; exact rfl) | (apply Ok1.pick_t; exact rfl; exact rfl))) | (apply R.isG; (apply R.guard_run; exact rfl; exact rfl)) | apply R.nil | (apply T.is; first | apply T.seq | apply T.region | apply T.block | apply T.skip | (apply T.cond_t; exact rfl)))
              exact ⟨(q + 1, true), ⟨by simp only; omega, by simp only; omega, hpl2⟩, by simp only; omega, ⟨rfl, rfl, rfl, rfl, rfl, rfl, trivial⟩, by (focus ((repeat' (first | exact Keep.nil _ | exact Ext.one _ _ | apply Keep.cons)); done))⟩
    · have he : p = 312 := by omega
      subst he
      have hl : (tbC PL).length = 72 := tb_len (by decide)
      have ho := tb_one PL
      have h64 : (Fp 312).length = 64 := by rw [Fp_end]; rfl
      rw [h64, Fp_end]
      have hend := tbC_end
      generalize tbC PL = tv at *
      repeat' (first | (apply R.is1; first | (apply R.isBin; (apply R.pure; exact rfl; (apply Ok1.lss_f; exact rfl; exact rfl; omega))) | (apply R.pure; exact rfl; first | (apply Ok1.load; exact rfl; apply Ld.ownk; exact rfl; exact rfl; exact At.head; exact subE_all hl) | (apply Ok1.move; exact rfl))) | (apply R.is0; (apply R.store; (iterate 4 exact rfl); exact hl; exact ho; (focus ((repeat' (first | exact Upd.head | apply Upd.tail)); done)); exact setE_all hl)) | apply R.nil | (apply T.is; first | apply T.seq | apply T.region | apply T.exit | apply T.ret | (apply T.cond_f; exact rfl)))
      apply RetOk.c
      exact rfl
      apply Ld.ownk
      exact rfl
      exact rfl
      (focus ((repeat' (first | exact At.head | apply At.tail)); done))
      exact subE_all hl
      rw [hend]
end Go.Proofs.YtligngjcnlbgmaaGreat
set_option linter.unusedSimpArgs false
set_option linter.unusedVariables false
namespace Go.Proofs.YtligngjcnlbgmaaGreat
open Go.RowKit Go.Shelf
set_option maxRecDepth 100000
theorem sealed26_ok (o r v : Int) (p : Option Addr) (n cap : Nat) (xs : List Int) (hn : n = xs.length) (hcap : n ≤ cap) (w : World) (hp : RdSl w p u8V xs) : CallM Tryz.prog 17 [.agg ⟨ntC o r v p n cap⟩] [] w fun x L => ∃ ov, OvOk 1 ov (xs.take 110).length (u8s (xs.take 110)) ∧ x = .agg ⟨ntC o r v (ovp ov) (xs.take 110).length (ovc ov (xs.take 110).length)⟩ ∧ L = blkL 5 ov (u8s (xs.take 110)) := by
  have hc := fun w1 (h : Chg [] w w1) => cut26_ok p n cap xs hn hcap 110 (by decide) w1 (hp.chg' h (fun _ => Off.nil _))
  generalize xs.take 110 = ys at *
  refine enterK (tb := tb) Tryz.func17 rfl Tryz.ntmps17 rfl ?_
  simp only [ntC]
  repeat' (first | (apply R.is1; first | (apply R.box; (iterate 3 exact rfl); intro) | (apply R.alloc; (iterate 3 exact rfl); intro)) | apply R.nil | (apply T.is; first | (apply T.drawC (id := 1) [1] (by decide); ((apply A.take 0; exact rfl; exact rfl; kernel_rfl; kernel_rfl; kernel_rfl; (apply Ok1.fieldAddr; (iterate 5 exact rfl))) <;> (apply A.take 1; exact rfl; exact rfl; kernel_rfl; kernel_rfl; kernel_rfl; (apply Ok1.load; exact rfl; (apply Ld.own1; exact rfl; exact rfl; exact At.head; exact rfl))) <;> (apply A.take 2; exact rfl; exact rfl; kernel_rfl; kernel_rfl; kernel_rfl; (apply Ok1.fieldAddr; (iterate 5 exact rfl))) <;> (apply A.take 3; exact rfl; exact rfl; kernel_rfl; kernel_rfl; kernel_rfl; (apply Ok1.load; exact rfl; (apply Ld.own1; exact rfl; exact rfl; exact At.head; exact rfl))) <;> (apply A.take 4; exact rfl; exact rfl; kernel_rfl; kernel_rfl; kernel_rfl; (apply Ok1.fieldAddr; (iterate 5 exact rfl))) <;> (apply A.take 5; exact rfl; exact rfl; kernel_rfl; kernel_rfl; kernel_rfl; (apply Ok1.load; exact rfl; (apply Ld.own1; exact rfl; exact rfl; exact At.head; exact rfl))) <;> (apply A.take 6; exact rfl; exact rfl; kernel_rfl; kernel_rfl; kernel_rfl; (apply Ok1.fieldAddr; (iterate 5 exact rfl))) <;> (apply A.take 7; exact rfl; exact rfl; kernel_rfl; kernel_rfl; kernel_rfl; (apply Ok1.load; exact rfl; (apply Ld.own1; exact rfl; exact rfl; exact At.head; exact rfl))) <;> (apply A.one 8; kernel_rfl; exact rfl; (((apply R.callE (vs := [.slice p n cap, .int .i64 110]); (iterate 3 exact rfl); exact Ext.none _; intro w1 hw1; exact hc w1 hw1.chg; rintro v Lo ⟨ov1, hov1, rfl, rfl⟩; rw [slV_eq hov1]))); apply R.nil; refine ⟨?_, ?_⟩; (focus ((repeat' (first | exact trivial | (refine ⟨?_, ?_⟩; (focus ((repeat' (first | exact At.head | apply At.tail | apply At.right)); done)))))))) <;> (apply A.take 9; exact rfl; exact rfl; kernel_rfl; kernel_rfl; kernel_rfl; (apply Ok1.build; (iterate 5 exact rfl))) <;> (apply A.one 10; kernel_rfl; exact rfl; (((apply R.store; (iterate 6 exact rfl); (focus ((repeat' (first | exact Upd.head | apply Upd.right)); done)); exact rfl))); apply R.nil; refine ⟨?_, ?_⟩; (focus ((repeat' (first | exact trivial | (refine ⟨?_, ?_⟩; (focus ((repeat' (first | exact At.head | apply At.tail | apply At.right)); done)))))))) <;> (apply A.done; kernel_rfl))) | apply T.seq | apply T.region | apply T.ret))
  (apply RetOk.c; exact rfl; ((apply Ld.ownk; exact rfl; exact rfl; (focus ((repeat' (first | exact At.head | apply At.right)); done)); exact rfl)))
  exact ⟨_, by (focus ((repeat' (first | exact Ext.here _ _ | apply Keep.last)); done)), ov1, hov1, rfl, rfl⟩
/-- A note in memory of its own, as cells. -/
def NE.c (e : NE) : List Value := [.int .i64 e.o, .int .i64 e.r, .int .i64 e.ver, .slice (ovp e.ov) e.xs.length (ovc e.ov e.xs.length)]
def NE.zero : NE := ⟨0, 0, 0, none, []⟩
def NE.ok (e : NE) : Prop := OvOk 1 e.ov e.xs.length (u8s e.xs)
theorem NE.nt_c (e : NE) : e.nt.v = e.c := rfl
def NE.L (e : NE) : Lst := blkL 5 e.ov (u8s e.xs)
theorem NE.rd {e : NE} (h : e.ok) {w0 w : World} {S : List Nat} {L : Lst} (hw : Hp w0 S L w) (hin : ∀ z ∈ e.L, z ∈ L) : RdSl w (ovp e.ov) u8V e.xs := rdown h hw hin
theorem one_row {x : NE} {w0 w : World} {S : List Nat} {L : Lst} {b : Nat} {e : TypeId} {fz : Nat × Nat} (hw : Hp w0 S L w) (hat : At L b (.cells ⟨x.c⟩ e fz)) : RdSl w (some ⟨b, 0, none⟩) NT.v [x.nt] := RdSl.of (junk := []) hw hat (by simp [fl, NE.nt_c])
end Go.Proofs.YtligngjcnlbgmaaGreat
set_option linter.unusedSimpArgs false
set_option linter.unusedVariables false
namespace Go.Proofs.YtligngjcnlbgmaaGreat
open Go.ChangeShapes Go.WideShapes Go.ChangeAt Go.RowKit
section
variable {H : Type} {enc : TypeId × Value → H} {w : World} {base : Nat} {spare : Nat → Bool} {held : Bool}
theorem st_opens : Opens enc Tryz.prog w base spare held 26 fun cs => ∃ x : NT, x.v = cs ∧ x.okR w := by
  have hi : Opens enc Tryz.prog w base spare held 3 fun cs => ∃ a : Int, cs = [.int .i64 a] := (Opens.flat (ks := [.int .i64]) tb rfl rfl rfl).mono fun cs h => int1_dec h
  have h0 := Opens.field (enc := enc) (w := w) (base := base) (spare := spare) (held := held) tb (t := 26) rfl rfl 0 rfl hi
  have h1 := Opens.field (enc := enc) (w := w) (base := base) (spare := spare) (held := held) tb (t := 26) rfl rfl 1 rfl hi
  have h2 := Opens.field (enc := enc) (w := w) (base := base) (spare := spare) (held := held) tb (t := 26) rfl rfl 2 rfl hi
  have h3 := Opens.field (enc := enc) (w := w) (base := base) (spare := spare) (held := held) tb (t := 26) rfl rfl 3 rfl (Opens.slice u8V (fun x => 0 ≤ x ∧ x ≤ 255) tb rfl rfl rfl rfl (fun _ => rfl) u8_opens9)
  refine (((h0.and h1).and h2).and h3).mono ?_
  rintro cs ⟨⟨⟨⟨hl, a, g0⟩, ⟨_, b, g1⟩⟩, ⟨_, c, g2⟩⟩, ⟨_, g3⟩⟩
  obtain ⟨p, xs, cap, e3, q1, q2, _, q4, _⟩ := g3
  refine ⟨⟨a, b, c, p, cap, xs⟩, ?_, q1, q4, q2⟩
  replace hl : cs.length = 4 := hl
  match cs, hl, g0, g1, g2, e3 with
  | [x0, x1, x2, x3], _, g0, g1, g2, e3 =>
    simp at g0 g1 g2 e3
    rw [g0, g1, g2, e3]
    rfl
end
end Go.Proofs.YtligngjcnlbgmaaGreat
set_option linter.unusedSimpArgs false
set_option linter.unusedVariables false
namespace Go.Proofs.YtligngjcnlbgmaaGreat
open Go.RowKit Go.Shelf Go.Sort
set_option maxRecDepth 100000
def ek (e : SE) : Int × Int := (e.o, e.r)
def lt2 (a b : Int × Int) : Prop := a.1 < b.1 ∨ a.1 = b.1 ∧ a.2 < b.2
def efind (k : Int × Int) : List SE → Option SE
  | [] => none
  | x :: r => if ek x = k then some x else efind k r
def eidx (k : Int × Int) : List SE → Nat
  | [] => 0
  | x :: r => if ek x = k then 0 else eidx k r + 1
def epos (k : Int × Int) : List SE → Nat
  | [] => 0
  | x :: r => if x.o < k.1 ∨ x.o = k.1 ∧ x.r < k.2 then epos k r + 1 else 0
theorem efind_idx (k : Int × Int) : ∀ es : List SE, efind k es = es[eidx k es]?
  | [] => rfl
  | x :: r => by
    simp only [efind, eidx]
    by_cases h : ek x = k
    · rw [if_pos h, if_pos h]; rfl
    · rw [if_neg h, if_neg h, efind_idx k r]; rfl
theorem efind_key {k : Int × Int} : ∀ {es : List SE} {e : SE}, efind k es = some e → ek e = k ∧ e ∈ es
  | [], _, h => by cases h
  | x :: r, e, h => by
    simp only [efind] at h
    by_cases hx : ek x = k
    · rw [if_pos hx] at h; cases h; exact ⟨hx, List.mem_cons_self⟩
    · rw [if_neg hx] at h
      obtain ⟨h1, h2⟩ := efind_key h
      exact ⟨h1, List.mem_cons_of_mem _ h2⟩
theorem eidx_le (k : Int × Int) : ∀ es : List SE, eidx k es ≤ es.length
  | [] => Nat.le_refl _
  | x :: r => by
    simp only [eidx, List.length_cons]
    have := eidx_le k r
    split <;> omega
theorem eidx_before {k : Int × Int} : ∀ {es : List SE} {i : Nat} {x : SE}, i < eidx k es → es[i]? = some x → ek x ≠ k
  | y :: r, i, x, h, hx => by
    simp only [eidx] at h
    by_cases hy : ek y = k
    · rw [if_pos hy] at h; omega
    · rw [if_neg hy] at h
      cases i with
      | zero => cases hx; exact hy
      | succ i => exact eidx_before (es := r) (i := i) (by omega) hx
theorem eidx_some {k : Int × Int} : ∀ {es : List SE} {e : SE}, efind k es = some e → eidx k es < es.length
  | es, e, h => by rw [efind_idx] at h; exact (List.getElem?_eq_some_iff.1 h).1
theorem efind_set {k : Int × Int} {x : SE} (hx : ek x = k) (c : Int × Int) : ∀ {es : List SE} {e : SE}, efind k es = some e → efind c (es.set (eidx k es) x) = if k = c then some x else efind c es
  | [], _, h => by cases h
  | y :: r, e, h => by
    simp only [efind] at h
    simp only [eidx]
    by_cases hy : ek y = k
    · rw [if_pos hy, List.set_cons_zero]
      simp only [efind, hx, hy]
      by_cases hc : k = c
      · rw [if_pos hc, if_pos hc]
      · rw [if_neg hc, if_neg hc, if_neg hc]
    · rw [if_neg hy] at h ⊢
      rw [List.set_cons_succ]
      simp only [efind]
      rw [efind_set hx c h]
      by_cases hyc : ek y = c
      · rw [if_pos hyc, if_pos hyc]
        rw [if_neg (by rintro rfl; exact hy hyc)]
      · rw [if_neg hyc, if_neg hyc]
theorem efind_ins {k : Int × Int} {x : SE} (hx : ek x = k) (c : Int × Int) : ∀ {es : List SE} (n : Nat), efind k es = none → efind c (es.take n ++ x :: es.drop n) = if k = c then some x else efind c es
  | [], n, _ => by simp only [List.take_nil, List.drop_nil, List.nil_append, efind, hx]
  | y :: r, 0, h => by simp only [List.take_zero, List.drop_zero, List.nil_append, efind, hx]
  | y :: r, n + 1, h => by
    simp only [efind] at h
    by_cases hy : ek y = k
    · rw [if_pos hy] at h; cases h
    · rw [if_neg hy] at h
      simp only [List.take_succ_cons, List.drop_succ_cons, List.cons_append, efind]
      rw [efind_ins hx c n h]
      by_cases hyc : ek y = c
      · rw [if_pos hyc, if_pos hyc, if_neg (by rintro rfl; exact hy hyc)]
      · rw [if_neg hyc, if_neg hyc]
theorem map_set9 {k : Int × Int} {x : SE} (hx : ek x = k) : ∀ {es : List SE} {e : SE}, efind k es = some e → (es.set (eidx k es) x).map ek = es.map ek
  | [], _, h => by cases h
  | y :: r, e, h => by
    simp only [efind] at h
    simp only [eidx]
    by_cases hy : ek y = k
    · rw [if_pos hy, List.set_cons_zero, List.map_cons, List.map_cons, hx, hy]
    · rw [if_neg hy] at h ⊢
      rw [List.set_cons_succ, List.map_cons, List.map_cons, map_set9 hx h]
theorem epos_le (k : Int × Int) : ∀ es : List SE, epos k es ≤ es.length
  | [] => Nat.le_refl _
  | x :: r => by
    simp only [epos, List.length_cons]
    have := epos_le k r
    split <;> omega
theorem epos_before {k : Int × Int} : ∀ {es : List SE} {i : Nat} {x : SE}, i < epos k es → es[i]? = some x → x.o < k.1 ∨ x.o = k.1 ∧ x.r < k.2
  | y :: r, i, x, h, hx => by
    simp only [epos] at h
    by_cases hy : y.o < k.1 ∨ y.o = k.1 ∧ y.r < k.2
    · rw [if_pos hy] at h
      cases i with
      | zero => cases hx; exact hy
      | succ i => exact epos_before (es := r) (i := i) (by omega) hx
    · rw [if_neg hy] at h; omega
theorem epos_at {k : Int × Int} : ∀ {es : List SE} {x : SE}, es[epos k es]? = some x → ¬ (x.o < k.1 ∨ x.o = k.1 ∧ x.r < k.2)
  | y :: r, x, hx => by
    simp only [epos] at hx
    by_cases hy : y.o < k.1 ∨ y.o = k.1 ∧ y.r < k.2
    · rw [if_pos hy] at hx
      exact epos_at (es := r) hx
    · rw [if_neg hy] at hx
      cases hx
      exact hy
theorem srt_ins {k : Int × Int} {x : SE} (hx : ek x = k) : ∀ {es : List SE}, (es.map ek).Pairwise lt2 → efind k es = none → ((es.take (epos k es) ++ x :: es.drop (epos k es)).map ek).Pairwise lt2
  | [], _, _ => by simp [epos]
  | y :: r, hs, hn => by
    simp only [efind] at hn
    have hyk : ek y ≠ k := fun h => by rw [if_pos h] at hn; cases hn
    rw [if_neg hyk] at hn
    rw [List.map_cons, List.pairwise_cons] at hs
    simp only [epos]
    by_cases hy : y.o < k.1 ∨ y.o = k.1 ∧ y.r < k.2
    · rw [if_pos hy]
      simp only [List.take_succ_cons, List.drop_succ_cons, List.cons_append, List.map_cons, List.pairwise_cons]
      refine ⟨fun z hz => ?_, srt_ins hx hs.2 hn⟩
      rw [List.map_append, List.map_cons, List.mem_append, List.mem_cons] at hz
      rcases hz with hz | rfl | hz
      · exact hs.1 z (List.mem_of_mem_take (by rw [← List.map_take]; exact hz))
      · rw [hx]; exact hy
      · exact hs.1 z (List.mem_of_mem_drop (by rw [← List.map_drop]; exact hz))
    · rw [if_neg hy]
      simp only [List.take_zero, List.drop_zero, List.nil_append, List.map_cons, List.pairwise_cons]
      have hlt : lt2 (ek x) (ek y) := by
        rw [hx]
        unfold lt2
        simp only [ek]
        have : ¬ (y.o = k.1 ∧ y.r = k.2) := fun h => hyk (Prod.ext h.1 h.2)
        omega
      refine ⟨fun z hz => ?_, hs.1, hs.2⟩
      rcases List.mem_cons.1 hz with rfl | hz
      · exact hlt
      · have := hs.1 z hz
        unfold lt2 at *
        omega
/-- The document's list beside a store. -/
structure SimS (ms : SMs) (clk : Nat) (es : List SE) : Prop where
  ok : SOk ms clk
  srt : (es.map ek).Pairwise lt2
  say : ∀ k, (mget k ms).map eSay = (efind k es).map eSay
  bok : ∀ e ∈ es, OvOk 1 e.bov e.body.length (u8s e.body)
  vok : ∀ e ∈ es, OvOk 1 e.vov e.val.length (u8s e.val)
theorem SimS.nil : SimS [] 0 [] := ⟨SOk.nil, .nil, fun k => rfl, by simp, by simp⟩
theorem efind_of {es : List SE} (hs : (es.map ek).Pairwise lt2) {e : SE} (he : e ∈ es) : efind (ek e) es = some e := by
  induction es with
  | nil => cases he
  | cons y r ih =>
    rw [List.map_cons, List.pairwise_cons] at hs
    simp only [efind]
    rcases List.mem_cons.1 he with rfl | he
    · rw [if_pos rfl]
    · have h1 := hs.1 (ek e) (List.mem_map.2 ⟨e, he, rfl⟩)
      rw [if_neg (fun h => by unfold lt2 at h1; rw [h] at h1; omega)]
      exact ih hs.2 he
theorem SimS.perm {ms : SMs} {clk : Nat} {es : List SE} (h : SimS ms clk es) : (ms.map fun x => eSay x.2.1).Perm (es.map eSay) := by
  have n1 : (ms.map fun x => eSay x.2.1).Nodup := by
    have h1 := h.ok.wf.keys
    have h2 : mkeys ms = (ms.map fun x => eSay x.2.1).map fun t => (t.1, t.2.1) := by
      unfold mkeys
      rw [List.map_map]
      exact List.map_congr_left fun x hx => h.ok.key x hx
    rw [h2] at h1
    exact List.Pairwise.of_map _ (fun a b h e => h (by rw [e])) h1
  have n2 : (es.map eSay).Nodup := by
    have h1 := h.srt
    have h2 : es.map ek = (es.map eSay).map fun t => (t.1, t.2.1) := by rw [List.map_map]; rfl
    rw [h2] at h1
    refine List.Pairwise.of_map _ (fun a b hl e => ?_) h1
    subst e
    unfold lt2 at hl
    omega
  rw [List.perm_ext_iff_of_nodup n1 n2]
  intro z
  constructor
  · intro hz
    obtain ⟨x, hx, rfl⟩ := List.mem_map.1 hz
    have h1 := h.say x.1
    rw [mget_of_mem h.ok.wf.keys hx] at h1
    obtain ⟨e, he, h2⟩ := Option.map_eq_some_iff.1 h1.symm
    exact List.mem_map.2 ⟨e, (efind_key he).2, h2⟩
  · intro hz
    obtain ⟨e, he, rfl⟩ := List.mem_map.1 hz
    have h1 := h.say (ek e)
    rw [efind_of h.srt he] at h1
    obtain ⟨a, ha, h2⟩ := Option.map_eq_some_iff.1 h1
    obtain ⟨b, hb⟩ := mget_mem9 ha
    exact List.mem_map.2 ⟨_, hb, h2⟩
theorem SimS.len {ms : SMs} {clk : Nat} {es : List SE} (h : SimS ms clk es) : ms.length = es.length := by
  have := h.perm.length_eq
  rw [List.length_map, List.length_map] at this
  exact this
theorem SimS.sorted {ms : SMs} {clk : Nat} {es : List SE} (h : SimS ms clk es) {rs : List SE} (hp : rs.Perm (ms.map (·.2.1))) (ha : Asc cfS rs) : rs.map eSay = es.map eSay := by
  have hp2 : (rs.map eSay).Perm (es.map eSay) := by
    refine (hp.map eSay).trans ?_
    rw [List.map_map]
    exact h.perm
  have hs1 : List.Pairwise (fun x y : Int × Int × Int × List Int × List Int × Bool => ¬ lt2 (y.1, y.2.1) (x.1, x.2.1)) (rs.map eSay) := by
    rw [List.pairwise_map]
    refine List.Pairwise.imp (fun {x y} h9 => ?_) ha
    rw [cfS_neg] at h9
    exact h9
  have hs2 : List.Pairwise (fun x y : Int × Int × Int × List Int × List Int × Bool => ¬ lt2 (y.1, y.2.1) (x.1, x.2.1)) (es.map eSay) := by
    have h1 := h.srt
    rw [List.pairwise_map] at h1 ⊢
    refine List.Pairwise.imp (fun {x y} h9 => ?_) h1
    unfold lt2 at *
    simp only [ek, eSay] at *
    omega
  refine List.Perm.eq_of_pairwise (fun x y hx hy h1 h2 => ?_) hs1 hs2 hp2
  obtain ⟨e, he, rfl⟩ := List.mem_map.1 (hp2.subset hx)
  obtain ⟨f, hf, rfl⟩ := List.mem_map.1 hy
  have hk : ek e = ek f := by
    unfold lt2 at h1 h2
    simp only [eSay] at h1 h2
    exact Prod.ext (by simp only [ek]; omega) (by simp only [ek]; omega)
  have g1 := efind_of h.srt he
  have g2 := efind_of h.srt hf
  rw [hk, g2] at g1
  rw [Option.some.inj g1]
theorem SimS.ver {ms : SMs} {clk : Nat} {es : List SE} (h : SimS ms clk es) (k : Int × Int) : verI ms k = match efind k es with | some e => e.ver | none => 0 := by
  have h1 := h.say k
  unfold verI
  cases ha : mget k ms <;> cases hb : efind k es <;> rw [ha, hb] at h1 <;> simp only [Option.map_some, Option.map_none] at h1
  · cases h1
  · cases h1
  · simp only [eSay, Option.some.injEq, Prod.mk.injEq] at h1
    exact h1.2.2.1
/-- One more: the document's Put. -/
def dputE (es : List SE) (k : Int × Int) : Int := match efind k es with | some _ => 0 | none => if 64 ≤ es.length then 6 else 0
def dputM (es : List SE) (x : SE) : List SE := match efind (ek x) es with | some _ => es.set (eidx (ek x) es) x | none => if 64 ≤ es.length then es else es.take (epos (ek x) es) ++ x :: es.drop (epos (ek x) es)
theorem SimS.put {ms : SMs} {clk : Nat} {es : List SE} (h : SimS ms clk es) {e x : SE} (hx : eSay e = eSay x) (h1 : HRt e.o e.r e.ver) (h2 : OvOk 1 e.bov e.body.length (u8s e.body)) (h3 : OvOk 1 e.vov e.val.length (u8s e.val)) (h4 : e.body.length ≤ 96) (h5 : e.val.length ≤ 96) (h6 : OvOk 1 x.bov x.body.length (u8s x.body)) (h7 : OvOk 1 x.vov x.val.length (u8s x.val)) : putE ms (e.o, e.r) = dputE es (ek x) ∧ SimS (putM ms clk (e.o, e.r) e).1 (putM ms clk (e.o, e.r) e).2 (dputM es x) := by
  have hk : ek x = (e.o, e.r) := by
    simp only [eSay, Prod.mk.injEq] at hx
    exact Prod.ext hx.1.symm hx.2.1.symm
  have hok := h.ok.put e h1 h2 h3 h4 h5
  have hs := h.say (e.o, e.r)
  have hl := h.len
  have hfew := h.ok.few
  rw [hk]
  have mem : ∀ (P : SE → Prop), (∀ e ∈ es, P e) → P x → (∀ n, ∀ e ∈ es.take n ++ x :: es.drop n, P e) ∧ ∀ n, ∀ e ∈ es.set n x, P e := by
    intro P hp hq
    constructor
    · intro n y hy
      rcases List.mem_append.1 hy with hy | hy
      · exact hp y (List.mem_of_mem_take hy)
      · rcases List.mem_cons.1 hy with rfl | hy
        · exact hq
        · exact hp y (List.mem_of_mem_drop hy)
    · intro n y hy
      rcases List.mem_or_eq_of_mem_set hy with hy | rfl
      · exact hp y hy
      · exact hq
  cases hd : efind (e.o, e.r) es with
  | some d =>
    rw [hd] at hs
    obtain ⟨a, ha, _⟩ := Option.map_eq_some_iff.1 hs
    have e1 : putE ms (e.o, e.r) = 0 := by unfold putE; rw [ha]
    have e2 : dputE es (e.o, e.r) = 0 := by unfold dputE; rw [hd]
    have e3 : putM ms clk (e.o, e.r) e = (mset (e.o, e.r) e ms, clk) := by unfold putM; rw [ha]
    have e4 : dputM es x = es.set (eidx (e.o, e.r) es) x := by unfold dputM; rw [hk, hd]
    rw [e3] at hok ⊢
    rw [e1, e2, e4]
    refine ⟨rfl, hok, by rw [map_set9 hk hd]; exact h.srt, fun c => ?_, (mem _ h.bok h6).2 _, (mem _ h.vok h7).2 _⟩
    rw [mget_mset c ha, efind_set hk c hd]
    by_cases hc : (e.o, e.r) = c
    · rw [if_pos hc, if_pos hc]; simp only [Option.map_some, hx]
    · rw [if_neg hc, if_neg hc]; exact h.say c
  | none =>
    rw [hd] at hs
    have ha : mget (e.o, e.r) ms = none := by
      cases hm : mget (e.o, e.r) ms with
      | none => rfl
      | some a => rw [hm] at hs; cases hs
    by_cases h64 : ms.length = 64
    · have e1 : putE ms (e.o, e.r) = 6 := by unfold putE; rw [ha]; exact if_pos h64
      have e2 : dputE es (e.o, e.r) = 6 := by unfold dputE; rw [hd]; exact if_pos (by omega)
      have e3 : putM ms clk (e.o, e.r) e = (ms, clk) := by unfold putM; rw [ha]; exact if_pos h64
      have e4 : dputM es x = es := by unfold dputM; rw [hk, hd]; exact if_pos (by omega)
      rw [e3, e1, e2, e4]
      exact ⟨rfl, h⟩
    · have e1 : putE ms (e.o, e.r) = 0 := by unfold putE; rw [ha]; exact if_neg h64
      have e2 : dputE es (e.o, e.r) = 0 := by unfold dputE; rw [hd]; exact if_neg (by omega)
      have e3 : putM ms clk (e.o, e.r) e = (ms ++ [((e.o, e.r), e, clk)], clk + 1) := by unfold putM; rw [ha]; exact if_neg h64
      have e4 : dputM es x = es.take (epos (e.o, e.r) es) ++ x :: es.drop (epos (e.o, e.r) es) := by unfold dputM; rw [hk, hd]; exact if_neg (by omega)
      rw [e3] at hok ⊢
      rw [e1, e2, e4]
      refine ⟨rfl, hok, srt_ins hk h.srt hd, fun c => ?_, (mem _ h.bok h6).1 _, (mem _ h.vok h7).1 _⟩
      rw [mget_snoc c ha, efind_ins hk c _ hd]
      by_cases hc : (e.o, e.r) = c
      · rw [if_pos hc, if_pos hc]; simp only [Option.map_some, hx]
      · rw [if_neg hc, if_neg hc]; exact h.say c
end Go.Proofs.YtligngjcnlbgmaaGreat
set_option linter.unusedSimpArgs false
set_option linter.unusedVariables false
namespace Go.Proofs.YtligngjcnlbgmaaGreat
open Go.RowKit Go.Shelf
set_option maxRecDepth 100000
theorem keep_of_perm : ∀ {L' L r : Lst}, (L' ++ r).Perm L → Keep L L'
  | [], L, r, _ => .nil L
  | x :: R, L, r, h => by
    have hx : x ∈ L := h.subset (by simp)
    obtain ⟨A, B, rfl⟩ := List.append_of_mem hx
    refine .cons (L1 := A ++ B) (.app A (.one x B)) (keep_of_perm (r := r) ?_)
    have h2 : (x :: (R ++ r)).Perm (x :: (A ++ B)) := by
      rw [← List.cons_append]
      exact h.trans List.perm_middle
    exact h2.cons_inv
theorem Keep.trans9 {A B C : Lst} (h1 : Keep A B) (h2 : Keep B C) : Keep A C := by
  obtain ⟨r1, p1⟩ := h1.perm
  obtain ⟨r2, p2⟩ := h2.perm
  refine keep_of_perm (r := r2 ++ r1) ?_
  rw [← List.append_assoc]
  exact (p2.append_right r1).trans p1
theorem keep_sub {A B : Lst} (h : A.Sublist B) : Keep B A := by
  obtain ⟨r, hr⟩ := h.exists_perm_append
  exact keep_of_perm (r := r) hr.symm
theorem flatMap_sub {α β : Type} (f : α → List β) : ∀ {a b : List α}, a.Sublist b → (a.flatMap f).Sublist (b.flatMap f)
  | _, _, .slnil => .slnil
  | _, _, .cons x h => by
    rw [List.flatMap_cons]
    exact (flatMap_sub f h).trans (List.sublist_append_right _ _)
  | _, _, .cons_cons x h => by
    rw [List.flatMap_cons, List.flatMap_cons]
    exact (List.Sublist.refl _).append (flatMap_sub f h)
/-- A store without an owner's notes of the first roles. -/
def dropN (o : Int) (n : Nat) (ms : SMs) : SMs := (List.range n).foldl (fun m (r : Nat) => mdel (o, (r : Int)) m) ms
theorem dropN_succ (o : Int) (n : Nat) (ms : SMs) : dropN o (n + 1) ms = mdel (o, (n : Int)) (dropN o n ms) := by
  unfold dropN
  rw [List.range_succ, List.foldl_append]
  rfl
theorem dropN_sub (o : Int) (ms : SMs) : ∀ n, (dropN o n ms).Sublist ms
  | 0 => .refl _
  | n + 1 => by rw [dropN_succ]; exact (mdel_sub _ _).trans (dropN_sub o ms n)
theorem SOk.sub {ms ms' : SMs} {clk : Nat} (h : SOk ms clk) (hs : ms'.Sublist ms) : SOk ms' clk :=
  ⟨⟨fun e he => h.wf.bnd e (hs.subset he), (hs.map _).nodup h.wf.nd, (hs.map _).nodup h.wf.keys⟩, fun e he => h.key e (hs.subset he), fun e he => h.hrt e (hs.subset he), fun e he => h.bok e (hs.subset he), fun e he => h.vok e (hs.subset he), fun e he => h.blen e (hs.subset he), fun e he => h.vlen e (hs.subset he), Nat.le_trans hs.length_le h.few⟩
theorem mget_dropN {ms : SMs} {clk : Nat} (h : SOk ms clk) (o : Int) (c : Int × Int) : ∀ n : Nat, mget c (dropN o n ms) = if c.1 = o ∧ 0 ≤ c.2 ∧ c.2 < n then none else mget c ms
  | 0 => by rw [if_neg (by omega)]; rfl
  | n + 1 => by
    rw [dropN_succ, mget_mdel c (h.sub (dropN_sub o ms n)).wf.keys, mget_dropN h o c n]
    by_cases h1 : (o, (n : Int)) = c
    · rw [if_pos h1, ← h1]
      rw [if_pos ⟨rfl, by omega, by omega⟩]
    · rw [if_neg h1]
      have h2 : ¬ (c.1 = o ∧ c.2 = n) := fun g => h1 (Prod.ext g.1.symm g.2.symm)
      by_cases h3 : c.1 = o ∧ 0 ≤ c.2 ∧ c.2 < n
      · rw [if_pos h3, if_pos ⟨h3.1, h3.2.1, by omega⟩]
      · rw [if_neg h3, if_neg (by omega)]
theorem efind_filter (o : Int) (c : Int × Int) : ∀ es : List SE, efind c (es.filter fun e => decide (e.o ≠ o)) = if c.1 = o then none else efind c es
  | [] => by simp [efind]
  | x :: r => by
    rw [List.filter_cons]
    by_cases hx : x.o = o
    · rw [if_neg (by simp [hx]), efind_filter o c r]
      by_cases hc : c.1 = o
      · rw [if_pos hc, if_pos hc]
      · rw [if_neg hc, if_neg hc]
        simp only [efind]
        rw [if_neg (fun g => hc (by rw [← g]; exact hx))]
    · rw [if_pos (by simp [hx])]
      simp only [efind]
      rw [efind_filter o c r]
      by_cases hk : ek x = c
      · rw [if_pos hk, if_pos hk, if_neg (fun g => hx (by rw [← g, ← hk]; rfl))]
      · rw [if_neg hk, if_neg hk]
theorem SimS.drop {ms : SMs} {clk : Nat} {es : List SE} (h : SimS ms clk es) (o : Int) : SimS (dropN o 8 ms) clk (es.filter fun e => decide (e.o ≠ o)) := by
  refine ⟨h.ok.sub (dropN_sub o ms 8), List.Pairwise.sublist (List.filter_sublist.map _) h.srt, fun c => ?_, fun e he => h.bok e (List.mem_filter.1 he).1, fun e he => h.vok e (List.mem_filter.1 he).1⟩
  rw [mget_dropN h.ok, efind_filter]
  by_cases h1 : c.1 = o
  · rw [if_pos h1]
    by_cases h2 : 0 ≤ c.2 ∧ c.2 < 8
    · rw [if_pos ⟨h1, h2⟩]
    · rw [if_neg (fun g => h2 g.2)]
      cases hg : mget c ms with
      | none => rfl
      | some e =>
        obtain ⟨b, hb⟩ := mget_mem9 hg
        have h3 := h.ok.hrt _ hb
        have h4 := h.ok.key _ hb
        unfold HRt at h3
        simp only at h3 h4
        rw [h4] at h2
        simp only at h2
        omega
  · rw [if_neg h1, if_neg (fun g => h1 g.1)]
    exact h.say c
theorem stdrop_ok (bs bm : Nat) (ms : SMs) (clk : Nat) (b9 : Nat) (o : Int) (w : World) (hp : RdSl w (some ⟨b9, 0, none⟩) iV9 [o, o]) (hoff : b9 ∉ blks (SL bs bm ms clk)) (hfew : ms.length ≤ 64) :
    CallM Tryz.prog 38 [.pointer (some ⟨bs, 0, none⟩), .slice (some ⟨b9, 0, none⟩) 2 2] (SL bs bm ms clk) w fun v L => v = .int .i64 ((ms.length : Int) - (dropN o 8 (dropN o 8 ms)).length) ∧ L = SL bs bm (dropN o 8 (dropN o 8 ms)) clk := by
  have hrow : ∀ j : Nat, j < 2 → ∀ k, k < 1 → w.cell? ⟨b9, 0 + (j * 1 + k), none⟩ = (iV9 o)[k]? := by
    intro j hj
    obtain ⟨b, o9, hpe, H⟩ := hp.at (i := j) (a := o) (by match j, hj with | 0, _ => rfl | 1, _ => rfl)
    cases hpe
    exact H 1 iV9_len
  have hln := fun m w1 => stlen_ok bs bm m clk w1
  have hkeep : Keep ((bs, Obj.cells ⟨[.map (some bm)]⟩ 139 (0, 0)) :: (bm, mobj kv2 evS (dropN o 8 (dropN o 8 ms)) clk) :: SX ms) (SL bs bm (dropN o 8 (dropN o 8 ms)) clk) := by
    refine keep_sub ?_
    refine .cons_cons _ (.cons_cons _ ?_)
    exact flatMap_sub _ ((dropN_sub o _ 8).trans (dropN_sub o ms 8))
  have hl1 : (dropN o 8 (dropN o 8 ms)).length ≤ ms.length := ((dropN_sub o _ 8).trans (dropN_sub o ms 8)).length_le
  obtain ⟨mj, hmj⟩ : ∃ mj : Nat → SMs, mj = fun j => match j with | 0 => ms | 1 => dropN o 8 ms | _ => dropN o 8 (dropN o 8 ms) := ⟨_, rfl⟩
  have hm0 : mj 0 = ms := by subst hmj; rfl
  have hm2 : mj 2 = dropN o 8 (dropN o 8 ms) := by subst hmj; rfl
  have hms : ∀ j, j < 2 → mj (j + 1) = dropN o 8 (mj j) := by
    intro j hj
    match j, hj with
    | 0, _ => subst hmj; rfl
    | 1, _ => subst hmj; rfl
  refine enterK (tb := tb) Tryz.func38 rfl Tryz.ntmps38 rfl ?_
  have hls0 := hln ms
  generalize hSL : SL bs bm ms clk = LS at *
  repeat' (first | (apply R.is1; first | (apply R.isCall; first | (apply R.callE (Li := LS) (vs := [.pointer (some ⟨bs, 0, none⟩)]); (iterate 3 exact rfl); (focus ((repeat' (exact Ext.all _)); done)); intro w1 hw1; exact hls0 w1; rintro v Lo ⟨rfl, hq⟩; rw [hq]; clear hq) | (apply R.pure; exact rfl; (apply Ok1.lenS; (iterate 3 exact rfl)))) | (apply R.pure; exact rfl; first | (apply Ok1.move; exact rfl) | (apply Ok1.assign; exact rfl))) | apply R.nil | (apply T.is; first | apply T.seq | apply T.region | apply T.block))
  apply T.loopK (α := Nat) (I := fun j => j ≤ 2) (σi := fun j => [(0, .pointer (some ⟨bs, 0, none⟩)), (5, .int .i64 ms.length), (11, .slice (some ⟨b9, 0, none⟩) 2 2), (12, .int .i64 2), (13, .int .i64 j)]) (Li := fun j => (bs, .cells ⟨[.map (some bm)]⟩ 139 (0, 0)) :: (bm, mobj kv2 evS (mj j) clk) :: SX ms) (μ := fun j => 2 - j) (i0 := 0)
  · exact Nat.zero_le _
  · exact ⟨rfl, rfl, rfl, rfl, rfl, trivial⟩
  · rw [hm0, ← hSL, List.append_nil]
    exact .last (.all _)
  · intro j hj
    generalize SX ms = X at *
    rcases Nat.lt_or_ge j 2 with hlt | hge
    · have H := hrow j hlt
      repeat' (first | (apply R.is1; first | (apply R.isBin; (apply R.pure; exact rfl; (apply Ok1.lss_t; exact rfl; exact rfl; omega))) | (apply R.pure; exact rfl; first | (apply Ok1.load; exact rfl; apply Ld.row0 H; exact rfl; exact hoff; (iterate 3 exact rfl)) | (apply Ok1.move; exact rfl) | (apply Ok1.assign; exact rfl) | (apply Ok1.indexAddr; (iterate 5 exact rfl); omega; omega))) | apply R.nil | (apply T.is; first | apply T.seq | apply T.region | apply T.block | apply T.skip | (apply T.cond_t; exact rfl)))
      apply T.loopK (α := Nat) (I := fun r => r ≤ 8) (σi := fun r => [(0, .pointer (some ⟨bs, 0, none⟩)), (5, .int .i64 ms.length), (11, .slice (some ⟨b9, 0, none⟩) 2 2), (12, .int .i64 2), (13, .int .i64 j), (7, .int .i64 o), (17, .int .i64 r)]) (Li := fun r => (bs, .cells ⟨[.map (some bm)]⟩ 139 (0, 0)) :: (bm, mobj kv2 evS (dropN o r (mj j)) clk) :: X) (μ := fun r => 8 - r) (i0 := 0)
      · exact Nat.zero_le _
      · exact ⟨rfl, rfl, rfl, rfl, rfl, rfl, rfl, trivial⟩
      · exact .last (.all _)
      · intro r hr
        rcases Nat.lt_or_ge r 8 with h8 | h8
        · repeat' (first | (apply R.is1; first | (apply R.isBin; (apply R.pure; exact rfl; first | (apply Ok1.neqP; (iterate 5 exact rfl)) | (apply Ok1.add64; exact rfl; exact rfl; omega; omega) | (apply Ok1.lss_t; exact rfl; exact rfl; omega))) | (apply R.pure; exact rfl; first | (apply Ok1.move; exact rfl) | (apply Ok1.fieldAddr; (iterate 5 exact rfl)) | (apply Ok1.load; exact rfl; (apply Ld.own1; exact rfl; exact rfl; exact At.head; exact rfl)) | (apply Ok1.assign; exact rfl) | (apply Ok1.nilCheck; exact rfl) | (apply Ok1.buildA; (iterate 6 exact rfl)))) | (apply R.is0; (apply R.mapDel (vd := none) (kv := kv2) (vv := evS) (o, (r : Int)) kt2; (iterate 5 exact rfl); (focus ((repeat' (first | exact Upd.head | apply Upd.tail)); done)))) | apply R.nil | (apply T.is; first | apply T.seq | apply T.region | apply T.block | apply T.skip | (apply T.cond_t; exact rfl)))
          refine ⟨r + 1, by omega, by omega, ⟨rfl, rfl, rfl, rfl, rfl, rfl, rfl, trivial⟩, ?_⟩
          rw [dropN_succ]
          exact .last (.all _)
        · have hr8 : r = 8 := by omega
          subst hr8
          repeat' (first | (apply R.is1; first | (apply R.isBin; (apply R.pure; exact rfl; first | (apply Ok1.add64; exact rfl; exact rfl; omega; omega) | (apply Ok1.lss_f; exact rfl; exact rfl; omega))) | (apply R.pure; exact rfl; (apply Ok1.move; exact rfl))) | apply R.nil | (apply T.is; first | apply T.seq | apply T.region | apply T.exit | (apply T.cond_f; exact rfl)))
          refine ⟨j + 1, by omega, by omega, ⟨rfl, rfl, rfl, rfl, rfl, trivial⟩, ?_⟩
          rw [hms j hlt]
          exact .last (.all _)
    · have hj2 : j = 2 := by omega
      subst hj2
      rw [hm2]
      have hls2 := hln (dropN o 8 (dropN o 8 ms))
      generalize dropN o 8 (dropN o 8 ms) = D2 at *
      refine T.weakK (σ' := [(0, .pointer (some ⟨bs, 0, none⟩)), (5, .int .i64 ms.length), (11, .slice (some ⟨b9, 0, none⟩) 2 2), (12, .int .i64 2), (13, .int .i64 (2 : Nat))]) ?_ hkeep ⟨rfl, rfl, rfl, rfl, rfl, trivial⟩
      generalize hSL2 : SL bs bm D2 clk = LS2 at *
      repeat' (first | (apply R.is1; first | (apply R.isBin; (apply R.pure; exact rfl; first | (apply Ok1.sub64; exact rfl; exact rfl; omega; omega) | (apply Ok1.lss_f; exact rfl; exact rfl; omega))) | (apply R.isCall; (apply R.callE (Li := LS2) (vs := [.pointer (some ⟨bs, 0, none⟩)]); (iterate 3 exact rfl); (focus ((repeat' (exact Ext.all _)); done)); intro w1 hw1; exact hls2 w1; rintro v Lo ⟨rfl, hq⟩; rw [hq]; clear hq)) | (apply R.pure; exact rfl; first | (apply Ok1.move; exact rfl) | (apply Ok1.assign; exact rfl))) | apply R.nil | (apply T.is; first | apply T.seq | apply T.region | apply T.exit | apply T.ret | (apply T.cond_f; exact rfl)))
      (apply RetOk.t; exact rfl)
      exact ⟨LS2, by (focus ((repeat' (first | exact Ext.here _ _ | apply Keep.last)); done)), rfl, rfl⟩
end Go.Proofs.YtligngjcnlbgmaaGreat
set_option linter.unusedSimpArgs false
set_option linter.unusedVariables false
namespace Go.Proofs.YtligngjcnlbgmaaGreat
open Go.RowKit Go.Shelf
set_option maxRecDepth 100000
def hlv : Nat → Int → Int
  | 0, m => m
  | n + 1, m => hlv n m / 2
theorem inM_hlv : ∀ (m : Fin 256) (r : Fin 8), inM (m.val : Int) (r.val : Int) = decide (hlv r.val (m.val : Int) % 2 = 1) := by decide +kernel
theorem hlv_pos (n : Nat) {m : Int} (h : 0 ≤ m) : 0 ≤ hlv n m := by
  induction n with
  | zero => exact h
  | succ n ih => simp only [hlv]; omega
theorem hlv_le (n : Nat) {m : Int} (h : 0 ≤ m ∧ m < 256) : hlv n m < 256 := by
  induction n with
  | zero => exact h.2
  | succ n ih => simp only [hlv]; omega
theorem vbit_ok (M r : Int) (hM : 0 ≤ M ∧ M < 256) (hr : 0 ≤ r ∧ r < 8) : CallP Tryz.prog 68 [.int .i64 M, .int .i64 r] (.bool (inM M r)) := by
  obtain ⟨n, rfl⟩ : ∃ n : Nat, r = n := ⟨r.toNat, by omega⟩
  have hb := inM_hlv ⟨M.toNat, by omega⟩ ⟨n, by omega⟩
  simp only [Int.toNat_of_nonneg hM.1] at hb
  rw [hb]
  refine enterP (tb := tb) Tryz.func68 rfl Tryz.ntmps68 rfl fun w => ?_
  repeat' (first | (apply R.is1; (apply R.pure; exact rfl; (apply Ok1.assign; exact rfl))) | apply R.nil | (apply T.is; first | apply T.seq | apply T.region | apply T.block))
  apply T.loopK (α := Nat) (I := fun i => i ≤ n) (σi := fun i => [(0, .int .i64 (hlv i M)), (1, .int .i64 n), (5, .int .i64 i)]) (Li := fun _ => []) (μ := fun i => n - i) (i0 := 0)
  · exact Nat.zero_le _
  · exact ⟨rfl, rfl, rfl, trivial⟩
  · exact Keep.nil _
  · intro i hi
    have h1 := hlv_pos i hM.1
    have h2 := hlv_le i hM
    rcases Nat.lt_or_ge i n with hlt | hge
    · repeat' (first | (apply R.is1; first | (apply R.isBin; (apply R.pure; exact rfl; first | (apply Ok1.add64; exact rfl; exact rfl; omega; omega) | (apply Ok1.lss_t; exact rfl; exact rfl; omega) | (apply Ok1.quo64; exact rfl; exact rfl; omega; omega; omega))) | (apply R.pure; exact rfl; first | (apply Ok1.move; exact rfl) | (apply Ok1.assign; exact rfl))) | apply R.nil | (apply T.is; first | apply T.seq | apply T.region | apply T.block | apply T.skip | (apply T.cond_t; exact rfl)))
      exact ⟨i + 1, by omega, by omega, ⟨rfl, rfl, rfl, trivial⟩, Keep.nil _⟩
    · have hin : i = n := by omega
      subst hin
      by_cases h3 : hlv i M % 2 = 1
      · rw [decide_eq_true h3]
        repeat' (first | (apply R.is1; first | (apply R.isBin; (apply R.pure; exact rfl; first | (apply Ok1.lss_f; exact rfl; exact rfl; omega) | (apply Ok1.eql_t; exact rfl; exact rfl; omega) | (apply Ok1.remN; exact rfl; exact rfl; omega; omega))) | (apply R.pure; exact rfl; first | (apply Ok1.move; exact rfl) | (apply Ok1.assign; exact rfl))) | apply R.nil | (apply T.is; first | apply T.seq | apply T.region | apply T.exit | apply T.ret | (apply T.cond_f; exact rfl)))
        (apply RetOk.t; exact rfl)
        rfl
      · rw [decide_eq_false h3]
        repeat' (first | (apply R.is1; first | (apply R.isBin; (apply R.pure; exact rfl; first | (apply Ok1.lss_f; exact rfl; exact rfl; omega) | (apply Ok1.eql_f; exact rfl; exact rfl; omega) | (apply Ok1.remN; exact rfl; exact rfl; omega; omega))) | (apply R.pure; exact rfl; first | (apply Ok1.move; exact rfl) | (apply Ok1.assign; exact rfl))) | apply R.nil | (apply T.is; first | apply T.seq | apply T.region | apply T.exit | apply T.ret | (apply T.cond_f; exact rfl)))
        (apply RetOk.t; exact rfl)
        rfl
def fndI (k : Int × Int) (es : List SE) : Int := match efind k es with | some _ => (eidx k es : Int) | none => -1
theorem vfind_ok (p : Option Addr) (n cap : Nat) (es : List SE) (hn : n = es.length) (hl : es.length ≤ 100) (o r : Int) (w : World) (hp : RdSl w p SE.v es) : CallW Tryz.prog 64 [.slice p n cap, .int .i64 o, .int .i64 r] w fun v _ => v = .int .i64 (fndI (o, r) es) := by
  subst hn
  refine enterW (tb := tb) Tryz.func64 rfl Tryz.ntmps64 rfl ?_
  repeat' (first | (apply R.is1; (apply R.pure; exact rfl; (apply Ok1.assign; exact rfl))) | apply R.nil | (apply T.is; first | apply T.seq | apply T.region | apply T.block))
  apply T.loopK (α := Nat) (I := fun i => i ≤ eidx (o, r) es) (σi := fun i => [(0, .slice p es.length cap), (1, .int .i64 o), (2, .int .i64 r), (7, .int .i64 i)]) (Li := fun _ => []) (μ := fun i => es.length - i) (i0 := 0)
  · exact Nat.zero_le _
  · exact ⟨rfl, rfl, rfl, rfl, trivial⟩
  · exact Keep.nil _
  · intro i hi
    have hle := eidx_le (o, r) es
    rcases Nat.lt_or_ge i es.length with hlt | hge
    · obtain ⟨x, hx⟩ : ∃ r, es[i]? = some r := ⟨_, List.getElem?_eq_getElem (by omega)⟩
      obtain ⟨b, o9, hpe, H⟩ := hp.at hx
      replace H := H 6 SE.v_len
      have hmin : ek x = (o, r) → i = eidx (o, r) es := fun h => by
        rcases Nat.lt_or_ge i (eidx (o, r) es) with h9 | h9
        · exact absurd h (eidx_before h9 hx)
        · omega
      have hnext : ek x ≠ (o, r) → i + 1 ≤ eidx (o, r) es := fun h => by
        rcases Nat.lt_or_ge i (eidx (o, r) es) with h9 | h9
        · exact h9
        · have he : i = eidx (o, r) es := by omega
          have hf : efind (o, r) es = some x := by rw [efind_idx, ← he]; exact hx
          exact absurd (efind_key hf).1 h
      by_cases e1 : x.o = o
      case neg =>
        have h9 := hnext (fun h => e1 (congrArg (fun z => z.1) h))
        repeat' (first | (apply R.is1; first | (apply R.isBin; (apply R.pure; exact rfl; first | (apply Ok1.add64; exact rfl; exact rfl; omega; omega) | (apply Ok1.lss_t; exact rfl; exact rfl; omega) | (apply Ok1.eql_f; exact rfl; exact rfl; omega))) | (apply R.isCall; (apply R.pure; exact rfl; (apply Ok1.lenS; (iterate 3 exact rfl)))) | (apply R.pure; exact rfl; first | (apply Ok1.indexAddrP; (iterate 4 exact rfl); exact hpe; exact rfl; omega; omega) | (apply Ok1.load; exact rfl; (apply Ld.row0 H; exact rfl; exact List.not_mem_nil; (iterate 3 exact rfl))) | (apply Ok1.move; exact rfl) | (apply Ok1.fieldAddr; (iterate 5 exact rfl)) | (apply Ok1.assign; exact rfl) | (apply Ok1.pick_f; exact rfl; exact rfl))) | (apply R.isG; (apply R.guard_not; (iterate 3 exact rfl))) | apply R.nil | (apply T.is; first | apply T.seq | apply T.region | apply T.block | apply T.skip | (apply T.cond_t; exact rfl) | (apply T.cond_f; exact rfl)))
        exact ⟨i + 1, h9, by omega, ⟨rfl, rfl, rfl, rfl, trivial⟩, Keep.nil _⟩
      by_cases e2 : x.r = r
      case neg =>
        have h9 := hnext (fun h => e2 (congrArg (fun z => z.2) h))
        repeat' (first | (apply R.is1; first | (apply R.isBin; (apply R.pure; exact rfl; first | (apply Ok1.add64; exact rfl; exact rfl; omega; omega) | (apply Ok1.lss_t; exact rfl; exact rfl; omega) | (apply Ok1.eql_t; exact rfl; exact rfl; omega) | (apply Ok1.eql_f; exact rfl; exact rfl; omega))) | (apply R.isCall; (apply R.pure; exact rfl; (apply Ok1.lenS; (iterate 3 exact rfl)))) | (apply R.pure; exact rfl; first | (apply Ok1.indexAddrP; (iterate 4 exact rfl); exact hpe; exact rfl; omega; omega) | (apply Ok1.load; exact rfl; first | (apply Ld.row0 H; exact rfl; exact List.not_mem_nil; (iterate 3 exact rfl)) | (apply Ld.row1 (f := 1) H; exact rfl; exact List.not_mem_nil; (iterate 3 exact rfl))) | (apply Ok1.move; exact rfl) | (apply Ok1.fieldAddr; (iterate 5 exact rfl)) | (apply Ok1.assign; exact rfl) | (apply Ok1.pick_t; exact rfl; exact rfl))) | (apply R.isG; (apply R.guard_run; exact rfl; exact rfl)) | apply R.nil | (apply T.is; first | apply T.seq | apply T.region | apply T.block | apply T.skip | (apply T.cond_t; exact rfl) | (apply T.cond_f; exact rfl)))
        exact ⟨i + 1, h9, by omega, ⟨rfl, rfl, rfl, rfl, trivial⟩, Keep.nil _⟩
      have hkx : ek x = (o, r) := by simp only [ek, e1, e2]
      have hie := hmin hkx
      have hf : efind (o, r) es = some x := by rw [efind_idx, ← hie]; exact hx
      repeat' (first | (apply R.is1; first | (apply R.isBin; (apply R.pure; exact rfl; first | (apply Ok1.lss_t; exact rfl; exact rfl; omega) | (apply Ok1.eql_t; exact rfl; exact rfl; omega))) | (apply R.isCall; (apply R.pure; exact rfl; (apply Ok1.lenS; (iterate 3 exact rfl)))) | (apply R.pure; exact rfl; first | (apply Ok1.indexAddrP; (iterate 4 exact rfl); exact hpe; exact rfl; omega; omega) | (apply Ok1.load; exact rfl; first | (apply Ld.row0 H; exact rfl; exact List.not_mem_nil; (iterate 3 exact rfl)) | (apply Ld.row1 (f := 1) H; exact rfl; exact List.not_mem_nil; (iterate 3 exact rfl))) | (apply Ok1.move; exact rfl) | (apply Ok1.fieldAddr; (iterate 5 exact rfl)) | (apply Ok1.assign; exact rfl) | (apply Ok1.pick_t; exact rfl; exact rfl))) | (apply R.isG; (apply R.guard_run; exact rfl; exact rfl)) | apply R.nil | (apply T.is; first | apply T.seq | apply T.region | apply T.block | apply T.skip | apply T.ret | (apply T.cond_t; exact rfl)))
      (apply RetOk.t; exact rfl)
      unfold fndI
      rw [hf, ← hie]
    · have hn : efind (o, r) es = none := by rw [efind_idx]; exact List.getElem?_eq_none (by omega)
      repeat' (first | (apply R.is1; first | (apply R.isBin; (apply R.pure; exact rfl; (apply Ok1.lss_f; exact rfl; exact rfl; omega))) | (apply R.isCall; (apply R.pure; exact rfl; (apply Ok1.lenS; (iterate 3 exact rfl)))) | (apply R.pure; exact rfl; first | (apply Ok1.move; exact rfl) | (apply Ok1.assign; exact rfl))) | apply R.nil | (apply T.is; first | apply T.seq | apply T.region | apply T.exit | apply T.ret | (apply T.cond_f; exact rfl)))
      (apply RetOk.t; exact rfl)
      unfold fndI
      rw [hn]
def dver (k : Int × Int) (es : List SE) : Int := match efind k es with | some e => e.ver | none => 0
theorem vversion_ok (p : Option Addr) (n cap : Nat) (es : List SE) (hn : n = es.length) (hl : es.length ≤ 100) (o r : Int) (w : World) (hp : RdSl w p SE.v es) : CallW Tryz.prog 33 [.slice p n cap, .int .i64 o, .int .i64 r] w fun v _ => v = .int .i64 (dver (o, r) es) := by
  have hf := fun w1 (hc : Chg [] w w1) => vfind_ok p n cap es hn hl o r w1 (hp.chg' hc (fun _ => Off.nil _))
  subst hn
  have hle := eidx_le (o, r) es
  refine enterW (tb := tb) Tryz.func33 rfl Tryz.ntmps33 rfl ?_
  cases hd : efind (o, r) es with
  | none =>
    have h1 : fndI (o, r) es = -1 := by unfold fndI; rw [hd]
    have h2 : dver (o, r) es = 0 := by unfold dver; rw [hd]
    rw [h1] at hf
    rw [h2]
    repeat' (first | (apply R.is1; first | (apply R.isBin; (apply R.pure; exact rfl; (apply Ok1.lss_t; exact rfl; exact rfl; omega))) | (apply R.isCall; (apply R.callW (vs := [.slice p es.length cap, .int .i64 o, .int .i64 r]); (iterate 3 exact rfl); (intro w1 hw1; exact hf w1 hw1.chg); rintro v rfl)) | (apply R.pure; exact rfl; first | (apply Ok1.move; exact rfl) | (apply Ok1.assign; exact rfl))) | apply R.nil | (apply T.is; first | apply T.seq | apply T.region | apply T.ret | (apply T.cond_t; exact rfl)))
    (apply RetOk.t; exact rfl)
    rfl
  | some x =>
    have h1 : fndI (o, r) es = (eidx (o, r) es : Int) := by unfold fndI; rw [hd]
    have h2 : dver (o, r) es = x.ver := by unfold dver; rw [hd]
    have hx : es[eidx (o, r) es]? = some x := by rw [← efind_idx]; exact hd
    have hlt := eidx_some hd
    rw [h1] at hf
    rw [h2]
    obtain ⟨b, o9, hpe, H⟩ := hp.at hx
    replace H := H 6 SE.v_len
    generalize eidx (o, r) es = i at *
    repeat' (first | (apply R.is1; first | (apply R.isBin; (apply R.pure; exact rfl; (apply Ok1.lss_f; exact rfl; exact rfl; omega))) | (apply R.isCall; (apply R.callW (vs := [.slice p es.length cap, .int .i64 o, .int .i64 r]); (iterate 3 exact rfl); (intro w1 hw1; exact hf w1 hw1.chg); rintro v rfl)) | (apply R.pure; exact rfl; first | (apply Ok1.indexAddrP; (iterate 4 exact rfl); exact hpe; exact rfl; omega; omega) | (apply Ok1.load; exact rfl; (apply Ld.row1 (f := 2) H; exact rfl; exact List.not_mem_nil; (iterate 3 exact rfl))) | (apply Ok1.move; exact rfl) | (apply Ok1.fieldAddr; (iterate 5 exact rfl)) | (apply Ok1.assign; exact rfl))) | apply R.nil | (apply T.is; first | apply T.seq | apply T.region | apply T.skip | apply T.ret | (apply T.cond_f; exact rfl)))
    (apply RetOk.t; exact rfl)
    rfl
/-- An open entry, as a note that is read. -/
def SE.nt (e : SE) : NT := ⟨e.o, e.r, e.ver, ovp e.vov, ovc e.vov e.val.length, e.val⟩
def rdT (M : Int) (es : List SE) : List NT := (es.filter fun x => x.op && inM M x.r).map SE.nt
theorem rdT_say (M : Int) (es : List SE) : (rdT M es).map NT.say = rdN M es := by unfold rdT rdN; rw [List.map_map]; rfl
theorem rdT_snoc (M : Int) {es : List SE} {i : Nat} {x : SE} (hx : es[i]? = some x) : rdT M (es.take (i + 1)) = if (x.op && inM M x.r) = true then rdT M (es.take i) ++ [x.nt] else rdT M (es.take i) := by
  unfold rdT
  rw [List.take_add_one, hx, Option.toList_some, List.filter_append, List.map_append]
  by_cases h : (x.op && inM M x.r) = true
  · rw [if_pos h]; simp [h]
  · rw [if_neg h]; simp [h]
theorem rdT_le (M : Int) (es : List SE) : (rdT M es).length ≤ es.length := by unfold rdT; rw [List.length_map]; exact List.length_filter_le _ _
theorem vread_ok (p : Option Addr) (n cap : Nat) (es : List SE) (hn : n = es.length) (hl : es.length ≤ 64) (hrt : ∀ e ∈ es, 0 ≤ e.r ∧ e.r < 8) (hvo : ∀ e ∈ es, OvOk 1 e.vov e.val.length (u8s e.val)) (M : Int) (hM : 0 ≤ M ∧ M < 256) (w : World) (hp : RdSl w p SE.v es) : CallM Tryz.prog 43 [.slice p n cap, .int .i64 M] [] w fun v L => ∃ ov, OvOk 4 ov (rdT M es).length (fl NT.v (rdT M es)) ∧ v = slV ov (rdT M es).length ∧ L = blkL 24 ov (fl NT.v (rdT M es)) := by
  subst hn
  refine enterK (tb := tb) Tryz.func43 rfl Tryz.ntmps43 rfl ?_
  repeat' (first | (apply R.is1; (apply R.pure; exact rfl; (apply Ok1.assign; exact rfl))) | apply R.nil | (apply T.is; first | apply T.seq | apply T.region | apply T.block))
  apply T.loopK (α := Nat × Ov) (I := fun y => y.1 ≤ es.length ∧ OvOk 4 y.2 (rdT M (es.take y.1)).length (fl NT.v (rdT M (es.take y.1)))) (σi := fun y => [(0, .slice p es.length cap), (1, .int .i64 M), (5, slV y.2 (rdT M (es.take y.1)).length), (6, .int .i64 y.1)]) (Li := fun y => blkL 24 y.2 (fl NT.v (rdT M (es.take y.1)))) (μ := fun y => es.length - y.1) (i0 := (0, none))
  · exact ⟨Nat.zero_le _, OvOk.start 4⟩
  · exact ⟨rfl, rfl, rfl, rfl, trivial⟩
  · (focus ((repeat' (exact Keep.nil _)); done))
  · rintro ⟨i, ov⟩ ⟨hi, hov⟩
    simp only at hi hov ⊢
    rcases Nat.lt_or_ge i es.length with hlt | hge
    · obtain ⟨x, hx⟩ : ∃ r, es[i]? = some r := ⟨_, List.getElem?_eq_getElem (by omega)⟩
      obtain ⟨b, o9, hpe, H⟩ := hp.at hx
      replace H := H 6 SE.v_len
      have hxm := List.mem_of_getElem? hx
      have hbt := vbit_ok M x.r hM (hrt x hxm)
      have hv4 : x.v[4]? = some (.slice (ovp x.vov) x.val.length (ovc x.vov x.val.length)) := by rw [← slV_eq (hvo x hxm)]; rfl
      have hsn := rdT_snoc M hx
      have hle := rdT_le M (es.take i)
      rw [List.length_take] at hle
      cases hop : x.op with
      | false =>
        rw [if_neg (by rw [hop]; simp)] at hsn
        have hv5 : x.v[5]? = some (.bool false) := by rw [← hop]; rfl
        repeat' (first | (apply R.is1; first | (apply R.isBin; (apply R.pure; exact rfl; first | (apply Ok1.add64; exact rfl; exact rfl; omega; omega) | (apply Ok1.lss_t; exact rfl; exact rfl; omega))) | (apply R.isCall; (apply R.pure; exact rfl; (apply Ok1.lenS; (iterate 3 exact rfl)))) | (apply R.pure; exact rfl; first | (apply Ok1.load; exact rfl; (apply Ld.row1 (f := 5) H; exact rfl; exact List.not_mem_nil; exact rfl; exact rfl; exact hv5)) | (apply Ok1.indexAddrP; (iterate 4 exact rfl); exact hpe; exact rfl; omega; omega) | (apply Ok1.move; exact rfl) | (apply Ok1.fieldAddr; (iterate 5 exact rfl)) | (apply Ok1.assign; exact rfl) | (apply Ok1.pick_f; exact rfl; exact rfl))) | (apply R.isG; (apply R.guard_not; (iterate 3 exact rfl))) | apply R.nil | (apply T.is; first | apply T.seq | apply T.region | apply T.block | apply T.skip | (apply T.cond_t; exact rfl) | (apply T.cond_f; exact rfl)))
        refine ⟨(i + 1, ov), ⟨by simp only; omega, by simp only [hsn]; exact hov⟩, by simp only; omega, ?_, ?_⟩
        · simp only [hsn]; exact ⟨rfl, rfl, rfl, rfl, trivial⟩
        · simp only [hsn]; (focus ((repeat' (first | exact Ext.all _ | apply Keep.last)); done))
      | true =>
        have hv5 : x.v[5]? = some (.bool true) := by rw [← hop]; rfl
        cases hin : inM M x.r with
        | false =>
          rw [hin] at hbt
          rw [if_neg (by rw [hin]; simp)] at hsn
          repeat' (first | (apply R.is1; first | (apply R.isBin; (apply R.pure; exact rfl; first | (apply Ok1.add64; exact rfl; exact rfl; omega; omega) | (apply Ok1.lss_t; exact rfl; exact rfl; omega))) | (apply R.isCall; first | apply R.callP rfl rfl rfl hbt | (apply R.pure; exact rfl; (apply Ok1.lenS; (iterate 3 exact rfl)))) | (apply R.pure; exact rfl; first | (apply Ok1.load; exact rfl; (apply Ld.row1 (f := 5) H; exact rfl; exact List.not_mem_nil; exact rfl; exact rfl; exact hv5)) | (apply Ok1.indexAddrP; (iterate 4 exact rfl); exact hpe; exact rfl; omega; omega) | (apply Ok1.load; exact rfl; (apply Ld.row1 (f := 1) H; exact rfl; exact List.not_mem_nil; (iterate 3 exact rfl))) | (apply Ok1.move; exact rfl) | (apply Ok1.fieldAddr; (iterate 5 exact rfl)) | (apply Ok1.assign; exact rfl) | (apply Ok1.pick_t; exact rfl; exact rfl))) | (apply R.isG; (apply R.guard_run; exact rfl; exact rfl)) | apply R.nil | (apply T.is; first | apply T.seq | apply T.region | apply T.block | apply T.skip | (apply T.cond_t; exact rfl) | (apply T.cond_f; exact rfl)))
          refine ⟨(i + 1, ov), ⟨by simp only; omega, by simp only [hsn]; exact hov⟩, by simp only; omega, ?_, ?_⟩
          · simp only [hsn]; exact ⟨rfl, rfl, rfl, rfl, trivial⟩
          · simp only [hsn]; (focus ((repeat' (first | exact Ext.all _ | apply Keep.last)); done))
        | true =>
          rw [hin] at hbt
          rw [if_pos (by rw [hin, hop]; rfl)] at hsn
          generalize rdT M (es.take i) = Z at *
          repeat' (first | (apply R.is1; first | (apply R.isBin; (apply R.pure; exact rfl; first | (apply Ok1.add64; exact rfl; exact rfl; omega; omega) | (apply Ok1.lss_t; exact rfl; exact rfl; omega))) | (apply R.isCall; first | apply R.callP rfl rfl rfl hbt | (apply R.pure; exact rfl; (apply Ok1.lenS; (iterate 3 exact rfl)))) | (apply R.pure; exact rfl; first | (apply Ok1.load; exact rfl; (apply Ld.row1 (f := 5) H; exact rfl; exact List.not_mem_nil; exact rfl; exact rfl; exact hv5)) | (apply Ok1.indexAddrP; (iterate 4 exact rfl); exact hpe; exact rfl; omega; omega) | (apply Ok1.load; exact rfl; (apply Ld.row1 (f := 1) H; exact rfl; exact List.not_mem_nil; (iterate 3 exact rfl))) | (apply Ok1.move; exact rfl) | (apply Ok1.fieldAddr; (iterate 5 exact rfl)) | (apply Ok1.assign; exact rfl) | (apply Ok1.pick_t; exact rfl; exact rfl))) | (apply R.isG; (apply R.guard_run; exact rfl; exact rfl)) | apply R.nil | (apply T.is; first | (apply T.drawC (id := 6) [] (by decide); (((apply A.take 0; exact rfl; exact rfl; kernel_rfl; kernel_rfl; kernel_rfl; (apply Ok1.move; exact rfl)); refine A.cast (listed' := #[true, false, false, false, false, false, false, false, false, false, false, false, false, false, false, false, false, false, false, false, false, false, false, false, false, false, false, false]) (by kernel_rfl) ?_) <;> ((apply A.take 1; exact rfl; exact rfl; kernel_rfl; kernel_rfl; kernel_rfl; (apply Ok1.move; exact rfl)); refine A.cast (listed' := #[true, true, false, false, false, false, false, false, false, false, false, false, false, false, false, false, false, false, false, false, false, false, false, false, false, false, false, false]) (by kernel_rfl) ?_) <;> ((apply A.take 2; exact rfl; exact rfl; kernel_rfl; kernel_rfl; kernel_rfl; (apply Ok1.move; exact rfl)); refine A.cast (listed' := #[true, true, true, false, false, false, false, false, false, false, false, false, false, false, false, false, false, false, false, false, false, false, false, false, false, false, false, false]) (by kernel_rfl) ?_) <;> ((apply A.take 3; exact rfl; exact rfl; kernel_rfl; kernel_rfl; kernel_rfl; (apply Ok1.indexAddrP; (iterate 4 exact rfl); exact hpe; exact rfl; omega; omega)); refine A.cast (listed' := #[true, true, true, true, false, false, false, false, false, false, false, false, false, false, false, false, false, false, false, false, false, false, false, false, false, false, false, false]) (by kernel_rfl) ?_) <;> ((apply A.take 4; exact rfl; exact rfl; kernel_rfl; kernel_rfl; kernel_rfl; (apply Ok1.fieldAddr; (iterate 5 exact rfl))); refine A.cast (listed' := #[true, true, true, true, true, false, false, false, false, false, false, false, false, false, false, false, false, false, false, false, false, false, false, false, false, false, false, false]) (by kernel_rfl) ?_) <;> ((apply A.take 5; exact rfl; exact rfl; kernel_rfl; kernel_rfl; kernel_rfl; (apply Ok1.fieldAddr; (iterate 5 exact rfl))); refine A.cast (listed' := #[true, true, true, true, true, true, false, false, false, false, false, false, false, false, false, false, false, false, false, false, false, false, false, false, false, false, false, false]) (by kernel_rfl) ?_) <;> ((apply A.take 6; exact rfl; exact rfl; kernel_rfl; kernel_rfl; kernel_rfl; (apply Ok1.load; exact rfl; (apply Ld.row0 H; exact rfl; exact List.not_mem_nil; (iterate 3 exact rfl)))); refine A.cast (listed' := #[true, true, true, true, true, true, true, false, false, false, false, false, false, false, false, false, false, false, false, false, false, false, false, false, false, false, false, false]) (by kernel_rfl) ?_) <;> ((apply A.take 7; exact rfl; exact rfl; kernel_rfl; kernel_rfl; kernel_rfl; (apply Ok1.move; exact rfl)); refine A.cast (listed' := #[true, true, true, true, true, true, true, true, false, false, false, false, false, false, false, false, false, false, false, false, false, false, false, false, false, false, false, false]) (by kernel_rfl) ?_) <;> ((apply A.take 8; exact rfl; exact rfl; kernel_rfl; kernel_rfl; kernel_rfl; (apply Ok1.move; exact rfl)); refine A.cast (listed' := #[true, true, true, true, true, true, true, true, true, false, false, false, false, false, false, false, false, false, false, false, false, false, false, false, false, false, false, false]) (by kernel_rfl) ?_) <;> ((apply A.take 9; exact rfl; exact rfl; kernel_rfl; kernel_rfl; kernel_rfl; (apply Ok1.indexAddrP; (iterate 4 exact rfl); exact hpe; exact rfl; omega; omega)); refine A.cast (listed' := #[true, true, true, true, true, true, true, true, true, true, false, false, false, false, false, false, false, false, false, false, false, false, false, false, false, false, false, false]) (by kernel_rfl) ?_) <;> ((apply A.take 10; exact rfl; exact rfl; kernel_rfl; kernel_rfl; kernel_rfl; (apply Ok1.fieldAddr; (iterate 5 exact rfl))); refine A.cast (listed' := #[true, true, true, true, true, true, true, true, true, true, true, false, false, false, false, false, false, false, false, false, false, false, false, false, false, false, false, false]) (by kernel_rfl) ?_) <;> ((apply A.take 11; exact rfl; exact rfl; kernel_rfl; kernel_rfl; kernel_rfl; (apply Ok1.fieldAddr; (iterate 5 exact rfl))); refine A.cast (listed' := #[true, true, true, true, true, true, true, true, true, true, true, true, false, false, false, false, false, false, false, false, false, false, false, false, false, false, false, false]) (by kernel_rfl) ?_) <;> ((apply A.take 12; exact rfl; exact rfl; kernel_rfl; kernel_rfl; kernel_rfl; (apply Ok1.load; exact rfl; (apply Ld.row1 (f := 1) H; exact rfl; exact List.not_mem_nil; (iterate 3 exact rfl)))); refine A.cast (listed' := #[true, true, true, true, true, true, true, true, true, true, true, true, true, false, false, false, false, false, false, false, false, false, false, false, false, false, false, false]) (by kernel_rfl) ?_) <;> ((apply A.take 13; exact rfl; exact rfl; kernel_rfl; kernel_rfl; kernel_rfl; (apply Ok1.move; exact rfl)); refine A.cast (listed' := #[true, true, true, true, true, true, true, true, true, true, true, true, true, true, false, false, false, false, false, false, false, false, false, false, false, false, false, false]) (by kernel_rfl) ?_) <;> ((apply A.take 14; exact rfl; exact rfl; kernel_rfl; kernel_rfl; kernel_rfl; (apply Ok1.move; exact rfl)); refine A.cast (listed' := #[true, true, true, true, true, true, true, true, true, true, true, true, true, true, true, false, false, false, false, false, false, false, false, false, false, false, false, false]) (by kernel_rfl) ?_) <;> ((apply A.take 15; exact rfl; exact rfl; kernel_rfl; kernel_rfl; kernel_rfl; (apply Ok1.indexAddrP; (iterate 4 exact rfl); exact hpe; exact rfl; omega; omega)); refine A.cast (listed' := #[true, true, true, true, true, true, true, true, true, true, true, true, true, true, true, true, false, false, false, false, false, false, false, false, false, false, false, false]) (by kernel_rfl) ?_) <;> ((apply A.take 16; exact rfl; exact rfl; kernel_rfl; kernel_rfl; kernel_rfl; (apply Ok1.fieldAddr; (iterate 5 exact rfl))); refine A.cast (listed' := #[true, true, true, true, true, true, true, true, true, true, true, true, true, true, true, true, true, false, false, false, false, false, false, false, false, false, false, false]) (by kernel_rfl) ?_) <;> ((apply A.take 17; exact rfl; exact rfl; kernel_rfl; kernel_rfl; kernel_rfl; (apply Ok1.fieldAddr; (iterate 5 exact rfl))); refine A.cast (listed' := #[true, true, true, true, true, true, true, true, true, true, true, true, true, true, true, true, true, true, false, false, false, false, false, false, false, false, false, false]) (by kernel_rfl) ?_) <;> ((apply A.take 18; exact rfl; exact rfl; kernel_rfl; kernel_rfl; kernel_rfl; (apply Ok1.load; exact rfl; (apply Ld.row1 (f := 2) H; exact rfl; exact List.not_mem_nil; (iterate 3 exact rfl)))); refine A.cast (listed' := #[true, true, true, true, true, true, true, true, true, true, true, true, true, true, true, true, true, true, true, false, false, false, false, false, false, false, false, false]) (by kernel_rfl) ?_) <;> ((apply A.take 19; exact rfl; exact rfl; kernel_rfl; kernel_rfl; kernel_rfl; (apply Ok1.move; exact rfl)); refine A.cast (listed' := #[true, true, true, true, true, true, true, true, true, true, true, true, true, true, true, true, true, true, true, true, false, false, false, false, false, false, false, false]) (by kernel_rfl) ?_) <;> ((apply A.take 20; exact rfl; exact rfl; kernel_rfl; kernel_rfl; kernel_rfl; (apply Ok1.move; exact rfl)); refine A.cast (listed' := #[true, true, true, true, true, true, true, true, true, true, true, true, true, true, true, true, true, true, true, true, true, false, false, false, false, false, false, false]) (by kernel_rfl) ?_) <;> ((apply A.take 21; exact rfl; exact rfl; kernel_rfl; kernel_rfl; kernel_rfl; (apply Ok1.indexAddrP; (iterate 4 exact rfl); exact hpe; exact rfl; omega; omega)); refine A.cast (listed' := #[true, true, true, true, true, true, true, true, true, true, true, true, true, true, true, true, true, true, true, true, true, true, false, false, false, false, false, false]) (by kernel_rfl) ?_) <;> ((apply A.take 22; exact rfl; exact rfl; kernel_rfl; kernel_rfl; kernel_rfl; (apply Ok1.fieldAddr; (iterate 5 exact rfl))); refine A.cast (listed' := #[true, true, true, true, true, true, true, true, true, true, true, true, true, true, true, true, true, true, true, true, true, true, true, false, false, false, false, false]) (by kernel_rfl) ?_) <;> ((apply A.take 23; exact rfl; exact rfl; kernel_rfl; kernel_rfl; kernel_rfl; (apply Ok1.load; exact rfl; (apply Ld.row1 (f := 4) H; exact rfl; exact List.not_mem_nil; exact rfl; exact rfl; exact hv4))); refine A.cast (listed' := #[true, true, true, true, true, true, true, true, true, true, true, true, true, true, true, true, true, true, true, true, true, true, true, true, false, false, false, false]) (by kernel_rfl) ?_) <;> ((apply A.take 24; exact rfl; exact rfl; kernel_rfl; kernel_rfl; kernel_rfl; (apply Ok1.build; (iterate 5 exact rfl))); refine A.cast (listed' := #[true, true, true, true, true, true, true, true, true, true, true, true, true, true, true, true, true, true, true, true, true, true, true, true, true, false, false, false]) (by kernel_rfl) ?_) <;> (apply A.one 25; kernel_rfl; exact rfl; (((apply R.buildSlice; (iterate 12 exact rfl); intro))); apply R.nil; refine ⟨?_, ?_⟩; (focus ((repeat' (exact trivial))))) <;> (apply A.one 26; kernel_rfl; exact rfl; (((apply R.append1; (iterate 12 exact rfl); (focus ((repeat' (first | exact OwnAt.base hov | apply OwnAt.tail)); done)); exact At.head; exact rfl; exact rfl; omega; omega; intro b2 j2 k2 hj2))); apply R.nil; refine ⟨?_, ?_⟩; (focus ((repeat' (exact trivial))))) <;> ((apply A.take 27; exact rfl; exact rfl; kernel_rfl; kernel_rfl; kernel_rfl; (apply Ok1.assign; exact rfl)); refine A.cast (listed' := #[true, true, true, true, true, true, true, true, true, true, true, true, true, true, true, true, true, true, true, true, true, true, true, true, true, true, true, true]) (by kernel_rfl) ?_) <;> (apply A.done; kernel_rfl))) | apply T.seq | apply T.region | apply T.block | apply T.skip | (apply T.cond_t; exact rfl)))
          all_goals refine ⟨(i + 1, some (b2, j2, k2)), ?_⟩
          all_goals simp only [hsn, fl_snoc, List.length_append, List.length_singleton]
          all_goals refine ⟨⟨by omega, hov.some rfl hj2⟩, by omega, ⟨rfl, rfl, rfl, rfl, trivial⟩, ?_⟩
          all_goals simp only [ovp, ovc, blkL]
          all_goals (focus ((repeat' (first | exact Keep.nil _ | exact Ext.one _ _ | apply Keep.cons)); done))
    · have hm : i = es.length := by omega
      subst hm
      rw [List.take_length] at hov ⊢
      repeat' (first | (apply R.is1; first | (apply R.isBin; (apply R.pure; exact rfl; (apply Ok1.lss_f; exact rfl; exact rfl; omega))) | (apply R.isCall; (apply R.pure; exact rfl; (apply Ok1.lenS; (iterate 3 exact rfl)))) | (apply R.pure; exact rfl; first | (apply Ok1.move; exact rfl) | (apply Ok1.assign; exact rfl))) | apply R.nil | (apply T.is; first | apply T.seq | apply T.region | apply T.exit | apply T.ret | (apply T.cond_f; exact rfl)))
      (apply RetOk.t; exact rfl)
      exact ⟨_, by (focus ((repeat' (first | exact Ext.all _ | apply Keep.last)); done)), ov, hov, rfl, rfl⟩
end Go.Proofs.YtligngjcnlbgmaaGreat
set_option linter.unusedSimpArgs false
set_option linter.unusedVariables false
namespace Go.Proofs.YtligngjcnlbgmaaGreat
open Go.RowKit Go.Shelf
set_option maxRecDepth 100000
def SE.c (e : SE) : List Value := [.int .i64 e.o, .int .i64 e.r, .int .i64 e.ver, .slice (ovp e.bov) e.body.length (ovc e.bov e.body.length), .slice (ovp e.vov) e.val.length (ovc e.vov e.val.length), .bool e.op]
theorem SE.vc {e : SE} (h1 : OvOk 1 e.bov e.body.length (u8s e.body)) (h2 : OvOk 1 e.vov e.val.length (u8s e.val)) : e.v = e.c := by unfold SE.v SE.c; rw [slV_eq h1, slV_eq h2]
theorem flE_all (es : List SE) : (fl SE.v es).all Value.oneCell' = true := by
  rw [List.all_eq_true]
  intro v hv
  unfold fl at hv
  obtain ⟨l, hl, hv⟩ := List.mem_flatten.1 hv
  obtain ⟨e, _, rfl⟩ := List.mem_map.1 hl
  exact e.v_one v hv
theorem flE_len (es : List SE) : (fl SE.v es).length = es.length * 6 := by
  induction es with
  | nil => rfl
  | cons x r ih =>
    have : fl SE.v (x :: r) = x.v ++ fl SE.v r := by simp [fl]
    rw [this, List.length_append, ih, SE.v_len, List.length_cons]
    omega
theorem vput_full (p : Option Addr) (n cap : Nat) (es : List SE) (hn : n = es.length) (hl : es.length ≤ 64) (x : SE) (hE : dputE es (ek x) = 6) (w : World) (hp : RdSl w p SE.v es) : CallM Tryz.prog 34 [.slice p n cap, .agg ⟨x.c⟩] [] w fun v L => v = .tuple #[.slice p n cap, .int .i64 6] ∧ L = [] := by
  have hf := fun w1 (hc : Chg [] w w1) => vfind_ok p n cap es hn (by omega) x.o x.r w1 (hp.chg' hc (fun _ => Off.nil _))
  subst hn
  have hd : efind (ek x) es = none ∧ 64 ≤ es.length := by
    unfold dputE at hE
    cases h : efind (ek x) es with
    | some a => rw [h] at hE; exact absurd hE (by simp)
    | none =>
      rw [h] at hE
      simp only at hE
      by_cases h9 : 64 ≤ es.length
      · exact ⟨rfl, h9⟩
      · rw [if_neg h9] at hE; exact absurd hE (by decide)
  have h1 : fndI (x.o, x.r) es = -1 := by
    have : efind (x.o, x.r) es = none := hd.1
    unfold fndI; rw [this]
  rw [h1] at hf
  have h64 := hd.2
  refine enterK (tb := tb) Tryz.func34 rfl Tryz.ntmps34 rfl ?_
  simp only [SE.c]
  repeat' (first | (apply R.is1; first | (apply R.isBin; (apply R.pure; exact rfl; first | (apply Ok1.geq_t; exact rfl; exact rfl; omega) | (apply Ok1.geq_f; exact rfl; exact rfl; omega))) | (apply R.isCall; first | (apply R.callW (vs := [.slice p es.length cap, .int .i64 x.o, .int .i64 x.r]); (iterate 3 exact rfl); (intro w1 hw1; exact hf w1 hw1.chg); rintro v rfl) | (apply R.pure; exact rfl; (apply Ok1.lenS; (iterate 3 exact rfl)))) | (apply R.pure; exact rfl; first | (apply Ok1.load; exact rfl; (apply Ld.own1; exact rfl; exact rfl; exact At.head; exact rfl)) | (apply Ok1.move; exact rfl) | (apply Ok1.fieldAddr; (iterate 5 exact rfl)) | (apply Ok1.assign; exact rfl)) | (apply R.box; (iterate 3 exact rfl); intro)) | apply R.nil | (apply T.is; first | apply T.seq | apply T.region | apply T.skip | apply T.ret | (apply T.cond_t; exact rfl) | (apply T.cond_f; exact rfl)))
  (apply RetOk.tt; exact rfl; exact rfl)
  exact ⟨[], by (focus ((repeat' (exact Keep.nil _)); done)), rfl, rfl⟩
theorem vput_old (p : Option Addr) (n cap : Nat) (es : List SE) (hn : n = es.length) (hl : es.length ≤ 64) (x y : SE) (hd : efind (ek x) es = some y) (h1 : OvOk 1 x.bov x.body.length (u8s x.body)) (h2 : OvOk 1 x.vov x.val.length (u8s x.val)) (w : World) (hp : RdSl w p SE.v es) : CallM Tryz.prog 34 [.slice p n cap, .agg ⟨x.c⟩] [] w fun v L => ∃ ov, OvOk 6 ov (dputM es x).length (fl SE.v (dputM es x)) ∧ v = .tuple #[slV ov (dputM es x).length, .int .i64 0] ∧ L = blkL 91 ov (fl SE.v (dputM es x)) := by
  have hf := fun w1 (hc : Chg [] w w1) => vfind_ok p n cap es hn (by omega) x.o x.r w1 (hp.chg' hc (fun _ => Off.nil _))
  subst hn
  have h9 : fndI (x.o, x.r) es = (eidx (x.o, x.r) es : Int) := by
    have : efind (x.o, x.r) es = some y := hd
    unfold fndI; rw [this]
  have hM : dputM es x = es.set (eidx (x.o, x.r) es) x := by
    have : efind (ek x) es = some y := hd
    unfold dputM; rw [this]; rfl
  have hlt : eidx (x.o, x.r) es < es.length := eidx_some hd
  rw [h9] at hf
  rw [hM, List.length_set]
  generalize eidx (x.o, x.r) es = i at *
  have hvc := SE.vc h1 h2
  have hset : ∀ junk, setE (fl SE.v es ++ junk) (0 + i * 6) x.c = some (fl SE.v (es.set i x) ++ junk) := fun junk => by rw [← hvc]; exact setE_row SE.v_len hlt x junk
  refine enterK (tb := tb) Tryz.func34 rfl Tryz.ntmps34 rfl ?_
  simp only [SE.c] at hset ⊢
  repeat' (first | (apply R.is1; first | (apply R.buildSlice0; (iterate 4 exact rfl); intro b0) | (apply R.isBin; (apply R.pure; exact rfl; (apply Ok1.geq_t; exact rfl; exact rfl; omega))) | (apply R.isCall; first | (apply R.callW (vs := [.slice p es.length cap, .int .i64 x.o, .int .i64 x.r]); (iterate 3 exact rfl); (intro w1 hw1; exact hf w1 hw1.chg); rintro v rfl) | (apply R.appendRd (xs := es) (v := SE.v) (sz := 6) (ov := some (_, 0, [])) (n := 0) (old := []) (m := es.length); (iterate 12 exact rfl); exact ⟨rfl, rfl⟩; (focus ((repeat' (exact Ext.one _ _)); done)); exact rfl; exact SE.v_len; exact rfl; (intro w1 hw1; exact hp.chg' hw1.chg (fun _ => Off.nil _)); exact flE_all _; omega; intro ov1 hov1 hsome)) | (apply R.pure; exact rfl; first | (apply Ok1.load; exact rfl; (apply Ld.own1; exact rfl; exact rfl; exact At.head; exact rfl)) | (apply Ok1.move; exact rfl) | (apply Ok1.fieldAddr; (iterate 5 exact rfl)) | (apply Ok1.assign; exact rfl)) | (apply R.box; (iterate 3 exact rfl); intro)) | apply R.nil | (apply T.is; first | (apply T.stop1 4) | apply T.seq | apply T.region | (apply T.cond_t; exact rfl)))
  refine ⟨?_⟩
  rw [Nat.zero_add, List.nil_append] at hov1
  rw [Nat.zero_add, List.nil_append]
  obtain ⟨b1, j1, k1, rfl⟩ := ovsome hov1 (by omega)
  simp only [slV, blkL, List.cons_append, List.nil_append]
  have hs9 := hset k1
  repeat' (first | (apply R.is1; (apply R.pure; exact rfl; first | (apply Ok1.load; exact rfl; (apply Ld.ownk; exact rfl; exact rfl; (focus ((repeat' (first | exact At.head | apply At.tail)); done)); exact rfl)) | (apply Ok1.move; exact rfl) | (apply Ok1.assign; exact rfl) | (apply Ok1.indexAddr; (iterate 5 exact rfl); omega; omega))) | (apply R.is0; (apply R.store; (iterate 6 exact rfl); exact Upd.head; exact hs9)) | apply R.nil | (apply T.is; first | apply T.seq | apply T.region | apply T.ret))
  (apply RetOk.tt; exact rfl; exact rfl)
  refine ⟨_, ?_, some (b1, j1, k1), ⟨?_, hov1.2⟩, rfl, rfl⟩
  · simp only [blkL]; (focus ((repeat' (first | exact Keep.nil _ | exact Ext.one _ _ | apply Keep.cons)); done))
  · rw [flE_len, List.length_set]
theorem vput_new (p : Option Addr) (n cap : Nat) (es : List SE) (hn : n = es.length) (hnc : n ≤ cap) (hl : es.length < 64) (x : SE) (hd : efind (ek x) es = none) (h1 : OvOk 1 x.bov x.body.length (u8s x.body)) (h2 : OvOk 1 x.vov x.val.length (u8s x.val)) (w : World) (hp : RdSl w p SE.v es) : CallM Tryz.prog 34 [.slice p n cap, .agg ⟨x.c⟩] [] w fun v L => ∃ ov, OvOk 6 ov (dputM es x).length (fl SE.v (dputM es x)) ∧ v = .tuple #[slV ov (dputM es x).length, .int .i64 0] ∧ L = blkL 91 ov (fl SE.v (dputM es x)) := by
  have hf := fun w1 (hc : Chg [] w w1) => vfind_ok p n cap es hn (by omega) x.o x.r w1 (hp.chg' hc (fun _ => Off.nil _))
  subst hn
  have h9 : fndI (x.o, x.r) es = -1 := by
    have : efind (x.o, x.r) es = none := hd
    unfold fndI; rw [this]
  have hM : dputM es x = es.take (epos (x.o, x.r) es) ++ x :: es.drop (epos (x.o, x.r) es) := by
    have : efind (ek x) es = none := hd
    unfold dputM; rw [this]; exact if_neg (by omega)
  rw [h9] at hf
  have hle := epos_le (x.o, x.r) es
  have hbef := fun i y (h : i < epos (x.o, x.r) es) (hy : es[i]? = some y) => epos_before h hy
  have hat := fun y (hy : es[epos (x.o, x.r) es]? = some y) => epos_at hy
  have hfl : fl SE.v (dputM es x) = (fl SE.v (es.take (epos (x.o, x.r) es)) ++ fl SE.v [x]) ++ fl SE.v (es.drop (epos (x.o, x.r) es)) := by
    rw [hM, ← fl_app, ← fl_app, List.append_assoc]; rfl
  have hML : (dputM es x).length = epos (x.o, x.r) es + 1 + (es.length - epos (x.o, x.r) es) := by
    rw [hM, List.length_append, List.length_cons, List.length_take, List.length_drop]; omega
  rw [hfl, hML]
  clear hM hfl hML
  simp only at hbef hat
  generalize epos (x.o, x.r) es = q at *
  have htl : (es.take q).length = q := by rw [List.length_take]; omega
  have hdl : (es.drop q).length = es.length - q := List.length_drop
  have hp1 := hp.pre SE.v_len q
  have hp2 := hp.suf SE.v_len (cap := cap) (i := q) hle hnc
  have hvc := SE.vc h1 h2
  have hx1 : fl SE.v [x] = x.c := by rw [← hvc]; simp [fl]
  have hxa : (fl SE.v [x]).all Value.oneCell' = true := flE_all _
  refine enterK (tb := tb) Tryz.func34 rfl Tryz.ntmps34 rfl ?_
  simp only [SE.c] at hx1 ⊢
  repeat' (first | (apply R.is1; first | (apply R.isBin; (apply R.pure; exact rfl; (apply Ok1.geq_f; exact rfl; exact rfl; omega))) | (apply R.isCall; first | (apply R.callW (vs := [.slice p es.length cap, .int .i64 x.o, .int .i64 x.r]); (iterate 3 exact rfl); (intro w1 hw1; exact hf w1 hw1.chg); rintro v rfl) | (apply R.pure; exact rfl; (apply Ok1.lenS; (iterate 3 exact rfl)))) | (apply R.pure; exact rfl; first | (apply Ok1.load; exact rfl; (apply Ld.own1; exact rfl; exact rfl; exact At.head; exact rfl)) | (apply Ok1.move; exact rfl) | (apply Ok1.fieldAddr; (iterate 5 exact rfl)) | (apply Ok1.assign; exact rfl)) | (apply R.box; (iterate 3 exact rfl); intro)) | apply R.nil | (apply T.is; first | (refine T.meetK (x := .block 0 _) (α := Nat) (I := fun _ => True) (σi := fun b3 => [(0, .slice p es.length cap), (3, .pointer (some ⟨b3, 0, none⟩)), (6, .int .i64 q)]) (Li := fun b3 => [(b3, .cells ⟨[.int .i64 x.o, .int .i64 x.r, .int .i64 x.ver, .slice (ovp x.bov) x.body.length (ovc x.bov x.body.length), .slice (ovp x.vov) x.val.length (ovc x.vov x.val.length), .bool x.op]⟩ 91 (0, 0))]) ?_ ?_) | apply T.seq | apply T.region | apply T.block | apply T.skip | (apply T.cond_f; exact rfl)))
  · rename_i b3
    apply T.loopK (α := Nat) (I := fun i => i ≤ q) (σi := fun i => [(0, .slice p es.length cap), (3, .pointer (some ⟨b3, 0, none⟩)), (6, .int .i64 i)]) (Li := fun _ => [(b3, .cells ⟨[.int .i64 x.o, .int .i64 x.r, .int .i64 x.ver, .slice (ovp x.bov) x.body.length (ovc x.bov x.body.length), .slice (ovp x.vov) x.val.length (ovc x.vov x.val.length), .bool x.op]⟩ 91 (0, 0))]) (μ := fun i => q - i) (i0 := 0)
    · exact Nat.zero_le _
    · exact ⟨rfl, rfl, rfl, trivial⟩
    · (focus ((repeat' (first | exact Keep.nil _ | exact Ext.one _ _ | apply Keep.cons)); done))
    · intro i hi
      rcases Nat.lt_or_ge i es.length with hlt | hge
      · obtain ⟨y, hy⟩ : ∃ y, es[i]? = some y := ⟨_, List.getElem?_eq_getElem (by omega)⟩
        obtain ⟨b, o9, hpe, H⟩ := hp.at hy
        replace H := H 6 SE.v_len
        have key : (i < q ∧ y.o < x.o) ∨ (i < q ∧ y.o = x.o ∧ y.r < x.r) ∨ (i = q ∧ x.o < y.o) ∨ (i = q ∧ y.o = x.o ∧ x.r ≤ y.r) := by
          rcases Nat.lt_or_ge i q with h9 | h9
          · rcases hbef i y h9 hy with hc | ⟨hc, hc2⟩
            · exact .inl ⟨h9, hc⟩
            · exact .inr (.inl ⟨h9, hc, hc2⟩)
          · have hiq : i = q := by omega
            have hna := hat y (hiq ▸ hy)
            by_cases hc : x.o < y.o
            · exact .inr (.inr (.inl ⟨hiq, hc⟩))
            · exact .inr (.inr (.inr ⟨hiq, by omega, by omega⟩))
        clear hbef hat
        rcases key with ⟨h9, hc⟩ | ⟨h9, hc, hc2⟩ | ⟨rfl, hc⟩ | ⟨rfl, hc, hc2⟩
        all_goals repeat' (first | (apply R.is1; first | (apply R.isBin; (apply R.pure; exact rfl; (apply Ok1.add64; exact rfl; exact rfl; omega; omega))) | (apply R.pure; exact rfl; first | (apply Ok1.move; exact rfl) | (apply Ok1.assign; exact rfl))) | apply R.nil | (apply T.is; first | (apply T.drawC (id := 9) [0] (by decide); (((apply A.take 0; exact rfl; exact rfl; kernel_rfl; kernel_rfl; kernel_rfl; (apply Ok1.move; exact rfl)); refine A.cast (listed' := #[true, false, false, false, false, false, false, false, false, false, false, false, false, false, false, false, false, false, false, false, false, false, false, false, false, false, false, false, false, false, false, false, false, false, false, false, false, false, false, false]) (by kernel_rfl) ?_) <;> ((apply A.take 1; exact rfl; exact rfl; kernel_rfl; kernel_rfl; kernel_rfl; (apply Ok1.move; exact rfl)); refine A.cast (listed' := #[true, true, false, false, false, false, false, false, false, false, false, false, false, false, false, false, false, false, false, false, false, false, false, false, false, false, false, false, false, false, false, false, false, false, false, false, false, false, false, false]) (by kernel_rfl) ?_) <;> ((apply A.take 2; exact rfl; exact rfl; kernel_rfl; kernel_rfl; kernel_rfl; (apply Ok1.lenS; (iterate 3 exact rfl))); refine A.cast (listed' := #[true, true, true, false, false, false, false, false, false, false, false, false, false, false, false, false, false, false, false, false, false, false, false, false, false, false, false, false, false, false, false, false, false, false, false, false, false, false, false, false]) (by kernel_rfl) ?_) <;> (((apply A.take 3; exact rfl; exact rfl; kernel_rfl; kernel_rfl; kernel_rfl; (apply Ok1.lss_t; exact rfl; exact rfl; omega))); refine A.cast (listed' := #[true, true, true, true, false, false, false, false, false, false, false, false, false, false, false, false, false, false, false, false, false, false, false, false, false, false, false, false, false, false, false, false, false, false, false, false, false, false, false, false]) (by kernel_rfl) ?_) <;> ((apply A.take 4; exact rfl; exact rfl; kernel_rfl; kernel_rfl; kernel_rfl; (apply Ok1.move; exact rfl)); refine A.cast (listed' := #[true, true, true, true, true, false, false, false, false, false, false, false, false, false, false, false, false, false, false, false, false, false, false, false, false, false, false, false, false, false, false, false, false, false, false, false, false, false, false, false]) (by kernel_rfl) ?_) <;> (((apply A.takeG 5; exact rfl; exact rfl; rotate_left 3; exact rfl; exact rfl; rotate_right 3; kernel_rfl; kernel_rfl; kernel_rfl; (apply Ok1.move; exact rfl))); refine A.cast (listed' := #[true, true, true, true, true, true, false, false, false, false, false, false, false, false, false, false, false, false, false, false, false, false, false, false, false, false, false, false, false, false, false, false, false, false, false, false, false, false, false, false]) (by kernel_rfl) ?_) <;> (((apply A.takeG 6; exact rfl; exact rfl; rotate_left 3; exact rfl; exact rfl; rotate_right 3; kernel_rfl; kernel_rfl; kernel_rfl; (apply Ok1.move; exact rfl))); refine A.cast (listed' := #[true, true, true, true, true, true, true, false, false, false, false, false, false, false, false, false, false, false, false, false, false, false, false, false, false, false, false, false, false, false, false, false, false, false, false, false, false, false, false, false]) (by kernel_rfl) ?_) <;> (((apply A.takeG 7; exact rfl; exact rfl; rotate_left 3; exact rfl; exact rfl; rotate_right 3; kernel_rfl; kernel_rfl; kernel_rfl; (apply Ok1.indexAddrP; (iterate 4 exact rfl); exact hpe; exact rfl; omega; omega))); refine A.cast (listed' := #[true, true, true, true, true, true, true, true, false, false, false, false, false, false, false, false, false, false, false, false, false, false, false, false, false, false, false, false, false, false, false, false, false, false, false, false, false, false, false, false]) (by kernel_rfl) ?_) <;> (((apply A.takeG 8; exact rfl; exact rfl; rotate_left 3; exact rfl; exact rfl; rotate_right 3; kernel_rfl; kernel_rfl; kernel_rfl; (apply Ok1.fieldAddr; (iterate 5 exact rfl)))); refine A.cast (listed' := #[true, true, true, true, true, true, true, true, true, false, false, false, false, false, false, false, false, false, false, false, false, false, false, false, false, false, false, false, false, false, false, false, false, false, false, false, false, false, false, false]) (by kernel_rfl) ?_) <;> (((apply A.takeG 9; exact rfl; exact rfl; rotate_left 3; exact rfl; exact rfl; rotate_right 3; kernel_rfl; kernel_rfl; kernel_rfl; (apply Ok1.fieldAddr; (iterate 5 exact rfl)))); refine A.cast (listed' := #[true, true, true, true, true, true, true, true, true, true, false, false, false, false, false, false, false, false, false, false, false, false, false, false, false, false, false, false, false, false, false, false, false, false, false, false, false, false, false, false]) (by kernel_rfl) ?_) <;> (((apply A.takeG 10; exact rfl; exact rfl; rotate_left 3; exact rfl; exact rfl; rotate_right 3; kernel_rfl; kernel_rfl; kernel_rfl; (apply Ok1.load; exact rfl; (apply Ld.row0 H; exact rfl; exact List.not_mem_nil; (iterate 3 exact rfl))))); refine A.cast (listed' := #[true, true, true, true, true, true, true, true, true, true, true, false, false, false, false, false, false, false, false, false, false, false, false, false, false, false, false, false, false, false, false, false, false, false, false, false, false, false, false, false]) (by kernel_rfl) ?_) <;> (((apply A.takeG 11; exact rfl; exact rfl; rotate_left 3; exact rfl; exact rfl; rotate_right 3; kernel_rfl; kernel_rfl; kernel_rfl; (apply Ok1.fieldAddr; (iterate 5 exact rfl)))); refine A.cast (listed' := #[true, true, true, true, true, true, true, true, true, true, true, true, false, false, false, false, false, false, false, false, false, false, false, false, false, false, false, false, false, false, false, false, false, false, false, false, false, false, false, false]) (by kernel_rfl) ?_) <;> (((apply A.takeG 12; exact rfl; exact rfl; rotate_left 3; exact rfl; exact rfl; rotate_right 3; kernel_rfl; kernel_rfl; kernel_rfl; (apply Ok1.fieldAddr; (iterate 5 exact rfl)))); refine A.cast (listed' := #[true, true, true, true, true, true, true, true, true, true, true, true, true, false, false, false, false, false, false, false, false, false, false, false, false, false, false, false, false, false, false, false, false, false, false, false, false, false, false, false]) (by kernel_rfl) ?_) <;> (((apply A.takeG 13; exact rfl; exact rfl; rotate_left 3; exact rfl; exact rfl; rotate_right 3; kernel_rfl; kernel_rfl; kernel_rfl; (apply Ok1.load; exact rfl; (apply Ld.own1; exact rfl; exact rfl; exact At.head; exact rfl)))); refine A.cast (listed' := #[true, true, true, true, true, true, true, true, true, true, true, true, true, true, false, false, false, false, false, false, false, false, false, false, false, false, false, false, false, false, false, false, false, false, false, false, false, false, false, false]) (by kernel_rfl) ?_) <;> (((apply A.takeG 14; exact rfl; exact rfl; rotate_left 3; exact rfl; exact rfl; rotate_right 3; kernel_rfl; kernel_rfl; kernel_rfl; first | (apply Ok1.lss_t; exact rfl; exact rfl; omega) | (apply Ok1.lss_f; exact rfl; exact rfl; omega))); refine A.cast (listed' := #[true, true, true, true, true, true, true, true, true, true, true, true, true, true, true, false, false, false, false, false, false, false, false, false, false, false, false, false, false, false, false, false, false, false, false, false, false, false, false, false]) (by kernel_rfl) ?_) <;> (((apply A.takeG 15; exact rfl; exact rfl; rotate_left 3; exact rfl; exact rfl; rotate_right 3; kernel_rfl; kernel_rfl; kernel_rfl; (apply Ok1.move; exact rfl))); refine A.cast (listed' := #[true, true, true, true, true, true, true, true, true, true, true, true, true, true, true, true, false, false, false, false, false, false, false, false, false, false, false, false, false, false, false, false, false, false, false, false, false, false, false, false]) (by kernel_rfl) ?_) <;> ((first | (apply A.skipG 16; exact rfl; exact rfl; rotate_left 3; exact rfl; exact rfl; rotate_right 3; kernel_rfl; kernel_rfl; kernel_rfl) | (apply A.takeG 16; exact rfl; exact rfl; rotate_left 3; exact rfl; exact rfl; rotate_right 3; kernel_rfl; kernel_rfl; kernel_rfl; (apply Ok1.move; exact rfl))); refine A.cast (listed' := #[true, true, true, true, true, true, true, true, true, true, true, true, true, true, true, true, true, false, false, false, false, false, false, false, false, false, false, false, false, false, false, false, false, false, false, false, false, false, false, false]) (by kernel_rfl) ?_) <;> ((first | (apply A.skipG 17; exact rfl; exact rfl; rotate_left 3; exact rfl; exact rfl; rotate_right 3; kernel_rfl; kernel_rfl; kernel_rfl) | (apply A.takeG 17; exact rfl; exact rfl; rotate_left 3; exact rfl; exact rfl; rotate_right 3; kernel_rfl; kernel_rfl; kernel_rfl; (apply Ok1.move; exact rfl))); refine A.cast (listed' := #[true, true, true, true, true, true, true, true, true, true, true, true, true, true, true, true, true, true, false, false, false, false, false, false, false, false, false, false, false, false, false, false, false, false, false, false, false, false, false, false]) (by kernel_rfl) ?_) <;> ((first | (apply A.skipG 18; exact rfl; exact rfl; rotate_left 3; exact rfl; exact rfl; rotate_right 3; kernel_rfl; kernel_rfl; kernel_rfl) | (apply A.takeG 18; exact rfl; exact rfl; rotate_left 3; exact rfl; exact rfl; rotate_right 3; kernel_rfl; kernel_rfl; kernel_rfl; (apply Ok1.indexAddrP; (iterate 4 exact rfl); exact hpe; exact rfl; omega; omega))); refine A.cast (listed' := #[true, true, true, true, true, true, true, true, true, true, true, true, true, true, true, true, true, true, true, false, false, false, false, false, false, false, false, false, false, false, false, false, false, false, false, false, false, false, false, false]) (by kernel_rfl) ?_) <;> ((first | (apply A.skipG 19; exact rfl; exact rfl; rotate_left 3; exact rfl; exact rfl; rotate_right 3; kernel_rfl; kernel_rfl; kernel_rfl) | (apply A.takeG 19; exact rfl; exact rfl; rotate_left 3; exact rfl; exact rfl; rotate_right 3; kernel_rfl; kernel_rfl; kernel_rfl; (apply Ok1.fieldAddr; (iterate 5 exact rfl)))); refine A.cast (listed' := #[true, true, true, true, true, true, true, true, true, true, true, true, true, true, true, true, true, true, true, true, false, false, false, false, false, false, false, false, false, false, false, false, false, false, false, false, false, false, false, false]) (by kernel_rfl) ?_) <;> ((first | (apply A.skipG 20; exact rfl; exact rfl; rotate_left 3; exact rfl; exact rfl; rotate_right 3; kernel_rfl; kernel_rfl; kernel_rfl) | (apply A.takeG 20; exact rfl; exact rfl; rotate_left 3; exact rfl; exact rfl; rotate_right 3; kernel_rfl; kernel_rfl; kernel_rfl; (apply Ok1.fieldAddr; (iterate 5 exact rfl)))); refine A.cast (listed' := #[true, true, true, true, true, true, true, true, true, true, true, true, true, true, true, true, true, true, true, true, true, false, false, false, false, false, false, false, false, false, false, false, false, false, false, false, false, false, false, false]) (by kernel_rfl) ?_) <;> ((first | (apply A.skipG 21; exact rfl; exact rfl; rotate_left 3; exact rfl; exact rfl; rotate_right 3; kernel_rfl; kernel_rfl; kernel_rfl) | (apply A.takeG 21; exact rfl; exact rfl; rotate_left 3; exact rfl; exact rfl; rotate_right 3; kernel_rfl; kernel_rfl; kernel_rfl; (apply Ok1.load; exact rfl; (apply Ld.row0 H; exact rfl; exact List.not_mem_nil; (iterate 3 exact rfl))))); refine A.cast (listed' := #[true, true, true, true, true, true, true, true, true, true, true, true, true, true, true, true, true, true, true, true, true, true, false, false, false, false, false, false, false, false, false, false, false, false, false, false, false, false, false, false]) (by kernel_rfl) ?_) <;> ((first | (apply A.skipG 22; exact rfl; exact rfl; rotate_left 3; exact rfl; exact rfl; rotate_right 3; kernel_rfl; kernel_rfl; kernel_rfl) | (apply A.takeG 22; exact rfl; exact rfl; rotate_left 3; exact rfl; exact rfl; rotate_right 3; kernel_rfl; kernel_rfl; kernel_rfl; (apply Ok1.fieldAddr; (iterate 5 exact rfl)))); refine A.cast (listed' := #[true, true, true, true, true, true, true, true, true, true, true, true, true, true, true, true, true, true, true, true, true, true, true, false, false, false, false, false, false, false, false, false, false, false, false, false, false, false, false, false]) (by kernel_rfl) ?_) <;> ((first | (apply A.skipG 23; exact rfl; exact rfl; rotate_left 3; exact rfl; exact rfl; rotate_right 3; kernel_rfl; kernel_rfl; kernel_rfl) | (apply A.takeG 23; exact rfl; exact rfl; rotate_left 3; exact rfl; exact rfl; rotate_right 3; kernel_rfl; kernel_rfl; kernel_rfl; (apply Ok1.fieldAddr; (iterate 5 exact rfl)))); refine A.cast (listed' := #[true, true, true, true, true, true, true, true, true, true, true, true, true, true, true, true, true, true, true, true, true, true, true, true, false, false, false, false, false, false, false, false, false, false, false, false, false, false, false, false]) (by kernel_rfl) ?_) <;> ((first | (apply A.skipG 24; exact rfl; exact rfl; rotate_left 3; exact rfl; exact rfl; rotate_right 3; kernel_rfl; kernel_rfl; kernel_rfl) | (apply A.takeG 24; exact rfl; exact rfl; rotate_left 3; exact rfl; exact rfl; rotate_right 3; kernel_rfl; kernel_rfl; kernel_rfl; (apply Ok1.load; exact rfl; (apply Ld.own1; exact rfl; exact rfl; exact At.head; exact rfl)))); refine A.cast (listed' := #[true, true, true, true, true, true, true, true, true, true, true, true, true, true, true, true, true, true, true, true, true, true, true, true, true, false, false, false, false, false, false, false, false, false, false, false, false, false, false, false]) (by kernel_rfl) ?_) <;> ((first | (apply A.skipG 25; exact rfl; exact rfl; rotate_left 3; exact rfl; exact rfl; rotate_right 3; kernel_rfl; kernel_rfl; kernel_rfl) | (apply A.takeG 25; exact rfl; exact rfl; rotate_left 3; exact rfl; exact rfl; rotate_right 3; kernel_rfl; kernel_rfl; kernel_rfl; first | (apply Ok1.eql_t; exact rfl; exact rfl; omega) | (apply Ok1.eql_f; exact rfl; exact rfl; omega))); refine A.cast (listed' := #[true, true, true, true, true, true, true, true, true, true, true, true, true, true, true, true, true, true, true, true, true, true, true, true, true, true, false, false, false, false, false, false, false, false, false, false, false, false, false, false]) (by kernel_rfl) ?_) <;> ((first | (apply A.skipG 26; exact rfl; exact rfl; rotate_left 3; exact rfl; exact rfl; rotate_right 3; kernel_rfl; kernel_rfl; kernel_rfl) | (apply A.takeG 26; exact rfl; exact rfl; rotate_left 3; exact rfl; exact rfl; rotate_right 3; kernel_rfl; kernel_rfl; kernel_rfl; (apply Ok1.move; exact rfl))); refine A.cast (listed' := #[true, true, true, true, true, true, true, true, true, true, true, true, true, true, true, true, true, true, true, true, true, true, true, true, true, true, true, false, false, false, false, false, false, false, false, false, false, false, false, false]) (by kernel_rfl) ?_) <;> ((first | (apply A.skipG 27; exact rfl; exact rfl; rotate_left 3; exact rfl; exact rfl; rotate_right 3; kernel_rfl; kernel_rfl; kernel_rfl) | (apply A.skipU 27; exact rfl; exact rfl; rotate_left 3; exact rfl; exact rfl; rotate_right 3; kernel_rfl; kernel_rfl; kernel_rfl) | (apply A.takeG 27; exact rfl; exact rfl; rotate_left 3; exact rfl; exact rfl; rotate_right 3; kernel_rfl; kernel_rfl; kernel_rfl; (apply Ok1.move; exact rfl))); refine A.cast (listed' := #[true, true, true, true, true, true, true, true, true, true, true, true, true, true, true, true, true, true, true, true, true, true, true, true, true, true, true, true, false, false, false, false, false, false, false, false, false, false, false, false]) (by kernel_rfl) ?_) <;> ((first | (apply A.skipG 28; exact rfl; exact rfl; rotate_left 3; exact rfl; exact rfl; rotate_right 3; kernel_rfl; kernel_rfl; kernel_rfl) | (apply A.skipU 28; exact rfl; exact rfl; rotate_left 3; exact rfl; exact rfl; rotate_right 3; kernel_rfl; kernel_rfl; kernel_rfl) | (apply A.takeG 28; exact rfl; exact rfl; rotate_left 3; exact rfl; exact rfl; rotate_right 3; kernel_rfl; kernel_rfl; kernel_rfl; (apply Ok1.move; exact rfl))); refine A.cast (listed' := #[true, true, true, true, true, true, true, true, true, true, true, true, true, true, true, true, true, true, true, true, true, true, true, true, true, true, true, true, true, false, false, false, false, false, false, false, false, false, false, false]) (by kernel_rfl) ?_) <;> ((first | (apply A.skipG 29; exact rfl; exact rfl; rotate_left 3; exact rfl; exact rfl; rotate_right 3; kernel_rfl; kernel_rfl; kernel_rfl) | (apply A.skipU 29; exact rfl; exact rfl; rotate_left 3; exact rfl; exact rfl; rotate_right 3; kernel_rfl; kernel_rfl; kernel_rfl) | (apply A.takeG 29; exact rfl; exact rfl; rotate_left 3; exact rfl; exact rfl; rotate_right 3; kernel_rfl; kernel_rfl; kernel_rfl; (apply Ok1.indexAddrP; (iterate 4 exact rfl); exact hpe; exact rfl; omega; omega))); refine A.cast (listed' := #[true, true, true, true, true, true, true, true, true, true, true, true, true, true, true, true, true, true, true, true, true, true, true, true, true, true, true, true, true, true, false, false, false, false, false, false, false, false, false, false]) (by kernel_rfl) ?_) <;> ((first | (apply A.skipG 30; exact rfl; exact rfl; rotate_left 3; exact rfl; exact rfl; rotate_right 3; kernel_rfl; kernel_rfl; kernel_rfl) | (apply A.skipU 30; exact rfl; exact rfl; rotate_left 3; exact rfl; exact rfl; rotate_right 3; kernel_rfl; kernel_rfl; kernel_rfl) | (apply A.takeG 30; exact rfl; exact rfl; rotate_left 3; exact rfl; exact rfl; rotate_right 3; kernel_rfl; kernel_rfl; kernel_rfl; (apply Ok1.fieldAddr; (iterate 5 exact rfl)))); refine A.cast (listed' := #[true, true, true, true, true, true, true, true, true, true, true, true, true, true, true, true, true, true, true, true, true, true, true, true, true, true, true, true, true, true, true, false, false, false, false, false, false, false, false, false]) (by kernel_rfl) ?_) <;> ((first | (apply A.skipG 31; exact rfl; exact rfl; rotate_left 3; exact rfl; exact rfl; rotate_right 3; kernel_rfl; kernel_rfl; kernel_rfl) | (apply A.skipU 31; exact rfl; exact rfl; rotate_left 3; exact rfl; exact rfl; rotate_right 3; kernel_rfl; kernel_rfl; kernel_rfl) | (apply A.takeG 31; exact rfl; exact rfl; rotate_left 3; exact rfl; exact rfl; rotate_right 3; kernel_rfl; kernel_rfl; kernel_rfl; (apply Ok1.fieldAddr; (iterate 5 exact rfl)))); refine A.cast (listed' := #[true, true, true, true, true, true, true, true, true, true, true, true, true, true, true, true, true, true, true, true, true, true, true, true, true, true, true, true, true, true, true, true, false, false, false, false, false, false, false, false]) (by kernel_rfl) ?_) <;> ((first | (apply A.skipG 32; exact rfl; exact rfl; rotate_left 3; exact rfl; exact rfl; rotate_right 3; kernel_rfl; kernel_rfl; kernel_rfl) | (apply A.skipU 32; exact rfl; exact rfl; rotate_left 3; exact rfl; exact rfl; rotate_right 3; kernel_rfl; kernel_rfl; kernel_rfl) | (apply A.takeG 32; exact rfl; exact rfl; rotate_left 3; exact rfl; exact rfl; rotate_right 3; kernel_rfl; kernel_rfl; kernel_rfl; (apply Ok1.load; exact rfl; (apply Ld.row1 (f := 1) H; exact rfl; exact List.not_mem_nil; (iterate 3 exact rfl))))); refine A.cast (listed' := #[true, true, true, true, true, true, true, true, true, true, true, true, true, true, true, true, true, true, true, true, true, true, true, true, true, true, true, true, true, true, true, true, true, false, false, false, false, false, false, false]) (by kernel_rfl) ?_) <;> ((first | (apply A.skipG 33; exact rfl; exact rfl; rotate_left 3; exact rfl; exact rfl; rotate_right 3; kernel_rfl; kernel_rfl; kernel_rfl) | (apply A.skipU 33; exact rfl; exact rfl; rotate_left 3; exact rfl; exact rfl; rotate_right 3; kernel_rfl; kernel_rfl; kernel_rfl) | (apply A.takeG 33; exact rfl; exact rfl; rotate_left 3; exact rfl; exact rfl; rotate_right 3; kernel_rfl; kernel_rfl; kernel_rfl; (apply Ok1.fieldAddr; (iterate 5 exact rfl)))); refine A.cast (listed' := #[true, true, true, true, true, true, true, true, true, true, true, true, true, true, true, true, true, true, true, true, true, true, true, true, true, true, true, true, true, true, true, true, true, true, false, false, false, false, false, false]) (by kernel_rfl) ?_) <;> ((first | (apply A.skipG 34; exact rfl; exact rfl; rotate_left 3; exact rfl; exact rfl; rotate_right 3; kernel_rfl; kernel_rfl; kernel_rfl) | (apply A.skipU 34; exact rfl; exact rfl; rotate_left 3; exact rfl; exact rfl; rotate_right 3; kernel_rfl; kernel_rfl; kernel_rfl) | (apply A.takeG 34; exact rfl; exact rfl; rotate_left 3; exact rfl; exact rfl; rotate_right 3; kernel_rfl; kernel_rfl; kernel_rfl; (apply Ok1.fieldAddr; (iterate 5 exact rfl)))); refine A.cast (listed' := #[true, true, true, true, true, true, true, true, true, true, true, true, true, true, true, true, true, true, true, true, true, true, true, true, true, true, true, true, true, true, true, true, true, true, true, false, false, false, false, false]) (by kernel_rfl) ?_) <;> ((first | (apply A.skipG 35; exact rfl; exact rfl; rotate_left 3; exact rfl; exact rfl; rotate_right 3; kernel_rfl; kernel_rfl; kernel_rfl) | (apply A.skipU 35; exact rfl; exact rfl; rotate_left 3; exact rfl; exact rfl; rotate_right 3; kernel_rfl; kernel_rfl; kernel_rfl) | (apply A.takeG 35; exact rfl; exact rfl; rotate_left 3; exact rfl; exact rfl; rotate_right 3; kernel_rfl; kernel_rfl; kernel_rfl; (apply Ok1.load; exact rfl; (apply Ld.own1; exact rfl; exact rfl; exact At.head; exact rfl)))); refine A.cast (listed' := #[true, true, true, true, true, true, true, true, true, true, true, true, true, true, true, true, true, true, true, true, true, true, true, true, true, true, true, true, true, true, true, true, true, true, true, true, false, false, false, false]) (by kernel_rfl) ?_) <;> ((first | (apply A.skipG 36; exact rfl; exact rfl; rotate_left 3; exact rfl; exact rfl; rotate_right 3; kernel_rfl; kernel_rfl; kernel_rfl) | (apply A.skipU 36; exact rfl; exact rfl; rotate_left 3; exact rfl; exact rfl; rotate_right 3; kernel_rfl; kernel_rfl; kernel_rfl) | (apply A.takeG 36; exact rfl; exact rfl; rotate_left 3; exact rfl; exact rfl; rotate_right 3; kernel_rfl; kernel_rfl; kernel_rfl; first | (apply Ok1.lss_t; exact rfl; exact rfl; omega) | (apply Ok1.lss_f; exact rfl; exact rfl; omega))); refine A.cast (listed' := #[true, true, true, true, true, true, true, true, true, true, true, true, true, true, true, true, true, true, true, true, true, true, true, true, true, true, true, true, true, true, true, true, true, true, true, true, true, false, false, false]) (by kernel_rfl) ?_) <;> ((first | (apply A.skipG 37; exact rfl; exact rfl; rotate_left 3; exact rfl; exact rfl; rotate_right 3; kernel_rfl; kernel_rfl; kernel_rfl) | (apply A.takeG 37; exact rfl; exact rfl; rotate_left 3; exact rfl; exact rfl; rotate_right 3; kernel_rfl; kernel_rfl; kernel_rfl; first | (apply Ok1.pick_t; exact rfl; exact rfl) | (apply Ok1.pick_f; exact rfl; exact rfl))); refine A.cast (listed' := #[true, true, true, true, true, true, true, true, true, true, true, true, true, true, true, true, true, true, true, true, true, true, true, true, true, true, true, true, true, true, true, true, true, true, true, true, true, true, false, false]) (by kernel_rfl) ?_) <;> (((apply A.takeG 38; exact rfl; exact rfl; rotate_left 3; exact rfl; exact rfl; rotate_right 3; kernel_rfl; kernel_rfl; kernel_rfl; first | (apply Ok1.pick_t; exact rfl; exact rfl) | (apply Ok1.pick_f; exact rfl; exact rfl))); refine A.cast (listed' := #[true, true, true, true, true, true, true, true, true, true, true, true, true, true, true, true, true, true, true, true, true, true, true, true, true, true, true, true, true, true, true, true, true, true, true, true, true, true, true, false]) (by kernel_rfl) ?_) <;> ((apply A.take 39; exact rfl; exact rfl; kernel_rfl; kernel_rfl; kernel_rfl; (apply Ok1.pick_t; exact rfl; exact rfl)); refine A.cast (listed' := #[true, true, true, true, true, true, true, true, true, true, true, true, true, true, true, true, true, true, true, true, true, true, true, true, true, true, true, true, true, true, true, true, true, true, true, true, true, true, true, true]) (by kernel_rfl) ?_) <;> (apply A.done; kernel_rfl))) | apply T.seq | apply T.region | apply T.block | apply T.skip | apply T.exit | (apply T.cond_t; exact rfl) | (apply T.cond_f; exact rfl)))
        all_goals first
          | exact ⟨b3, trivial, ⟨rfl, rfl, rfl, trivial⟩, by (focus ((repeat' (first | exact Keep.nil _ | exact Ext.one _ _ | apply Keep.cons)); done))⟩
          | exact ⟨i + 1, by omega, by omega, ⟨rfl, rfl, rfl, trivial⟩, by (focus ((repeat' (first | exact Keep.nil _ | exact Ext.one _ _ | apply Keep.cons)); done))⟩
      · have hiq : i = q := by omega
        subst hiq
        have hie : i = es.length := by omega
        subst hie
        repeat' ((apply T.is; first | (apply T.drawC (id := 9) [0] (by decide); (((apply A.take 0; exact rfl; exact rfl; kernel_rfl; kernel_rfl; kernel_rfl; (apply Ok1.move; exact rfl)); refine A.cast (listed' := #[true, false, false, false, false, false, false, false, false, false, false, false, false, false, false, false, false, false, false, false, false, false, false, false, false, false, false, false, false, false, false, false, false, false, false, false, false, false, false, false]) (by kernel_rfl) ?_) <;> ((apply A.take 1; exact rfl; exact rfl; kernel_rfl; kernel_rfl; kernel_rfl; (apply Ok1.move; exact rfl)); refine A.cast (listed' := #[true, true, false, false, false, false, false, false, false, false, false, false, false, false, false, false, false, false, false, false, false, false, false, false, false, false, false, false, false, false, false, false, false, false, false, false, false, false, false, false]) (by kernel_rfl) ?_) <;> ((apply A.take 2; exact rfl; exact rfl; kernel_rfl; kernel_rfl; kernel_rfl; (apply Ok1.lenS; (iterate 3 exact rfl))); refine A.cast (listed' := #[true, true, true, false, false, false, false, false, false, false, false, false, false, false, false, false, false, false, false, false, false, false, false, false, false, false, false, false, false, false, false, false, false, false, false, false, false, false, false, false]) (by kernel_rfl) ?_) <;> (((apply A.take 3; exact rfl; exact rfl; kernel_rfl; kernel_rfl; kernel_rfl; (apply Ok1.lss_f; exact rfl; exact rfl; omega))); refine A.cast (listed' := #[true, true, true, true, false, false, false, false, false, false, false, false, false, false, false, false, false, false, false, false, false, false, false, false, false, false, false, false, false, false, false, false, false, false, false, false, false, false, false, false]) (by kernel_rfl) ?_) <;> ((apply A.take 4; exact rfl; exact rfl; kernel_rfl; kernel_rfl; kernel_rfl; (apply Ok1.move; exact rfl)); refine A.cast (listed' := #[true, true, true, true, true, false, false, false, false, false, false, false, false, false, false, false, false, false, false, false, false, false, false, false, false, false, false, false, false, false, false, false, false, false, false, false, false, false, false, false]) (by kernel_rfl) ?_) <;> (((apply A.skipG 5; exact rfl; exact rfl; rotate_left 3; exact rfl; exact rfl; rotate_right 3; kernel_rfl; kernel_rfl; kernel_rfl)); refine A.cast (listed' := #[true, true, true, true, true, true, false, false, false, false, false, false, false, false, false, false, false, false, false, false, false, false, false, false, false, false, false, false, false, false, false, false, false, false, false, false, false, false, false, false]) (by kernel_rfl) ?_) <;> (((apply A.skipG 6; exact rfl; exact rfl; rotate_left 3; exact rfl; exact rfl; rotate_right 3; kernel_rfl; kernel_rfl; kernel_rfl)); refine A.cast (listed' := #[true, true, true, true, true, true, true, false, false, false, false, false, false, false, false, false, false, false, false, false, false, false, false, false, false, false, false, false, false, false, false, false, false, false, false, false, false, false, false, false]) (by kernel_rfl) ?_) <;> (((apply A.skipG 7; exact rfl; exact rfl; rotate_left 3; exact rfl; exact rfl; rotate_right 3; kernel_rfl; kernel_rfl; kernel_rfl)); refine A.cast (listed' := #[true, true, true, true, true, true, true, true, false, false, false, false, false, false, false, false, false, false, false, false, false, false, false, false, false, false, false, false, false, false, false, false, false, false, false, false, false, false, false, false]) (by kernel_rfl) ?_) <;> (((apply A.skipG 8; exact rfl; exact rfl; rotate_left 3; exact rfl; exact rfl; rotate_right 3; kernel_rfl; kernel_rfl; kernel_rfl)); refine A.cast (listed' := #[true, true, true, true, true, true, true, true, true, false, false, false, false, false, false, false, false, false, false, false, false, false, false, false, false, false, false, false, false, false, false, false, false, false, false, false, false, false, false, false]) (by kernel_rfl) ?_) <;> (((apply A.skipG 9; exact rfl; exact rfl; rotate_left 3; exact rfl; exact rfl; rotate_right 3; kernel_rfl; kernel_rfl; kernel_rfl)); refine A.cast (listed' := #[true, true, true, true, true, true, true, true, true, true, false, false, false, false, false, false, false, false, false, false, false, false, false, false, false, false, false, false, false, false, false, false, false, false, false, false, false, false, false, false]) (by kernel_rfl) ?_) <;> (((apply A.skipG 10; exact rfl; exact rfl; rotate_left 3; exact rfl; exact rfl; rotate_right 3; kernel_rfl; kernel_rfl; kernel_rfl)); refine A.cast (listed' := #[true, true, true, true, true, true, true, true, true, true, true, false, false, false, false, false, false, false, false, false, false, false, false, false, false, false, false, false, false, false, false, false, false, false, false, false, false, false, false, false]) (by kernel_rfl) ?_) <;> (((apply A.skipG 11; exact rfl; exact rfl; rotate_left 3; exact rfl; exact rfl; rotate_right 3; kernel_rfl; kernel_rfl; kernel_rfl)); refine A.cast (listed' := #[true, true, true, true, true, true, true, true, true, true, true, true, false, false, false, false, false, false, false, false, false, false, false, false, false, false, false, false, false, false, false, false, false, false, false, false, false, false, false, false]) (by kernel_rfl) ?_) <;> (((apply A.skipG 12; exact rfl; exact rfl; rotate_left 3; exact rfl; exact rfl; rotate_right 3; kernel_rfl; kernel_rfl; kernel_rfl)); refine A.cast (listed' := #[true, true, true, true, true, true, true, true, true, true, true, true, true, false, false, false, false, false, false, false, false, false, false, false, false, false, false, false, false, false, false, false, false, false, false, false, false, false, false, false]) (by kernel_rfl) ?_) <;> (((apply A.skipG 13; exact rfl; exact rfl; rotate_left 3; exact rfl; exact rfl; rotate_right 3; kernel_rfl; kernel_rfl; kernel_rfl)); refine A.cast (listed' := #[true, true, true, true, true, true, true, true, true, true, true, true, true, true, false, false, false, false, false, false, false, false, false, false, false, false, false, false, false, false, false, false, false, false, false, false, false, false, false, false]) (by kernel_rfl) ?_) <;> (((apply A.skipG 14; exact rfl; exact rfl; rotate_left 3; exact rfl; exact rfl; rotate_right 3; kernel_rfl; kernel_rfl; kernel_rfl)); refine A.cast (listed' := #[true, true, true, true, true, true, true, true, true, true, true, true, true, true, true, false, false, false, false, false, false, false, false, false, false, false, false, false, false, false, false, false, false, false, false, false, false, false, false, false]) (by kernel_rfl) ?_) <;> (((apply A.skipG 15; exact rfl; exact rfl; rotate_left 3; exact rfl; exact rfl; rotate_right 3; kernel_rfl; kernel_rfl; kernel_rfl)); refine A.cast (listed' := #[true, true, true, true, true, true, true, true, true, true, true, true, true, true, true, true, false, false, false, false, false, false, false, false, false, false, false, false, false, false, false, false, false, false, false, false, false, false, false, false]) (by kernel_rfl) ?_) <;> (((apply A.skipU 16; exact rfl; exact rfl; rotate_left 3; exact rfl; exact rfl; rotate_right 3; kernel_rfl; kernel_rfl; kernel_rfl)); refine A.cast (listed' := #[true, true, true, true, true, true, true, true, true, true, true, true, true, true, true, true, true, false, false, false, false, false, false, false, false, false, false, false, false, false, false, false, false, false, false, false, false, false, false, false]) (by kernel_rfl) ?_) <;> (((apply A.skipU 17; exact rfl; exact rfl; rotate_left 3; exact rfl; exact rfl; rotate_right 3; kernel_rfl; kernel_rfl; kernel_rfl)); refine A.cast (listed' := #[true, true, true, true, true, true, true, true, true, true, true, true, true, true, true, true, true, true, false, false, false, false, false, false, false, false, false, false, false, false, false, false, false, false, false, false, false, false, false, false]) (by kernel_rfl) ?_) <;> (((apply A.skipU 18; exact rfl; exact rfl; rotate_left 3; exact rfl; exact rfl; rotate_right 3; kernel_rfl; kernel_rfl; kernel_rfl)); refine A.cast (listed' := #[true, true, true, true, true, true, true, true, true, true, true, true, true, true, true, true, true, true, true, false, false, false, false, false, false, false, false, false, false, false, false, false, false, false, false, false, false, false, false, false]) (by kernel_rfl) ?_) <;> (((apply A.skipU 19; exact rfl; exact rfl; rotate_left 3; exact rfl; exact rfl; rotate_right 3; kernel_rfl; kernel_rfl; kernel_rfl)); refine A.cast (listed' := #[true, true, true, true, true, true, true, true, true, true, true, true, true, true, true, true, true, true, true, true, false, false, false, false, false, false, false, false, false, false, false, false, false, false, false, false, false, false, false, false]) (by kernel_rfl) ?_) <;> (((apply A.skipU 20; exact rfl; exact rfl; rotate_left 3; exact rfl; exact rfl; rotate_right 3; kernel_rfl; kernel_rfl; kernel_rfl)); refine A.cast (listed' := #[true, true, true, true, true, true, true, true, true, true, true, true, true, true, true, true, true, true, true, true, true, false, false, false, false, false, false, false, false, false, false, false, false, false, false, false, false, false, false, false]) (by kernel_rfl) ?_) <;> (((apply A.skipU 21; exact rfl; exact rfl; rotate_left 3; exact rfl; exact rfl; rotate_right 3; kernel_rfl; kernel_rfl; kernel_rfl)); refine A.cast (listed' := #[true, true, true, true, true, true, true, true, true, true, true, true, true, true, true, true, true, true, true, true, true, true, false, false, false, false, false, false, false, false, false, false, false, false, false, false, false, false, false, false]) (by kernel_rfl) ?_) <;> (((apply A.skipU 22; exact rfl; exact rfl; rotate_left 3; exact rfl; exact rfl; rotate_right 3; kernel_rfl; kernel_rfl; kernel_rfl)); refine A.cast (listed' := #[true, true, true, true, true, true, true, true, true, true, true, true, true, true, true, true, true, true, true, true, true, true, true, false, false, false, false, false, false, false, false, false, false, false, false, false, false, false, false, false]) (by kernel_rfl) ?_) <;> (((apply A.skipU 23; exact rfl; exact rfl; rotate_left 3; exact rfl; exact rfl; rotate_right 3; kernel_rfl; kernel_rfl; kernel_rfl)); refine A.cast (listed' := #[true, true, true, true, true, true, true, true, true, true, true, true, true, true, true, true, true, true, true, true, true, true, true, true, false, false, false, false, false, false, false, false, false, false, false, false, false, false, false, false]) (by kernel_rfl) ?_) <;> (((apply A.skipU 24; exact rfl; exact rfl; rotate_left 3; exact rfl; exact rfl; rotate_right 3; kernel_rfl; kernel_rfl; kernel_rfl)); refine A.cast (listed' := #[true, true, true, true, true, true, true, true, true, true, true, true, true, true, true, true, true, true, true, true, true, true, true, true, true, false, false, false, false, false, false, false, false, false, false, false, false, false, false, false]) (by kernel_rfl) ?_) <;> (((apply A.skipU 25; exact rfl; exact rfl; rotate_left 3; exact rfl; exact rfl; rotate_right 3; kernel_rfl; kernel_rfl; kernel_rfl)); refine A.cast (listed' := #[true, true, true, true, true, true, true, true, true, true, true, true, true, true, true, true, true, true, true, true, true, true, true, true, true, true, false, false, false, false, false, false, false, false, false, false, false, false, false, false]) (by kernel_rfl) ?_) <;> (((apply A.skipU 26; exact rfl; exact rfl; rotate_left 3; exact rfl; exact rfl; rotate_right 3; kernel_rfl; kernel_rfl; kernel_rfl)); refine A.cast (listed' := #[true, true, true, true, true, true, true, true, true, true, true, true, true, true, true, true, true, true, true, true, true, true, true, true, true, true, true, false, false, false, false, false, false, false, false, false, false, false, false, false]) (by kernel_rfl) ?_) <;> (((apply A.skipU 27; exact rfl; exact rfl; rotate_left 3; exact rfl; exact rfl; rotate_right 3; kernel_rfl; kernel_rfl; kernel_rfl)); refine A.cast (listed' := #[true, true, true, true, true, true, true, true, true, true, true, true, true, true, true, true, true, true, true, true, true, true, true, true, true, true, true, true, false, false, false, false, false, false, false, false, false, false, false, false]) (by kernel_rfl) ?_) <;> (((apply A.skipU 28; exact rfl; exact rfl; rotate_left 3; exact rfl; exact rfl; rotate_right 3; kernel_rfl; kernel_rfl; kernel_rfl)); refine A.cast (listed' := #[true, true, true, true, true, true, true, true, true, true, true, true, true, true, true, true, true, true, true, true, true, true, true, true, true, true, true, true, true, false, false, false, false, false, false, false, false, false, false, false]) (by kernel_rfl) ?_) <;> (((apply A.skipU 29; exact rfl; exact rfl; rotate_left 3; exact rfl; exact rfl; rotate_right 3; kernel_rfl; kernel_rfl; kernel_rfl)); refine A.cast (listed' := #[true, true, true, true, true, true, true, true, true, true, true, true, true, true, true, true, true, true, true, true, true, true, true, true, true, true, true, true, true, true, false, false, false, false, false, false, false, false, false, false]) (by kernel_rfl) ?_) <;> (((apply A.skipU 30; exact rfl; exact rfl; rotate_left 3; exact rfl; exact rfl; rotate_right 3; kernel_rfl; kernel_rfl; kernel_rfl)); refine A.cast (listed' := #[true, true, true, true, true, true, true, true, true, true, true, true, true, true, true, true, true, true, true, true, true, true, true, true, true, true, true, true, true, true, true, false, false, false, false, false, false, false, false, false]) (by kernel_rfl) ?_) <;> (((apply A.skipU 31; exact rfl; exact rfl; rotate_left 3; exact rfl; exact rfl; rotate_right 3; kernel_rfl; kernel_rfl; kernel_rfl)); refine A.cast (listed' := #[true, true, true, true, true, true, true, true, true, true, true, true, true, true, true, true, true, true, true, true, true, true, true, true, true, true, true, true, true, true, true, true, false, false, false, false, false, false, false, false]) (by kernel_rfl) ?_) <;> (((apply A.skipU 32; exact rfl; exact rfl; rotate_left 3; exact rfl; exact rfl; rotate_right 3; kernel_rfl; kernel_rfl; kernel_rfl)); refine A.cast (listed' := #[true, true, true, true, true, true, true, true, true, true, true, true, true, true, true, true, true, true, true, true, true, true, true, true, true, true, true, true, true, true, true, true, true, false, false, false, false, false, false, false]) (by kernel_rfl) ?_) <;> (((apply A.skipU 33; exact rfl; exact rfl; rotate_left 3; exact rfl; exact rfl; rotate_right 3; kernel_rfl; kernel_rfl; kernel_rfl)); refine A.cast (listed' := #[true, true, true, true, true, true, true, true, true, true, true, true, true, true, true, true, true, true, true, true, true, true, true, true, true, true, true, true, true, true, true, true, true, true, false, false, false, false, false, false]) (by kernel_rfl) ?_) <;> (((apply A.skipU 34; exact rfl; exact rfl; rotate_left 3; exact rfl; exact rfl; rotate_right 3; kernel_rfl; kernel_rfl; kernel_rfl)); refine A.cast (listed' := #[true, true, true, true, true, true, true, true, true, true, true, true, true, true, true, true, true, true, true, true, true, true, true, true, true, true, true, true, true, true, true, true, true, true, true, false, false, false, false, false]) (by kernel_rfl) ?_) <;> (((apply A.skipU 35; exact rfl; exact rfl; rotate_left 3; exact rfl; exact rfl; rotate_right 3; kernel_rfl; kernel_rfl; kernel_rfl)); refine A.cast (listed' := #[true, true, true, true, true, true, true, true, true, true, true, true, true, true, true, true, true, true, true, true, true, true, true, true, true, true, true, true, true, true, true, true, true, true, true, true, false, false, false, false]) (by kernel_rfl) ?_) <;> (((apply A.skipU 36; exact rfl; exact rfl; rotate_left 3; exact rfl; exact rfl; rotate_right 3; kernel_rfl; kernel_rfl; kernel_rfl)); refine A.cast (listed' := #[true, true, true, true, true, true, true, true, true, true, true, true, true, true, true, true, true, true, true, true, true, true, true, true, true, true, true, true, true, true, true, true, true, true, true, true, true, false, false, false]) (by kernel_rfl) ?_) <;> (((apply A.skipU 37; exact rfl; exact rfl; rotate_left 3; exact rfl; exact rfl; rotate_right 3; kernel_rfl; kernel_rfl; kernel_rfl)); refine A.cast (listed' := #[true, true, true, true, true, true, true, true, true, true, true, true, true, true, true, true, true, true, true, true, true, true, true, true, true, true, true, true, true, true, true, true, true, true, true, true, true, true, false, false]) (by kernel_rfl) ?_) <;> (((apply A.skipG 38; exact rfl; exact rfl; rotate_left 3; exact rfl; exact rfl; rotate_right 3; kernel_rfl; kernel_rfl; kernel_rfl)); refine A.cast (listed' := #[true, true, true, true, true, true, true, true, true, true, true, true, true, true, true, true, true, true, true, true, true, true, true, true, true, true, true, true, true, true, true, true, true, true, true, true, true, true, true, false]) (by kernel_rfl) ?_) <;> ((apply A.take 39; exact rfl; exact rfl; kernel_rfl; kernel_rfl; kernel_rfl; (apply Ok1.pick_f; exact rfl; exact rfl)); refine A.cast (listed' := #[true, true, true, true, true, true, true, true, true, true, true, true, true, true, true, true, true, true, true, true, true, true, true, true, true, true, true, true, true, true, true, true, true, true, true, true, true, true, true, true]) (by kernel_rfl) ?_) <;> (apply A.done; kernel_rfl))) | apply T.seq | apply T.exit | (apply T.cond_f; exact rfl)))
        exact ⟨b3, trivial, ⟨rfl, rfl, rfl, trivial⟩, by (focus ((repeat' (first | exact Keep.nil _ | exact Ext.one _ _ | apply Keep.cons)); done))⟩
  · intro b3 _
    repeat' ((apply T.is; first | (apply T.stop1 12) | (apply T.drawC (id := 11) [0] (by decide); ((apply A.take 1; exact rfl; exact rfl; kernel_rfl; kernel_rfl; kernel_rfl; (apply Ok1.move; exact rfl)) <;> (apply A.take 2; exact rfl; exact rfl; kernel_rfl; kernel_rfl; kernel_rfl; (apply Ok1.move; exact rfl)) <;> (apply A.take 3; exact rfl; exact rfl; kernel_rfl; kernel_rfl; kernel_rfl; (apply Ok1.preR (i := q); (iterate 5 exact rfl); omega)) <;> (apply A.take 5; exact rfl; exact rfl; kernel_rfl; kernel_rfl; kernel_rfl; (apply Ok1.load; exact rfl; (apply Ld.ownk; exact rfl; exact rfl; exact At.head; exact rfl))) <;> (apply A.two 0 6; kernel_rfl; exact rfl; exact rfl; rotate_left 1; (focus (((((apply R.buildSlice; (iterate 12 exact rfl); intro))); apply R.nil; refine ⟨?_, ?_⟩; (focus ((repeat' (first | exact trivial | (refine ⟨?_, ?_⟩; (focus ((repeat' (first | exact At.head | apply At.tail)); done)))))))) <;> (apply A.one 0; kernel_rfl; exact rfl; (((apply R.buildSlice0; (iterate 4 exact rfl); intro b0))); apply R.nil; refine ⟨?_, ?_⟩; (focus ((repeat' (first | exact trivial | (refine ⟨?_, ?_⟩; (focus ((repeat' (first | exact At.head | apply At.tail)); done)))))))) <;> (apply A.one 4; kernel_rfl; exact rfl; (((apply R.appendRd (xs := es.take q) (v := SE.v) (sz := 6) (ov := some (_, 0, [])) (n := 0) (old := []) (m := q); (iterate 12 exact rfl); exact ⟨rfl, rfl⟩; (focus ((repeat' (exact Ext.one _ _)); done)); exact htl.symm; exact SE.v_len; exact rfl; (intro w1 hw1; exact hp1.chg' hw1.chg (fun _ => Off.nil _)); exact flE_all _; omega; intro ov1 hov1 hsome1; rw [Nat.zero_add, List.nil_append] at hov1; rw [Nat.zero_add, List.nil_append]))); apply R.nil; refine ⟨?_, ?_⟩; (focus ((repeat' (first | exact trivial | (refine ⟨?_, ?_⟩; (focus ((repeat' (first | exact At.head | apply At.tail | apply At.right)); done)))))))) <;> (apply A.one 7; kernel_rfl; exact rfl; (((apply R.appendRd (xs := [x]) (v := SE.v) (sz := 6) (ov := ov1) (n := q) (old := fl SE.v (es.take q)) (m := 1); (iterate 12 exact rfl); exact hov1; (focus ((repeat' (exact Ext.here _ _)); done)); exact rfl; exact SE.v_len; exact rfl; (intro w1 hw1; exact RdSl.of (junk := []) hw1 (by (focus ((repeat' (first | exact At.head | apply At.right)); done))) (by rw [hx1, List.append_nil])); exact hxa; omega; intro ov2 hov2 hsome2))); apply R.nil; refine ⟨?_, ?_⟩; (focus ((repeat' (first | exact trivial | (refine ⟨?_, ?_⟩; (focus ((repeat' (first | exact At.head | apply At.tail | apply At.right)); done)))))))) <;> (apply A.take 8; exact rfl; exact rfl; kernel_rfl; kernel_rfl; kernel_rfl; (apply Ok1.assign; exact rfl)) <;> (apply A.done; kernel_rfl))); rotate_right 1; (focus (((((apply R.buildSlice0; (iterate 4 exact rfl); intro b0))); apply R.nil; refine ⟨?_, ?_⟩; (focus ((repeat' (first | exact trivial | (refine ⟨?_, ?_⟩; (focus ((repeat' (first | exact At.head | apply At.tail)); done)))))))) <;> (apply A.two 4 6; kernel_rfl; exact rfl; exact rfl; rotate_left 1; (focus (((((apply R.buildSlice; (iterate 12 exact rfl); intro))); apply R.nil; refine ⟨?_, ?_⟩; (focus ((repeat' (first | exact trivial | (refine ⟨?_, ?_⟩; (focus ((repeat' (first | exact At.head | apply At.tail)); done)))))))) <;> (apply A.one 4; kernel_rfl; exact rfl; (((apply R.appendRd (xs := es.take q) (v := SE.v) (sz := 6) (ov := some (_, 0, [])) (n := 0) (old := []) (m := q); (iterate 12 exact rfl); exact ⟨rfl, rfl⟩; (focus ((repeat' (first | exact Ext.one _ _ | apply Ext.cons)); done)); exact htl.symm; exact SE.v_len; exact rfl; (intro w1 hw1; exact hp1.chg' hw1.chg (fun _ => Off.nil _)); exact flE_all _; omega; intro ov1 hov1 hsome1; rw [Nat.zero_add, List.nil_append] at hov1; rw [Nat.zero_add, List.nil_append]))); apply R.nil; refine ⟨?_, ?_⟩; (focus ((repeat' (first | exact trivial | (refine ⟨?_, ?_⟩; (focus ((repeat' (first | exact At.head | apply At.tail | apply At.right)); done)))))))) <;> (apply A.one 7; kernel_rfl; exact rfl; (((apply R.appendRd (xs := [x]) (v := SE.v) (sz := 6) (ov := ov1) (n := q) (old := fl SE.v (es.take q)) (m := 1); (iterate 12 exact rfl); exact hov1; (focus ((repeat' (exact Ext.here _ _)); done)); exact rfl; exact SE.v_len; exact rfl; (intro w1 hw1; exact RdSl.of (junk := []) hw1 (by (focus ((repeat' (first | exact At.head | apply At.right)); done))) (by rw [hx1, List.append_nil])); exact hxa; omega; intro ov2 hov2 hsome2))); apply R.nil; refine ⟨?_, ?_⟩; (focus ((repeat' (first | exact trivial | (refine ⟨?_, ?_⟩; (focus ((repeat' (first | exact At.head | apply At.tail | apply At.right)); done)))))))) <;> (apply A.take 8; exact rfl; exact rfl; kernel_rfl; kernel_rfl; kernel_rfl; (apply Ok1.assign; exact rfl)) <;> (apply A.done; kernel_rfl))); rotate_right 1; (focus (((((apply R.appendRd (xs := es.take q) (v := SE.v) (sz := 6) (ov := some (_, 0, [])) (n := 0) (old := []) (m := q); (iterate 12 exact rfl); exact ⟨rfl, rfl⟩; (focus ((repeat' (exact Ext.one _ _)); done)); exact htl.symm; exact SE.v_len; exact rfl; (intro w1 hw1; exact hp1.chg' hw1.chg (fun _ => Off.nil _)); exact flE_all _; omega; intro ov1 hov1 hsome1; rw [Nat.zero_add, List.nil_append] at hov1; rw [Nat.zero_add, List.nil_append]))); apply R.nil; refine ⟨?_, ?_⟩; (focus ((repeat' (first | exact trivial | (refine ⟨?_, ?_⟩; (focus ((repeat' (first | exact At.head | apply At.right)); done)))))))) <;> (apply A.one 6; kernel_rfl; exact rfl; (((apply R.buildSlice; (iterate 12 exact rfl); intro))); apply R.nil; refine ⟨?_, ?_⟩; (focus ((repeat' (first | exact trivial | (refine ⟨?_, ?_⟩; (focus ((repeat' (first | exact At.head | apply At.tail | apply At.right)); done)))))))) <;> (apply A.one 7; kernel_rfl; exact rfl; (((apply R.appendRd (xs := [x]) (v := SE.v) (sz := 6) (ov := ov1) (n := q) (old := fl SE.v (es.take q)) (m := 1); (iterate 12 exact rfl); exact hov1; (focus ((repeat' (first | exact Ext.here _ _ | apply Ext.cons)); done)); exact rfl; exact SE.v_len; exact rfl; (intro w1 hw1; exact RdSl.of (junk := []) hw1 (by exact At.head) (by rw [hx1, List.append_nil])); exact hxa; omega; intro ov2 hov2 hsome2))); apply R.nil; refine ⟨?_, ?_⟩; (focus ((repeat' (first | exact trivial | (refine ⟨?_, ?_⟩; (focus ((repeat' (first | exact At.head | apply At.tail | apply At.right)); done)))))))) <;> (apply A.take 8; exact rfl; exact rfl; kernel_rfl; kernel_rfl; kernel_rfl; (apply Ok1.assign; exact rfl)) <;> (apply A.done; kernel_rfl))))))))) | apply T.seq))
    all_goals refine ⟨?_⟩
    all_goals repeat' (first | (apply R.is1; first | (apply R.isCall; (apply R.appendRd (xs := es.drop q) (v := SE.v) (sz := 6) (ov := ov2) (n := q + 1) (old := fl SE.v (es.take q) ++ fl SE.v [x]) (m := es.length - q); (iterate 12 exact rfl); exact hov2; (focus ((repeat' (exact Ext.here _ _)); done)); exact hdl.symm; exact SE.v_len; exact rfl; (intro w1 hw1; exact hp2.chg' hw1.chg (fun _ => Off.nil _)); exact flE_all _; omega; intro ov3 hov3 hsome3)) | (apply R.pure; exact rfl; first | (apply Ok1.sufR (i := q) (sz := 6); (iterate 6 exact rfl); omega; omega) | (apply Ok1.move; exact rfl) | (apply Ok1.assign; exact rfl))) | apply R.nil | (apply T.is; first | apply T.seq | apply T.region | apply T.ret))
    all_goals (apply RetOk.tt; exact rfl; exact rfl)
    all_goals exact ⟨_, by (focus ((repeat' (first | exact Ext.here _ _ | apply Keep.last)); done)), ov3, hov3, rfl, rfl⟩
end Go.Proofs.YtligngjcnlbgmaaGreat
