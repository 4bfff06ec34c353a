/- Texts of the proof: Fr4, Da5, Fr5, Fr6, Fr7, Fr8, Fr9, Fh1, Fh2. -/
import Derived.Test.YtolnagbahceebaaGreatL17hb4
set_option linter.unusedSimpArgs false
set_option linter.unusedVariables false
namespace Go.Proofs.YtolnagbahceebaaGreat
open Go.RowKit Go.Shelf
set_option maxRecDepth 100000
def FrC (bs : Nat) (ov : Ov) (n : Nat) (since : Int) (is : Bool) : List Value := [.pointer (some ⟨bs, 0, none⟩), slV ov n, .int .i64 since, .bool is]
def FL (bf bs : Nat) (gs : List Lg) (ov : Ov) (al : List Ak) (since : Int) (is : Bool) : Lst :=
  (bf, .cells ⟨FrC bs ov al.length since is⟩ 166 (0, 0)) :: (blkL 164 ov (fl Ak.v al) ++ SetL bs gs)
structure FOk (gs : List Lg) (ov : Ov) (al : List Ak) (since : Int) : Prop where
  g : GOk gs
  ov : OvOk 10 ov al.length (fl Ak.v al)
  le : al.length ≤ 8
  tk : ∀ a ∈ al, 0 ≤ a.tick ∧ a.tick ≤ 1073741824
  si : 0 ≤ since ∧ since ≤ 1073741824
theorem fcheck_ok (p : Addr) (seed tick : Int) : CallP Tryz.prog 65 [.pointer (some p), .int .i64 seed, .int .i64 tick] (.int .i64 (if Rgt seed tick then 0 else 10)) := by
  refine enterP (tb := tb) Tryz.func65 rfl Tryz.ntmps65 rfl fun w => ?_
  by_cases h1 : seed < 0
  · rw [if_neg (fun h => by have := h.1; omega)]
    repeat' (first | (apply R.is1; first | (apply R.isBin; (apply R.pure; exact rfl; first | (apply Ok1.lss_t; exact rfl; exact rfl; omega) | (apply Ok1.eqlP; (iterate 5 exact rfl)))) | (apply R.pure; exact rfl; first | (apply Ok1.move; exact rfl) | (apply Ok1.assign; exact rfl) | (apply Ok1.pick_t; exact rfl; exact rfl))) | (apply R.isG; (apply R.guard_not; (iterate 3 exact rfl))) | apply R.nil | (apply T.is; first | apply T.seq | apply T.region | apply T.block | apply T.ret | (apply T.cond_t; exact rfl) | (apply T.cond_f; exact rfl)))
    all_goals (apply RetOk.t; exact rfl)
    all_goals rfl
  · by_cases h2 : 4 ≤ seed
    · rw [if_neg (fun h => by have := h.2.1; omega)]
      repeat' (first | (apply R.is1; first | (apply R.isBin; (apply R.pure; exact rfl; first | (apply Ok1.lss_f; exact rfl; exact rfl; omega) | (apply Ok1.geq_t; exact rfl; exact rfl; omega) | (apply Ok1.eqlP; (iterate 5 exact rfl)))) | (apply R.pure; exact rfl; first | (apply Ok1.move; exact rfl) | (apply Ok1.assign; exact rfl) | (apply Ok1.pick_t; exact rfl; exact rfl) | (apply Ok1.pick_f; exact rfl; exact rfl))) | (apply R.isG; first | (apply R.guard_run; exact rfl; exact rfl) | (apply R.guard_not; (iterate 3 exact rfl))) | apply R.nil | (apply T.is; first | apply T.seq | apply T.region | apply T.block | apply T.ret | (apply T.cond_t; exact rfl) | (apply T.cond_f; exact rfl)))
      all_goals (apply RetOk.t; exact rfl)
      all_goals rfl
    · by_cases h3 : tick < 0
      · rw [if_neg (fun h => by have := h.2.2.1; omega)]
        repeat' (first | (apply R.is1; first | (apply R.isBin; (apply R.pure; exact rfl; first | (apply Ok1.lss_t; exact rfl; exact rfl; omega) | (apply Ok1.lss_f; exact rfl; exact rfl; omega) | (apply Ok1.geq_f; exact rfl; exact rfl; omega) | (apply Ok1.eqlP; (iterate 5 exact rfl)))) | (apply R.pure; exact rfl; first | (apply Ok1.move; exact rfl) | (apply Ok1.assign; exact rfl) | (apply Ok1.pick_t; exact rfl; exact rfl) | (apply Ok1.pick_f; exact rfl; exact rfl))) | (apply R.isG; first | (apply R.guard_run; exact rfl; exact rfl) | (apply R.guard_not; (iterate 3 exact rfl))) | apply R.nil | (apply T.is; first | apply T.seq | apply T.region | apply T.block | apply T.ret | (apply T.cond_t; exact rfl) | (apply T.cond_f; exact rfl)))
        all_goals (apply RetOk.t; exact rfl)
        all_goals rfl
      · by_cases h4 : 1073741824 < tick
        · rw [if_neg (fun h => by have := h.2.2.2; omega)]
          repeat' (first | (apply R.is1; first | (apply R.isBin; (apply R.pure; exact rfl; first | (apply Ok1.lss_f; exact rfl; exact rfl; omega) | (apply Ok1.gtr_t; exact rfl; exact rfl; omega) | (apply Ok1.geq_f; exact rfl; exact rfl; omega) | (apply Ok1.eqlP; (iterate 5 exact rfl)))) | (apply R.pure; exact rfl; first | (apply Ok1.move; exact rfl) | (apply Ok1.assign; exact rfl) | (apply Ok1.pick_f; exact rfl; exact rfl))) | (apply R.isG; (apply R.guard_run; exact rfl; exact rfl)) | apply R.nil | (apply T.is; first | apply T.seq | apply T.region | apply T.block | apply T.ret | (apply T.cond_t; exact rfl) | (apply T.cond_f; exact rfl)))
          all_goals (apply RetOk.t; exact rfl)
          all_goals rfl
        · rw [if_pos ⟨by omega, by omega, by omega, by omega⟩]
          repeat' (first | (apply R.is1; first | (apply R.isBin; (apply R.pure; exact rfl; first | (apply Ok1.lss_f; exact rfl; exact rfl; omega) | (apply Ok1.gtr_f; exact rfl; exact rfl; omega) | (apply Ok1.geq_f; exact rfl; exact rfl; omega) | (apply Ok1.eqlP; (iterate 5 exact rfl)))) | (apply R.pure; exact rfl; first | (apply Ok1.move; exact rfl) | (apply Ok1.assign; exact rfl) | (apply Ok1.pick_f; exact rfl; exact rfl))) | (apply R.isG; (apply R.guard_run; exact rfl; exact rfl)) | apply R.nil | (apply T.is; first | apply T.seq | apply T.region | apply T.block | apply T.skip | apply T.ret | (apply T.cond_f; exact rfl)))
          all_goals (apply RetOk.t; exact rfl)
          all_goals rfl
theorem fsince_ok (bf bs : Nat) (ov : Ov) (n : Nat) (since : Int) (is : Bool) (w : World) (hb : w.heap[bf]? = some (.cells ⟨FrC bs ov n since is⟩ 166 (0, 0))) : CallW Tryz.prog 10 [.pointer (some ⟨bf, 0, none⟩)] w fun v _ => v = .tuple #[.int .i64 since, .bool is] := by
  refine enterW (tb := tb) Tryz.func10 rfl Tryz.ntmps10 rfl ?_
  repeat' (first | (apply R.is1; first | (apply R.isBin; (apply R.pure; exact rfl; (apply Ok1.eqlP; (iterate 5 exact rfl)))) | (apply R.pure; exact rfl; first | (apply Ok1.move; exact rfl) | (apply Ok1.assign; exact rfl))) | apply R.nil | (apply T.is; first | (apply T.drawC (id := 3) [] (by decide); ((apply A.tk 0; exact rfl; kernel_rfl; (apply Ok1.move; exact rfl)) <;> (apply A.tk 1; exact rfl; kernel_rfl; (apply Ok1.nilCheck; exact rfl)) <;> (apply A.tk 2; exact rfl; kernel_rfl; (apply Ok1.fieldAddr; (iterate 5 exact rfl))) <;> (apply A.tk 3; exact rfl; kernel_rfl; (apply Ok1.load; exact rfl; apply Ld.blk1; exact rfl; exact rfl; exact hb; exact List.not_mem_nil; exact rfl)) <;> (apply A.tk 4; exact rfl; kernel_rfl; (apply Ok1.move; exact rfl)) <;> (apply A.tk 5; exact rfl; kernel_rfl; (apply Ok1.nilCheck; exact rfl)) <;> (apply A.tk 6; exact rfl; kernel_rfl; (apply Ok1.fieldAddr; (iterate 5 exact rfl))) <;> (apply A.tk 7; exact rfl; kernel_rfl; (apply Ok1.load; exact rfl; apply Ld.blk1; exact rfl; exact rfl; exact hb; exact List.not_mem_nil; exact rfl)) <;> (apply A.tk 8; exact rfl; kernel_rfl; (apply Ok1.assign; exact rfl)) <;> (apply A.tk 9; exact rfl; kernel_rfl; (apply Ok1.assign; exact rfl)) <;> (apply A.done; kernel_rfl))) | apply T.seq | apply T.region | apply T.skip | apply T.ret | (apply T.cond_f; exact rfl)))
  all_goals (apply RetOk.tt; exact rfl; exact rfl)
  all_goals rfl
theorem fis_ok (bf bs : Nat) (ov : Ov) (n : Nat) (since : Int) (is : Bool) (tick within : Int) (ht : 0 ≤ tick ∧ tick ≤ 1073741824) (hi : -1073741824 ≤ within ∧ within ≤ 1073741824) (w : World) (hb : w.heap[bf]? = some (.cells ⟨FrC bs ov n since is⟩ 166 (0, 0))) :
    CallW Tryz.prog 13 [.pointer (some ⟨bf, 0, none⟩), .int .i64 tick, .int .i64 within] w fun v _ => v = .bool (is && decide (0 ≤ within) && decide (tick - within ≤ since)) := by
  have h := fun w1 (hc : Chg [] w w1) => fsince_ok bf bs ov n since is w1 (hc.heap hb List.not_mem_nil)
  refine enterW (tb := tb) Tryz.func13 rfl Tryz.ntmps13 rfl ?_
  cases is with
  | false =>
    repeat' (first | (apply R.is1; first | (apply R.isCall; (apply R.callV (vs := [.pointer (some ⟨bf, 0, none⟩)]); (iterate 3 exact rfl); intro w1 hw1; exact h w1 hw1.chg)) | (apply R.pure; exact rfl; first | (apply Ok1.move; exact rfl) | (apply Ok1.assign; exact rfl) | (apply Ok1.extract; exact rfl; exact rfl) | (apply Ok1.pick_f; exact rfl; exact rfl))) | (apply R.isG; (apply R.guard_not; (iterate 3 exact rfl))) | apply R.nil | (apply T.is; first | apply T.seq | apply T.region | apply T.ret))
    all_goals (apply RetOk.t; exact rfl)
    all_goals rfl
  | true =>
    by_cases h1 : 0 ≤ within
    · rw [decide_eq_true h1]
      repeat' (first | (apply R.is1; first | (apply R.isBin; first | (apply R.pure; exact rfl; first | (apply Ok1.sub64; exact rfl; exact rfl; omega; omega) | (apply Ok1.geq_t; exact rfl; exact rfl; omega)) | (apply R.geq rfl rfl rfl <;> intro)) | (apply R.isCall; (apply R.callV (vs := [.pointer (some ⟨bf, 0, none⟩)]); (iterate 3 exact rfl); intro w1 hw1; exact h w1 hw1.chg)) | (apply R.pure; exact rfl; first | (apply Ok1.move; exact rfl) | (apply Ok1.assign; exact rfl) | (apply Ok1.extract; exact rfl; exact rfl) | (apply Ok1.pick_t; exact rfl; exact rfl))) | (apply R.isG; (apply R.guard_run; exact rfl; exact rfl)) | apply R.nil | (apply T.is; first | apply T.seq | apply T.region | apply T.ret))
      all_goals (apply RetOk.t; exact rfl)
      all_goals simp_all
    · rw [decide_eq_false h1]
      repeat' (first | (apply R.is1; first | (apply R.isBin; (apply R.pure; exact rfl; (apply Ok1.geq_f; exact rfl; exact rfl; omega))) | (apply R.isCall; (apply R.callV (vs := [.pointer (some ⟨bf, 0, none⟩)]); (iterate 3 exact rfl); intro w1 hw1; exact h w1 hw1.chg)) | (apply R.pure; exact rfl; first | (apply Ok1.move; exact rfl) | (apply Ok1.assign; exact rfl) | (apply Ok1.extract; exact rfl; exact rfl) | (apply Ok1.pick_t; exact rfl; exact rfl) | (apply Ok1.pick_f; exact rfl; exact rfl))) | (apply R.isG; first | (apply R.guard_run; exact rfl; exact rfl) | (apply R.guard_not; (iterate 3 exact rfl))) | apply R.nil | (apply T.is; first | apply T.seq | apply T.region | apply T.ret))
      all_goals (apply RetOk.t; exact rfl)
      all_goals simp_all
theorem fset_ok (bf bs : Nat) (gs : List Lg) (hg : GOk gs) (ov : Ov) (n : Nat) (since : Int) (is : Bool) (w : World) (hb : w.heap[bf]? = some (.cells ⟨FrC bs ov n since is⟩ 166 (0, 0))) (hs : SetR w bs gs) :
    CallM Tryz.prog 14 [.pointer (some ⟨bf, 0, none⟩)] [] w fun v L => ∃ bc gs', v = .pointer (some ⟨bc, 0, none⟩) ∧ lgs gs' = lgs gs ∧ GOk gs' ∧ L = SetL bc gs' := by
  have h := fun w1 (hc : Chg [] w w1) => copy_ok bs gs hg w1 (hs.chg hc)
  refine enterK (tb := tb) Tryz.func14 rfl Tryz.ntmps14 rfl ?_
  repeat' (first | (apply R.is1; first | (apply R.isBin; (apply R.pure; exact rfl; (apply Ok1.eqlP; (iterate 5 exact rfl)))) | (apply R.isCall; (apply R.callE (vs := [.pointer (some ⟨bs, 0, none⟩)]); (iterate 3 exact rfl); exact Ext.none _; intro w1 hw1; exact h w1 hw1.chg; rintro v Lo ⟨bc, gs', rfl, hl, hg', rfl⟩)) | (apply R.pure; exact rfl; first | (apply Ok1.load; exact rfl; apply Ld.blk1; exact rfl; exact rfl; exact hb; exact List.not_mem_nil; exact rfl) | (apply Ok1.move; exact rfl) | (apply Ok1.fieldAddr; (iterate 5 exact rfl)) | (apply Ok1.assign; exact rfl) | (apply Ok1.nilCheck; exact rfl))) | apply R.nil | (apply T.is; first | apply T.seq | apply T.region | apply T.skip | apply T.ret | (apply T.cond_f; exact rfl)))
  (apply RetOk.t; exact rfl)
  exact ⟨_, by (focus (repeat' first | exact Ext.one _ _ | exact Ext.here _ _ | apply Keep.cons | apply Keep.last); done), bc, gs', rfl, hl, hg', rfl⟩
theorem opn_le (al : List Ak) (t : Int) : (opn al t).length ≤ al.length := List.length_filter_le _ _
theorem ffind_ok (bf bs : Nat) (ov : Ov) (al : List Ak) (hov : OvOk 10 ov al.length (fl Ak.v al)) (hle : al.length ≤ 8) (since : Int) (is : Bool) (seed tick : Int) (h0 : 0 ≤ tick) (h1 : tick ≤ 1073741824) (p : Option Addr) (cap : Nat) (ds : List Int) (w : World) (hb : w.heap[bf]? = some (.cells ⟨FrC bs ov al.length since is⟩ 166 (0, 0))) (hr : RdSl w (ovp ov) Ak.v al) (hd : RdSl w p u8V ds) :
    CallW Tryz.prog 69 [.pointer (some ⟨bf, 0, none⟩), .int .i64 seed, .int .i64 tick, .slice p ds.length cap] w fun v _ => v = .int .i64 (posI al (Ak.is seed tick ds)) := by
  have hsl := slV_eq hov
  have hgc : tb.fns.contains 144 = true := rfl
  have hidx := fun b1 b2 b3 w1 (hc : Chg [] w w1) (e1 : w1.heap[b1]? = some (.cells ⟨[.int .i64 seed]⟩ 3 (0, 0))) (e2 : w1.heap[b2]? = some (.cells ⟨[.int .i64 tick]⟩ 3 (0, 0))) (e3 : w1.heap[b3]? = some (.cells ⟨[.slice p ds.length cap]⟩ 22 (0, 0))) => aidx_ok (ovp ov) (ovc ov al.length) al (by omega) _ hgc [.pointer (some ⟨b1, 0, none⟩), .pointer (some ⟨b2, 0, none⟩), .pointer (some ⟨b3, 0, none⟩)] (Ak.is seed tick ds) w1 (fun x w2 hc2 => find1_ok b1 b2 b3 x seed tick h0 h1 p cap ds w2 (hc2.heap e1 List.not_mem_nil) (hc2.heap e2 List.not_mem_nil) (hc2.heap e3 List.not_mem_nil) ((hd.chg' hc (fun _ => Off.nil _)).chg' hc2 (fun _ => Off.nil _))) (hr.chg' hc (fun _ => Off.nil _))
  refine enterW (tb := tb) Tryz.func69 rfl Tryz.ntmps69 rfl ?_
  repeat' (first | (apply R.is1; first | (apply R.isCall; (apply R.callV; (iterate 3 exact rfl); intro w1 hw1; exact hidx _ _ _ w1 hw1.chg (hw1.get _ _ (At.mem (by (focus (repeat' first | exact At.head | apply At.tail); done)))) (hw1.get _ _ (At.mem (by (focus (repeat' first | exact At.head | apply At.tail); done)))) (hw1.get _ _ (At.mem (by exact At.head))))) | (apply R.pure; exact rfl; first | (apply Ok1.load; exact rfl; apply Ld.blk1; exact rfl; exact rfl; exact hb; exact List.not_mem_nil; (exact congrArg some hsl)) | (apply Ok1.move; exact rfl) | (apply Ok1.fieldAddr; (iterate 5 exact rfl)) | (apply Ok1.assign; exact rfl) | (apply Ok1.nilCheck; exact rfl) | (apply Ok1.makeFunc; exact rfl; exact rfl)) | (apply R.box; (iterate 3 exact rfl); intro)) | apply R.nil | (apply T.is; first | apply T.seq | apply T.region | apply T.ret))
  (apply RetOk.t; exact rfl)
  rfl
theorem cutD_mem : ∀ {dd : List (Int × List Int)} {n : Nat} {x : Int × List Int}, x ∈ cutD n dd → ∃ y ∈ dd, ∃ k, x = (y.1, y.2.take k)
  | [], _, _, h => by cases h
  | y :: r, n, x, h => by
    rcases List.mem_cons.1 h with h | h
    · exact ⟨y, List.mem_cons_self, n, h⟩
    · obtain ⟨z, hz, k, hk⟩ := cutD_mem h
      exact ⟨z, List.mem_cons_of_mem _ hz, k, hk⟩
theorem cutD_cnt : ∀ (dd : List (Int × List Int)) (n : Nat), cntL (cutD n dd) ≤ n
  | [], _ => Nat.zero_le _
  | y :: r, n => by
    have := cutD_cnt r (n - y.2.length)
    simp only [cutD, cntL, List.map_cons, List.sum_cons, List.length_take] at *
    omega
theorem encD_cnt : ∀ (dd : List (Int × List Int)), (encD dd).length = 4 * dd.length + 2 * cntL dd
  | [] => rfl
  | y :: r => by
    have h1 := encD_cnt r
    have h2 := encL_len y
    simp only [encD, cntL, List.flatMap_cons, List.length_append, List.length_cons, List.map_cons, List.sum_cons] at *
    omega
theorem sin_mem {ls : List (List Int)} {vs : List Int} {x : Int × List Int} (h : x ∈ sinD ls (minV ls vs)) (hV : VR vs) : 0 ≤ x.1 ∧ x.1 ≤ 256 ∧ ∃ l ∈ ls, ∃ k, x.2 = l.drop k := by
  obtain ⟨z, hz, rfl⟩ := List.mem_map.1 h
  have h1 := List.of_mem_zip hz
  obtain ⟨y, hy, h3⟩ := List.mem_map.1 h1.2
  have h4 := hV _ (List.of_mem_zip hy).2
  simp only
  refine ⟨by omega, by omega, z.1, h1.1, _, rfl⟩
theorem answer_all (bs : Nat) (gs : List Lg) (hg : GOk gs) (v0 v1 v2 v3 : Int) (room : Int) (hr63 : room ≤ 9223372036854775807) (w : World) (hs : SetR w bs gs) :
    CallM Tryz.prog 77 [.pointer (some ⟨bs, 0, none⟩), .agg ⟨iis [v0, v1, v2, v3]⟩, .int .i64 room] [] w fun v L => ∃ d E, d.length = 4 ∧ v = .tuple #[.agg ⟨dlV d⟩, .int .i64 E] ∧ DlO d L ∧ (¬ VR [v0, v1, v2, v3] → d = nod ∧ E = 10) ∧ (VR [v0, v1, v2, v3] → room < 16 → d = nod ∧ E = 2) ∧ (VR [v0, v1, v2, v3] → 16 ≤ room → E = 0 ∧ pur d = cutD ((room - 16) / 2).toNat (sinD (lgs gs) (minV (lgs gs) [v0, v1, v2, v3]))) := by
  by_cases hV : VR [v0, v1, v2, v3]
  · by_cases hr : 16 ≤ room
    · refine (answer_ok bs gs hg v0 v1 v2 v3 hV room hr hr63 w hs).wk ?_
      rintro v L ⟨d, h1, h2, h3, h4⟩
      exact ⟨d, 0, h1, h2, h4, fun h => absurd hV h, fun _ h => absurd hr (by omega), fun _ _ => ⟨rfl, h3⟩⟩
    · have := answer_bad bs [v0, v1, v2, v3] rfl room (.inr (by omega))
      rw [if_pos hV] at this
      refine ((this.w w).toM).wk ?_
      rintro v L ⟨rfl, rfl⟩
      exact ⟨nod, 2, rfl, rfl, nod_o _, fun h => absurd hV h, fun _ _ => ⟨rfl, rfl⟩, fun _ h => absurd h hr⟩
  · have := answer_bad bs [v0, v1, v2, v3] rfl room (.inl hV)
    rw [if_neg hV] at this
    refine ((this.w w).toM).wk ?_
    rintro v L ⟨rfl, rfl⟩
    exact ⟨nod, 10, rfl, rfl, nod_o _, fun _ => ⟨rfl, rfl⟩, fun h => absurd h hV, fun h => absurd h hV⟩
theorem fnumbers_ok (p : Option Addr) (cap : Nat) (vs : List Int) (hV : VR vs) (hl : vs.length = 4) (w : World) (hp : RdSl w p iV vs) :
    CallM Tryz.prog 72 [.slice p 4 cap] [] w fun v L => ∃ ov, OvOk 1 ov (numsI 1 vs).length (u8s (numsI 1 vs)) ∧ v = slV ov (numsI 1 vs).length ∧ L = blkL 5 ov (u8s (numsI 1 vs)) := by
  have hn1 := fun bw w1 h1 h2 => numbers_ok bw none [] (OvOk.start 1) 1 p 4 cap vs hl.symm (vr_fits hV) (by rw [hl]; decide) w1 h1 h2
  have hnl := nums1_len vs
  have hwo := fun bw ov hov w1 h1 h2 => wout_ok bw ov (numsI 1 vs) hov (by omega) w1 h1 h2
  rw [List.nil_append] at hn1
  refine enterK (tb := tb) Tryz.func72 rfl Tryz.ntmps72 rfl ?_
  repeat' (first | (apply R.is1; first | (apply R.isCall; first | (apply R.callE (Li := WL _ none []) (vs := [.pointer (some ⟨_, 0, none⟩), .int .i64 1, .slice p 4 cap]); (iterate 3 exact rfl); (focus ((repeat' (exact Ext.one _ _)); done)); intro w1 hw1; exact hn1 _ w1 (hp.chg' hw1.chg (fun _ => Off.nil _)) (RdSl.old iV_len (by decide) hp (fun _ => Off.nil _) hw1 (by (focus ((repeat' (exact Ext.one _ _)); done)))); rintro v Lo ⟨ov1, rfl, hov1, rfl⟩; simp only [WL, List.cons_append]) | (apply R.callE (vs := [.pointer (some ⟨_, 0, none⟩)]); (iterate 3 exact rfl); exact Ext.none _; intro w1 hw1; exact hwo _ ov1 hov1 w1 (hw1.get _ _ (At.mem (by exact At.head))) (rdown hov1 hw1 (Ext.mem (by (focus (repeat' first | exact Ext.here _ _ | apply Ext.cons); done)))); rintro v Lo ⟨ov2, hov2, rfl, rfl⟩)) | (apply R.pure; exact rfl; first | (apply Ok1.move; exact rfl) | (apply Ok1.assign; exact rfl) | (apply Ok1.extract; exact rfl; exact rfl)) | (apply R.alloc; (iterate 3 exact rfl); intro)) | apply R.nil | (apply T.is; first | apply T.seq | apply T.region | apply T.ret))
  (apply RetOk.t; exact rfl)
  exact ⟨_, by (focus (repeat' first | exact Ext.here _ _ | apply Keep.last); done), ov2, hov2, rfl, rfl⟩
theorem fnew_ok (w : World) : CallM Tryz.prog 17 [.pointer none] [] w fun v L => ∃ bf bs gs, v = .pointer (some ⟨bf, 0, none⟩) ∧ lgs gs = [[], [], [], []] ∧ FOk gs none [] 0 ∧ L = FL bf bs gs none [] 0 false := by
  have hn := fun w1 => rnew_ok w1
  have hc := fun bs w1 hs => copy_ok bs [lg0, lg0, lg0, lg0] GOk.new w1 hs
  refine enterK (tb := tb) Tryz.func17 rfl Tryz.ntmps17 rfl ?_
  repeat' (first | (apply R.is1; first | (apply R.isBin; (apply R.pure; exact rfl; (apply Ok1.eqlP; (iterate 5 exact rfl)))) | (apply R.isCall; first | (apply R.callE (vs := []); (iterate 3 exact rfl); exact Ext.none _; intro w1 hw1; exact hn w1; rintro v Lo ⟨bs, rfl, rfl⟩) | (apply R.callE (vs := [.pointer (some ⟨bs, 0, none⟩)]); (iterate 3 exact rfl); exact Ext.none _; intro w1 hw1; exact hc bs w1 (SetR.of GOk.new hw1 (Ext.mem (by (focus ((repeat' (exact Ext.one _ _)); done))))); rintro v Lo ⟨bc, gs', rfl, hl, hg', rfl⟩)) | (apply R.pure; exact rfl; first | (apply Ok1.move; exact rfl) | (apply Ok1.assign; exact rfl) | (apply Ok1.build; (iterate 5 exact rfl))) | (apply R.box; (iterate 3 exact rfl); intro)) | apply R.nil | (apply T.is; first | apply T.seq | apply T.region | apply T.ret | (apply T.cond_t; exact rfl)))
  (apply RetOk.t; exact rfl)
  refine ⟨_, ?_, _, bc, gs', rfl, hl, ⟨hg', ⟨rfl, rfl⟩, by decide, by simp, by decide⟩, rfl⟩
  simp only [FL, blkL, List.nil_append]
  (focus (repeat' first | exact Ext.one _ _ | exact Ext.here _ _ | apply Keep.cons | apply Keep.last); done)
theorem ask1_hp {b : Nat} {tick : Int} (h0 : 0 ≤ tick) (h1 : tick ≤ 1073741824) {w0 w : World} {S : List Nat} {L Li Lr : Lst} (hw : Hp w0 S L w) (he : Ext L Li Lr) (hat : At Lr b (.cells ⟨[.int .i64 tick]⟩ 3 (0, 0))) : ∀ x w1, Chg (blks Li) w w1 → CallW Tryz.prog 67 ([.agg ⟨Ak.v x⟩] ++ [.pointer (some ⟨b, 0, none⟩)]) w1 fun v _ => v = .bool (!x.op tick) := fun x w1 hc =>
  ask1_ok b x tick h0 h1 w1 (hc.heap (hw.get _ _ (he.perm.subset (List.mem_append_right _ hat.mem))) ((Off.of (k := 0) hw he hat) _ rfl))
theorem opn_ff (al : List Ak) (t : Int) : (al.filter fun x => !(!x.op t)) = opn al t := by simp [opn]
theorem posI_neg (al : List Ak) (pr : Ak → Bool) : (0 ≤ posI al pr ↔ al.findIdx pr < al.length) := by
  unfold posI
  split
  · rename_i h; simp only [h, iff_true]; omega
  · rename_i h; simp only [h, iff_false]; omega
theorem ak_v {seed tick : Int} {dr : List Int} (h : dr.length = 8) : (ak seed tick dr).v = [.int .i64 seed, .int .i64 tick] ++ u8s dr := by
  match dr, h with
  | [a, b, c, d, e, f, g, i], _ => rfl
theorem lens_I (gs : List Lg) : lens gs = iis (lensI (lgs gs)) := by rw [lens_eq, lensI, lgs, List.map_map]; rfl
theorem GOk.vr {gs : List Lg} (hg : GOk gs) : VR (lensI (lgs gs)) := by
  intro x hx
  obtain ⟨l, hl, rfl⟩ := List.mem_map.1 hx
  obtain ⟨g, hgm, rfl⟩ := List.mem_map.1 hl
  have := hg.le g hgm
  omega
theorem GOk.l4 {gs : List Lg} (hg : GOk gs) : (lensI (lgs gs)).length = 4 := by rw [lensI, lgs, List.length_map, List.length_map, hg.len]
theorem fask_ok (bf bs : Nat) (gs : List Lg) (ov : Ov) (al : List Ak) (since : Int) (is : Bool) (h : FOk gs ov al since) (seed tick : Int) (dr : List Int) (hdl : dr.length = 8) (w : World) :
    CallM Tryz.prog 8 [.pointer (some ⟨bf, 0, none⟩), .int .i64 seed, .int .i64 tick, .agg ⟨u8s dr⟩] (FL bf bs gs ov al since is) w fun v L => ∃ ov' ovb, v = .tuple #[slV ovb (FM.askB ⟨lgs gs, al, since, is⟩ seed tick dr).length, .int .i64 (FM.askE ⟨lgs gs, al, since, is⟩ seed tick dr)] ∧ OvOk 1 ovb (FM.askB ⟨lgs gs, al, since, is⟩ seed tick dr).length (u8s (FM.askB ⟨lgs gs, al, since, is⟩ seed tick dr)) ∧ FOk gs ov' (FM.ask ⟨lgs gs, al, since, is⟩ seed tick dr).al since ∧ L = FL bf bs gs ov' (FM.ask ⟨lgs gs, al, since, is⟩ seed tick dr).al since is ++ blkL 5 ovb (u8s (FM.askB ⟨lgs gs, al, since, is⟩ seed tick dr)) := by
  have hck := fcheck_ok ⟨bf, 0, none⟩ seed tick
  by_cases hR : Rgt seed tick
  · rw [if_pos hR] at hck
    obtain ⟨_, _, h0, h1⟩ := hR
    have hR : Rgt seed tick := ⟨by assumption, by assumption, h0, h1⟩
    have hal := h.le
    have hdel := fun b6 w1 hg => adel_ok ov al h.ov (by omega) 67 rfl [.pointer (some ⟨b6, 0, none⟩)] (fun x => !x.op tick) w1 hg
    simp only [opn_ff] at hdel
    have hle1 := opn_le al tick
    have hE : FM.askE ⟨lgs gs, al, since, is⟩ seed tick dr = if apos (opn al tick) seed tick dr < (opn al tick).length then 8 else if 8 ≤ (opn al tick).length then 6 else 0 := if_neg (fun h => h hR)
    have hA : FM.ask ⟨lgs gs, al, since, is⟩ seed tick dr = if FM.askE ⟨lgs gs, al, since, is⟩ seed tick dr = 0 then ⟨lgs gs, opn al tick ++ [ak seed tick dr], since, is⟩ else ⟨lgs gs, opn al tick, since, is⟩ := if_neg (fun h => h hR)
    have hB : FM.askB ⟨lgs gs, al, since, is⟩ seed tick dr = if FM.askE ⟨lgs gs, al, since, is⟩ seed tick dr = 0 then dr ++ numsI 1 (lensI (lgs gs)) else [] := rfl
    rw [hA, hB, hE]
    have hfd := fun ov1 hov1 d9 w1 e1 e2 e3 => ffind_ok bf bs ov1 (opn al tick) hov1 (by omega) since is seed tick h0 h1 (some ⟨d9, 0, none⟩) 8 dr w1 e1 e2 e3
    rw [hdl] at hfd
    have hpn := posI_neg (opn al tick) (Ak.is seed tick dr)
    have hap : apos (opn al tick) seed tick dr = (opn al tick).findIdx (Ak.is seed tick dr) := rfl
    rw [← hap] at hpn
    have htk1 : ∀ a ∈ opn al tick, 0 ≤ a.tick ∧ a.tick ≤ 1073741824 := fun a ha => h.tk a (opn_mem ha)
    have hakv := ak_v (seed := seed) (tick := tick) hdl
    have hfo : ∀ ov1, OvOk 10 ov1 (opn al tick).length (fl Ak.v (opn al tick)) → FOk gs ov1 (opn al tick) since := fun ov1 hov1 => ⟨h.g, hov1, by omega, htk1, h.si⟩
    have hver := fun w1 hs => versions_ok bs gs h.g w1 hs
    rw [lens_I] at hver
    have hnum := fun p w1 hp => fnumbers_ok p 4 (lensI (lgs gs)) h.g.vr h.g.l4 w1 hp
    have hcat : cat [⟨some ⟨0, 0, none⟩, 8, dr⟩, ⟨none, 0, numsI 1 (lensI (lgs gs))⟩] = dr ++ numsI 1 (lensI (lgs gs)) := by simp [cat]
    have hnl := nums1_len (lensI (lgs gs))
    rw [h.g.l4] at hnl
    have hcon := fun q b7 pn cn w1 h1 (h2 : RdSl w1 (some ⟨b7, 0, none⟩) u8V dr) (h3 : RdSl w1 pn u8V (numsI 1 (lensI (lgs gs)))) => concat_ok (some ⟨q, 0, none⟩) 2 2 [⟨some ⟨b7, 0, none⟩, 8, dr⟩, ⟨pn, cn, numsI 1 (lensI (lgs gs))⟩] rfl (by simp only [cat, List.flatMap_cons, List.flatMap_nil, List.append_nil, List.length_append]; omega) (by decide) w1 h1 (by simp only [List.mem_cons, List.not_mem_nil, or_false, forall_eq_or_imp, forall_eq]; exact ⟨h2, h3⟩)
    simp only [cat, List.flatMap_cons, List.flatMap_nil, List.append_nil] at hcon
    have hgg := h.g
    obtain ⟨v0, v1, v2, v3, hvs⟩ : ∃ v0 v1 v2 v3, lensI (lgs gs) = [v0, v1, v2, v3] := by
      have := h.g.l4
      match lensI (lgs gs), this with
      | [a, b, c, d], _ => exact ⟨a, b, c, d, rfl⟩
    rw [hvs] at hver
    generalize hB0 : numsI 1 (lensI (lgs gs)) = NB at *
    rw [hvs] at hnum
    match dr, hdl with
    | [d0, d1, d2, d3, d4, d5, d6, d7], _ =>
    generalize hal1 : opn al tick = al1 at *
    refine enterK (tb := tb) Tryz.func8 rfl Tryz.ntmps8 rfl ?_
    simp only [FL, FrC, u8s, List.map_cons, List.map_nil]
    repeat' (first | (apply R.is1; first | (apply R.isBin; (apply R.pure; exact rfl; (apply Ok1.neq_f; exact rfl; exact rfl; omega))) | (apply R.isCall; first | apply R.callP rfl rfl rfl hck | (apply R.callE (Li := blkL 164 ov (fl Ak.v al)) (vs := [slV ov al.length, .func (.func 67) #[] #[.pointer (some ⟨_, 0, none⟩)]]); (iterate 3 exact rfl); (focus (repeat' first | exact Ext.here _ _ | apply Ext.cons); done); intro w1 hw1; exact hdel _ w1 (ask1_hp h0 h1 hw1 (by (focus (repeat' first | exact Ext.here _ _ | apply Ext.cons); done)) (by (focus (repeat' first | exact At.head | apply At.tail); done))); rintro v Lo ⟨ov1, hov1, rfl, rfl⟩; rw [slV_eq hov1])) | (apply R.pure; exact rfl; first | (apply Ok1.move; exact rfl) | (apply Ok1.fieldAddr; (iterate 5 exact rfl)) | (apply Ok1.load; exact rfl; (apply Ld.own1; exact rfl; exact rfl; (focus (repeat' first | exact At.head | apply At.tail); done); exact rfl)) | (apply Ok1.assign; exact rfl) | (apply Ok1.nilCheck; exact rfl) | (apply Ok1.makeFunc; exact rfl; exact rfl)) | (apply R.box; (iterate 3 exact rfl); intro)) | (apply R.is0; (apply R.store; (iterate 6 exact rfl); (focus (repeat' first | exact Upd.head | apply Upd.tail | apply Upd.right); done); exact rfl)) | apply R.nil | (apply T.is; first | apply T.seq | apply T.region | apply T.block | apply T.skip | (apply T.cond_f; exact rfl)))
    rename_i b6 b7
    have hsl1 := slV_eq hov1
    have hfi := fun w1 e1 e2 e3 => hfd ov1 hov1 b7 w1 e1 e2 e3
    simp only [FrC, hsl1] at hfi
    have hfx := hfo ov1 hov1
    refine T.weakK (σ' := [(0, .pointer (some ⟨bf, 0, none⟩)), (1, .int .i64 seed), (6, .pointer (some ⟨b6, 0, none⟩)), (7, .pointer (some ⟨b7, 0, none⟩))]) (L' := (b6, .cells ⟨[.int .i64 tick]⟩ 3 (0, 0)) :: (b7, .cells ⟨[.int .u8 d0, .int .u8 d1, .int .u8 d2, .int .u8 d3, .int .u8 d4, .int .u8 d5, .int .u8 d6, .int .u8 d7]⟩ 27 (0, 0)) :: (bf, .cells ⟨[.pointer (some ⟨bs, 0, none⟩), .slice (ovp ov1) al1.length (ovc ov1 al1.length), .int .i64 since, .bool is]⟩ 166 (0, 0)) :: (blkL 164 ov1 (fl Ak.v al1) ++ SetL bs gs)) ?_ (by (focus (repeat' first | exact Ext.one _ _ | exact Ext.here _ _ | exact Ext.all _ | apply Keep.cons | apply Keep.app | apply Keep.last | apply Ext.cons | apply Ext.app); done)) ⟨rfl, rfl, rfl, rfl, trivial⟩
    by_cases cf : apos al1 seed tick [d0, d1, d2, d3, d4, d5, d6, d7] < al1.length
    · have hp0 := hpn.2 cf
      rw [if_pos cf] at hE
      rw [if_pos cf]
      simp only [hE, if_neg (show ¬ (8 : Int) = 0 by decide)]
      generalize posI al1 (Ak.is seed tick [d0, d1, d2, d3, d4, d5, d6, d7]) = pz at *
      repeat' (first | (apply R.is1; (apply R.pure; exact rfl; (apply Ok1.assign; exact rfl))) | apply R.nil | (apply T.is; first | (apply T.drawC (id := 5) [0,1,2] (by decide); ((apply A.tk 0; exact rfl; kernel_rfl; (apply Ok1.move; exact rfl)) <;> (apply A.tk 1; exact rfl; kernel_rfl; (apply Ok1.move; exact rfl)) <;> (apply A.tk 2; exact rfl; kernel_rfl; (apply Ok1.load; exact rfl; (apply Ld.own1; exact rfl; exact rfl; exact At.head; exact rfl))) <;> (apply A.tk 3; exact rfl; kernel_rfl; (apply Ok1.sliceArr; (iterate 4 exact rfl))) <;> (apply A.one 4; kernel_rfl; exact rfl; (((apply R.callV (vs := [.pointer (some ⟨bf, 0, none⟩), .int .i64 seed, .int .i64 tick, .slice (some ⟨b7, 0, none⟩) 8 8]); (iterate 3 exact rfl); intro w1 hw1; exact hfi w1 (hw1.get _ _ (At.mem (by (focus (repeat' first | exact At.head | apply At.tail); done)))) (RdSl.own' hw1 (Ext.mem (by (focus (repeat' first | exact Ext.here _ _ | apply Ext.cons); done))) hov1 Ak.v_len) (RdSl.of (junk := []) hw1 (by (focus (repeat' first | exact At.head | apply At.tail); done)) rfl)))); apply R.nil; refine ⟨?_, ?_⟩; (focus (repeat' first | exact trivial | exact At.head | apply At.tail | refine ⟨?_, ?_⟩))) <;> ((apply A.tk 5; exact rfl; kernel_rfl; (apply Ok1.geq_t; exact rfl; exact rfl; omega))) <;> (apply A.tk 6; exact rfl; kernel_rfl; (apply Ok1.assign; exact rfl)) <;> (apply A.done; kernel_rfl))) | apply T.seq | apply T.region | apply T.ret | (apply T.cond_t; exact rfl)))
      (apply RetOk.tt; exact rfl; exact rfl)
      refine ⟨_, ?_, ov1, none, rfl, ⟨rfl, rfl⟩, hfx, rfl⟩
      simp only [FL, FrC, hsl1, blkL]
      (focus (repeat' first | exact Keep.nil _ | exact Ext.one _ _ | exact Ext.all _ | apply Keep.cons | apply Keep.app | apply Ext.cons); done)
    · have hp0 : ¬ 0 ≤ posI al1 (Ak.is seed tick [d0, d1, d2, d3, d4, d5, d6, d7]) := fun h9 => cf (hpn.1 h9)
      rw [if_neg cf] at hE
      rw [if_neg cf]
      generalize posI al1 (Ak.is seed tick [d0, d1, d2, d3, d4, d5, d6, d7]) = pz at *
      by_cases c8 : 8 ≤ al1.length
      · simp only [if_pos c8, if_neg (show ¬ (6 : Int) = 0 by decide)]
        repeat' (first | (apply R.is1; first | (apply R.isBin; (apply R.pure; exact rfl; (apply Ok1.geq_t; exact rfl; exact rfl; omega))) | (apply R.isCall; (apply R.pure; exact rfl; (apply Ok1.lenS; (iterate 3 exact rfl)))) | (apply R.pure; exact rfl; first | (apply Ok1.move; exact rfl) | (apply Ok1.fieldAddr; (iterate 5 exact rfl)) | (apply Ok1.load; exact rfl; (apply Ld.own1; exact rfl; exact rfl; (focus (repeat' first | exact At.head | apply At.tail); done); exact rfl)) | (apply Ok1.assign; exact rfl) | (apply Ok1.nilCheck; exact rfl))) | apply R.nil | (apply T.is; first | (apply T.drawC (id := 5) [0,1,2] (by decide); ((apply A.tk 0; exact rfl; kernel_rfl; (apply Ok1.move; exact rfl)) <;> (apply A.tk 1; exact rfl; kernel_rfl; (apply Ok1.move; exact rfl)) <;> (apply A.tk 2; exact rfl; kernel_rfl; (apply Ok1.load; exact rfl; (apply Ld.own1; exact rfl; exact rfl; exact At.head; exact rfl))) <;> (apply A.tk 3; exact rfl; kernel_rfl; (apply Ok1.sliceArr; (iterate 4 exact rfl))) <;> (apply A.one 4; kernel_rfl; exact rfl; (((apply R.callV (vs := [.pointer (some ⟨bf, 0, none⟩), .int .i64 seed, .int .i64 tick, .slice (some ⟨b7, 0, none⟩) 8 8]); (iterate 3 exact rfl); intro w1 hw1; exact hfi w1 (hw1.get _ _ (At.mem (by (focus (repeat' first | exact At.head | apply At.tail); done)))) (RdSl.own' hw1 (Ext.mem (by (focus (repeat' first | exact Ext.here _ _ | apply Ext.cons); done))) hov1 Ak.v_len) (RdSl.of (junk := []) hw1 (by (focus (repeat' first | exact At.head | apply At.tail); done)) rfl)))); apply R.nil; refine ⟨?_, ?_⟩; (focus (repeat' first | exact trivial | exact At.head | apply At.tail | refine ⟨?_, ?_⟩))) <;> ((apply A.tk 5; exact rfl; kernel_rfl; (apply Ok1.geq_f; exact rfl; exact rfl; omega))) <;> (apply A.tk 6; exact rfl; kernel_rfl; (apply Ok1.assign; exact rfl)) <;> (apply A.done; kernel_rfl))) | apply T.seq | apply T.region | apply T.ret | (apply T.cond_t; exact rfl) | (apply T.cond_f; exact rfl)))
        (apply RetOk.tt; exact rfl; exact rfl)
        refine ⟨_, ?_, ov1, none, rfl, ⟨rfl, rfl⟩, hfx, rfl⟩
        simp only [FL, FrC, hsl1, blkL]
        (focus (repeat' first | exact Keep.nil _ | exact Ext.one _ _ | exact Ext.all _ | apply Keep.cons | apply Keep.app | apply Ext.cons); done)
      · simp only [if_neg c8, if_pos (show (0 : Int) = 0 by decide)]
        repeat' (first | (apply R.is1; first | (apply R.isBin; (apply R.pure; exact rfl; (apply Ok1.geq_f; exact rfl; exact rfl; omega))) | (apply R.isCall; (apply R.callV (vs := [.pointer (some ⟨bs, 0, none⟩)]); (iterate 3 exact rfl); intro w1 hw1; exact hver w1 (SetR.of hgg hw1 (Ext.mem (by (focus (repeat' first | exact Ext.all _ | apply Ext.cons); done)))))) | (apply R.pure; exact rfl; first | (apply Ok1.load; exact rfl; apply Ld.own1; exact rfl; exact rfl; (focus (repeat' first | exact At.head | apply At.tail); done); exact (congrArg some hsl1.symm)) | (apply Ok1.lenOv; (iterate 3 exact rfl); exact hov1) | (apply Ok1.move; exact rfl) | (apply Ok1.fieldAddr; (iterate 5 exact rfl)) | (apply Ok1.load; exact rfl; (apply Ld.own1; exact rfl; exact rfl; (focus (repeat' first | exact At.head | apply At.tail); done); exact rfl)) | (apply Ok1.assign; exact rfl) | (apply Ok1.nilCheck; exact rfl)) | (apply R.alloc; (iterate 3 exact rfl); intro)) | (apply R.is0; (apply R.store; (iterate 6 exact rfl); exact Upd.head; exact rfl)) | apply R.nil | (apply T.is; first | (apply T.drawC (id := 5) [0,1,2] (by decide); ((apply A.tk 0; exact rfl; kernel_rfl; (apply Ok1.move; exact rfl)) <;> (apply A.tk 1; exact rfl; kernel_rfl; (apply Ok1.move; exact rfl)) <;> (apply A.tk 2; exact rfl; kernel_rfl; (apply Ok1.load; exact rfl; (apply Ld.own1; exact rfl; exact rfl; exact At.head; exact rfl))) <;> (apply A.tk 3; exact rfl; kernel_rfl; (apply Ok1.sliceArr; (iterate 4 exact rfl))) <;> (apply A.one 4; kernel_rfl; exact rfl; (((apply R.callV (vs := [.pointer (some ⟨bf, 0, none⟩), .int .i64 seed, .int .i64 tick, .slice (some ⟨b7, 0, none⟩) 8 8]); (iterate 3 exact rfl); intro w1 hw1; exact hfi w1 (hw1.get _ _ (At.mem (by (focus (repeat' first | exact At.head | apply At.tail); done)))) (RdSl.own' hw1 (Ext.mem (by (focus (repeat' first | exact Ext.here _ _ | apply Ext.cons); done))) hov1 Ak.v_len) (RdSl.of (junk := []) hw1 (by (focus (repeat' first | exact At.head | apply At.tail); done)) rfl)))); apply R.nil; refine ⟨?_, ?_⟩; (focus (repeat' first | exact trivial | exact At.head | apply At.tail | refine ⟨?_, ?_⟩))) <;> ((apply A.tk 5; exact rfl; kernel_rfl; (apply Ok1.geq_f; exact rfl; exact rfl; omega))) <;> (apply A.tk 6; exact rfl; kernel_rfl; (apply Ok1.assign; exact rfl)) <;> (apply A.done; kernel_rfl))) | (apply T.drawC (id := 9) [0,1] (by decide); ((apply A.tk 0; exact rfl; kernel_rfl; (apply Ok1.move; exact rfl)) <;> (apply A.tk 1; exact rfl; kernel_rfl; (apply Ok1.move; exact rfl)) <;> (apply A.tk 2; exact rfl; kernel_rfl; (apply Ok1.nilCheck; exact rfl)) <;> (apply A.tk 3; exact rfl; kernel_rfl; (apply Ok1.fieldAddr; (iterate 5 exact rfl))) <;> (apply A.tk 5; exact rfl; kernel_rfl; (apply Ok1.move; exact rfl)) <;> (apply A.tk 6; exact rfl; kernel_rfl; (apply Ok1.load; exact rfl; (apply Ld.own1; exact rfl; exact rfl; exact At.head; exact rfl))) <;> (apply A.tk 7; exact rfl; kernel_rfl; (apply Ok1.load; exact rfl; (apply Ld.ownk; exact rfl; exact rfl; (focus (repeat' first | exact At.head | apply At.tail); done); exact rfl))) <;> (apply A.tk 8; exact rfl; kernel_rfl; (apply Ok1.build; (iterate 5 exact rfl))) <;> (apply A.two 4 9; kernel_rfl; exact rfl; exact rfl; rotate_left 1; (focus (((((apply R.buildSlice; (iterate 12 exact rfl); intro))); apply R.nil; refine ⟨?_, ?_⟩; (focus (repeat' first | exact trivial | exact At.head | apply At.tail | refine ⟨?_, ?_⟩))) <;> (apply A.one 4; kernel_rfl; exact rfl; (((apply R.pure; exact rfl; (apply Ok1.load; exact rfl; apply Ld.own1; exact rfl; exact rfl; (focus (repeat' first | exact At.head | apply At.tail); done); exact (congrArg some hsl1.symm))))); apply R.nil; refine ⟨?_, ?_⟩; (focus (repeat' first | exact trivial | exact At.head | apply At.tail | refine ⟨?_, ?_⟩))) <;> (apply A.one 10; kernel_rfl; exact rfl; (((apply R.append1; (iterate 12 exact rfl); (focus (repeat' first | exact OwnAt.mid hov1 | apply OwnAt.tail); done); exact At.head; exact rfl; exact rfl; omega; omega; intro b2 j2 k2 hj2))); apply R.nil; refine ⟨?_, ?_⟩; (focus (repeat' first | exact trivial | exact At.head | apply At.tail | refine ⟨?_, ?_⟩))) <;> (apply A.tk 11; exact rfl; kernel_rfl; (apply Ok1.nilCheck; exact rfl)) <;> (apply A.tk 12; exact rfl; kernel_rfl; (apply Ok1.fieldAddr; (iterate 5 exact rfl))) <;> (apply A.one 13; kernel_rfl; exact rfl; (((apply R.store; (iterate 6 exact rfl); (focus (repeat' first | exact Upd.head | apply Upd.tail); done); exact rfl))); apply R.nil; refine ⟨?_, ?_⟩; (focus (repeat' first | exact trivial | exact At.head | apply At.tail | refine ⟨?_, ?_⟩))) <;> (apply A.done; kernel_rfl))); rotate_right 1; (focus (((((apply R.pure; exact rfl; (apply Ok1.load; exact rfl; apply Ld.own1; exact rfl; exact rfl; (focus (repeat' first | exact At.head | apply At.tail); done); exact (congrArg some hsl1.symm))))); apply R.nil; refine ⟨?_, ?_⟩; (focus (repeat' first | exact trivial | exact At.head | apply At.tail | refine ⟨?_, ?_⟩))) <;> (apply A.one 9; kernel_rfl; exact rfl; (((apply R.buildSlice; (iterate 12 exact rfl); intro))); apply R.nil; refine ⟨?_, ?_⟩; (focus (repeat' first | exact trivial | exact At.head | apply At.tail | refine ⟨?_, ?_⟩))) <;> (apply A.one 10; kernel_rfl; exact rfl; (((apply R.append1; (iterate 12 exact rfl); (focus (repeat' first | exact OwnAt.mid hov1 | apply OwnAt.tail); done); exact At.head; exact rfl; exact rfl; omega; omega; intro b2 j2 k2 hj2))); apply R.nil; refine ⟨?_, ?_⟩; (focus (repeat' first | exact trivial | exact At.head | apply At.tail | refine ⟨?_, ?_⟩))) <;> (apply A.tk 11; exact rfl; kernel_rfl; (apply Ok1.nilCheck; exact rfl)) <;> (apply A.tk 12; exact rfl; kernel_rfl; (apply Ok1.fieldAddr; (iterate 5 exact rfl))) <;> (apply A.one 13; kernel_rfl; exact rfl; (((apply R.store; (iterate 6 exact rfl); (focus (repeat' first | exact Upd.head | apply Upd.tail); done); exact rfl))); apply R.nil; refine ⟨?_, ?_⟩; (focus (repeat' first | exact trivial | exact At.head | apply At.tail | refine ⟨?_, ?_⟩))) <;> (apply A.done; kernel_rfl)))))) | (apply T.drawC (id := 11) [] (by decide); ((apply A.tk 0; exact rfl; kernel_rfl; (apply Ok1.sliceArr; (iterate 4 exact rfl))) <;> (apply A.tk 1; exact rfl; kernel_rfl; (apply Ok1.sliceArr; (iterate 4 exact rfl))) <;> (apply A.one 2; kernel_rfl; exact rfl; (((apply R.callE (vs := [.slice (some ⟨_, 0, none⟩) 4 4]); (iterate 3 exact rfl); exact Ext.none _; intro w1 hw1; exact hnum _ w1 (RdSl.of (junk := []) hw1 (by exact At.head) rfl); rintro v Lo ⟨ovn, hovn, rfl, rfl⟩; rw [slV_eq hovn]))); apply R.nil; refine ⟨?_, ?_⟩; (focus ((repeat' (exact trivial))))) <;> (apply A.one 3; kernel_rfl; exact rfl; (((apply R.buildSlice; (iterate 12 exact rfl); intro))); apply R.nil; refine ⟨?_, ?_⟩; (focus ((repeat' (exact trivial))))) <;> (apply A.one 4; kernel_rfl; exact rfl; (((apply R.callE (vs := [.slice (some ⟨_, 0, none⟩) 2 2]); (iterate 3 exact rfl); exact Ext.none _; intro w1 hw1; exact hcon _ b7 (ovp ovn) (ovc ovn NB.length) w1 (RdSl.of (v := Pt.v) (junk := []) hw1 (by exact At.head) rfl) (RdSl.of (junk := []) hw1 (by (focus (repeat' first | exact At.head | apply At.tail | apply At.right); done)) rfl) (rdown hovn hw1 (Ext.mem (by (focus (repeat' first | exact Ext.here _ _ | apply Ext.cons); done)))); rintro v Lo ⟨ovr, hovr, rfl, rfl⟩))); apply R.nil; refine ⟨?_, ?_⟩; (focus ((repeat' (exact trivial))))) <;> (apply A.tk 5; exact rfl; kernel_rfl; (apply Ok1.assign; exact rfl)) <;> (apply A.tk 6; exact rfl; kernel_rfl; (apply Ok1.assign; exact rfl)) <;> (apply A.done; kernel_rfl))) | apply T.seq | apply T.region | apply T.skip | apply T.ret | (apply T.cond_f; exact rfl)))
        all_goals
          (apply RetOk.tt; exact rfl; exact rfl)
          have hov2 := hov1.some (b := b2) (ys := [.int .i64 seed, .int .i64 tick, .int .u8 d0, .int .u8 d1, .int .u8 d2, .int .u8 d3, .int .u8 d4, .int .u8 d5, .int .u8 d6, .int .u8 d7]) (m := 1) rfl hj2
          have hfl : fl Ak.v (al1 ++ [ak seed tick [d0, d1, d2, d3, d4, d5, d6, d7]]) = fl Ak.v al1 ++ [.int .i64 seed, .int .i64 tick, .int .u8 d0, .int .u8 d1, .int .u8 d2, .int .u8 d3, .int .u8 d4, .int .u8 d5, .int .u8 d6, .int .u8 d7] := by rw [fl_app]; rfl
          have hal9 : (al1 ++ [ak seed tick [d0, d1, d2, d3, d4, d5, d6, d7]]).length = al1.length + 1 := by simp
          refine ⟨_, ?_, some (b2, j2, k2), ovr, rfl, hovr, ⟨hgg, ?_, ?_, ?_, hfx.si⟩, rfl⟩
          · show Keep _ (FL bf bs gs (some (b2, j2, k2)) (al1 ++ [ak seed tick [d0, d1, d2, d3, d4, d5, d6, d7]]) since is ++ _)
            unfold FL FrC
            rw [hfl, hal9]
            (focus (repeat' first | exact Ext.one _ _ | exact Ext.here _ _ | exact Ext.all _ | apply Keep.cons | apply Keep.app | apply Keep.last | apply Ext.cons | apply Ext.app); done)
          · show OvOk 10 _ (al1 ++ [ak seed tick [d0, d1, d2, d3, d4, d5, d6, d7]]).length (fl Ak.v (al1 ++ [ak seed tick [d0, d1, d2, d3, d4, d5, d6, d7]]))
            rw [hfl, hal9]
            exact hov2
          · show (al1 ++ [ak seed tick [d0, d1, d2, d3, d4, d5, d6, d7]]).length ≤ 8
            rw [hal9]; omega
          · intro a ha
            rcases List.mem_append.1 ha with h9 | h9
            · exact htk1 a h9
            · rw [List.mem_singleton.1 h9]; exact ⟨h0, h1⟩
  · rw [if_neg hR] at hck
    have hE : FM.askE ⟨lgs gs, al, since, is⟩ seed tick dr = 10 := if_pos hR
    have hA : FM.ask ⟨lgs gs, al, since, is⟩ seed tick dr = ⟨lgs gs, al, since, is⟩ := if_pos hR
    have hB : FM.askB ⟨lgs gs, al, since, is⟩ seed tick dr = [] := by rw [FM.askB, hE, if_neg (by decide)]
    rw [hE, hA, hB]
    have hul : (u8s dr).length = 8 := by rw [u8s_len, hdl]
    generalize u8s dr = dv at *
    refine enterK (tb := tb) Tryz.func8 rfl Tryz.ntmps8 rfl ?_
    repeat' (first | (apply R.is1; first | (apply R.isBin; (apply R.pure; exact rfl; (apply Ok1.neq_t; exact rfl; exact rfl; omega))) | (apply R.isCall; apply R.callP rfl rfl rfl hck) | (apply R.pure; exact rfl; first | (apply Ok1.move; exact rfl) | (apply Ok1.load; exact rfl; (apply Ld.own1; exact rfl; exact rfl; (focus (repeat' first | exact At.head | apply At.tail); done); exact rfl)) | (apply Ok1.assign; exact rfl)) | (apply R.box; (iterate 3 exact rfl); intro)) | apply R.nil | (apply T.is; first | apply T.seq | apply T.region | apply T.ret | (apply T.cond_t; exact rfl)))
    (apply RetOk.tt; exact rfl; exact rfl)
    refine ⟨_, ?_, ov, none, rfl, ⟨rfl, rfl⟩, h, rfl⟩
    simp only [FL, blkL]
    (focus (repeat' first | exact Keep.nil _ | exact Ext.one _ _ | exact Ext.all _ | apply Keep.cons | apply Keep.app | apply Ext.cons); done)
def attV (xs : List Int) : List Int := (List.range 4).map (pairN (xs.drop 8))
def attE (xs : List Int) (room : Int) : Int := if xs.length ≠ 16 then 3 else if ¬ VR (attV xs) then 3 else if room < 40 then 2 else 0
def attD (ls : List (List Int)) (xs : List Int) (room : Int) : List (Int × List Int) := cutD ((room - 40) / 2).toNat (sinD ls (minV ls (attV xs)))
def p8I (ls : List (List Int)) : List Int := (shaI (prI ls)).take 8
def attB (ls : List (List Int)) (xs : List Int) (room : Int) : List Int := if attE xs room = 0 then xs.take 8 ++ (encG (lensI ls) (p8I ls) ++ encD (attD ls xs room)) else []
theorem p8I_len (ls : List (List Int)) : (p8I ls).length = 8 := by rw [p8I, List.length_take, sha_len]; rfl
theorem p8I_byt (ls : List (List Int)) : Byt (p8I ls) := fun y hy => sha_byt _ y (List.mem_of_mem_take hy)
theorem RsO.nx9 {s : Rs} {M : Lst} (h : RsO s M) (w : Nat) : ∀ n, RsO (s.nx w n) M
  | 0 => h
  | n + 1 => (h.nx9 w n).num w
theorem fil_v {A : List Int} {i : Nat} (hA : A.length = i) (hi : i < 4) (x : Int) : setE (iis (A ++ List.replicate (4 - i) 0)) (0 + i * 1) [.int .i64 x] = some (iis ((A ++ [x]) ++ List.replicate (4 - (i + 1)) 0)) := by
  rw [setE_one (by rw [iis_len, List.length_append, List.length_replicate]; omega), Nat.zero_add, Nat.mul_one]
  congr 1
  rw [iis, ← List.map_set]
  congr 1
  subst hA
  rw [List.set_append_right _ _ (Nat.le_refl _), Nat.sub_self, show 4 - A.length = (4 - (A.length + 1)) + 1 by omega, List.replicate_succ, List.set_cons_zero, List.append_assoc]
  rfl
theorem fil_at {A : List Int} {i : Nat} (hA : A.length = i) (x : Int) (B : List Int) : (iis ((A ++ [x]) ++ B))[0 + i * 1]? = some (.int .i64 x) := by
  rw [Nat.zero_add, Nat.mul_one, iis, List.getElem?_map, List.append_assoc, List.getElem?_append_right (by omega), hA, Nat.sub_self]
  rfl
theorem vr_snoc {A : List Int} {x : Int} (h0 : 0 ≤ x) : VR A → x ≤ 256 → VR (A ++ [x]) := fun h h1 y hy => by
  rcases List.mem_append.1 hy with h2 | h2
  · exact h y h2
  · rw [List.mem_singleton.1 h2]; exact ⟨h0, h1⟩
theorem cut_dr9 {ls : List (List Int)} {vs : List Int} (hlo : LOk ls) (hV : VR vs) (n : Nat) : DR (cutD n (sinD ls (minV ls vs))) := by
  intro x hx
  obtain ⟨y, hy, k, rfl⟩ := cutD_mem hx
  obtain ⟨h1, h2, l, hl, j, h3⟩ := sin_mem hy hV
  obtain ⟨h4, h5, h6⟩ := hlo l hl
  refine ⟨h1, h2, ?_, ?_⟩
  · simp only [h3, List.length_take, List.length_drop]; omega
  · intro z hz
    simp only [h3] at hz
    exact h4 z (List.mem_of_mem_drop (List.mem_of_mem_take hz))
theorem cntL_take : ∀ (dd : List (Int × List Int)) (i : Nat), cntL (dd.take i) ≤ cntL dd
  | [], i => by rw [List.take_nil]; exact Nat.le_refl _
  | x :: r, 0 => by rw [List.take_zero]; exact Nat.zero_le _
  | x :: r, i + 1 => by
    have h := cntL_take r i
    simp only [cntL, List.take_succ_cons, List.map_cons, List.sum_cons] at h ⊢
    omega
theorem cntL_mem : ∀ {dd : List (Int × List Int)} {x : Int × List Int}, x ∈ dd → x.2.length ≤ cntL dd
  | y :: r, x, h => by
    simp only [cntL, List.map_cons, List.sum_cons]
    rcases List.mem_cons.1 h with h1 | h1
    · subst h1; omega
    · have h2 := cntL_mem h1
      simp only [cntL] at h2
      omega
theorem Pt3 {p p2 p3 : Option Addr} {c2 c3 : Nat} {A B C : List Int} (h : A.length = 8) : fl Pt.v [⟨p, 8, A⟩, ⟨p2, c2, B⟩, ⟨p3, c3, C⟩] ++ [] = [.slice p 8 8, .slice p2 B.length c2, .slice p3 C.length c3] := by
  rw [← h]; rfl
theorem fattest_ok (bs : Nat) (gs : List Lg) (hg : GOk gs) (hlo : LOk (lgs gs)) (p : Option Addr) (n cap : Nat) (xs : List Int) (hn : n = xs.length) (hcap : n ≤ cap) (hbig : n ≤ 1000000) (hb8 : Byt (xs.drop 8)) (room : Int) (hr : 0 ≤ room ∧ room ≤ 360) (w : World) (hs : SetR w bs gs) (hp : RdSl w p u8V xs) :
    CallM Tryz.prog 11 [.pointer (some ⟨bs, 0, none⟩), .slice p n cap, .int .i64 room] [] w fun v L => ∃ ovb, OvOk 1 ovb (attB (lgs gs) xs room).length (u8s (attB (lgs gs) xs room)) ∧ v = .tuple #[slV ovb (attB (lgs gs) xs room).length, .int .i64 (attE xs room)] ∧ L = blkL 5 ovb (u8s (attB (lgs gs) xs room)) := by
  subst hn
  by_cases h16 : xs.length = 16
  · have hx8 : (xs.drop 8).length = 8 := by rw [List.length_drop, h16]
    have hnew := fun w1 (hc : Chg [] w w1) => rnewr_ok (sufP p cap 8 1) (xs.length - 8) (cap - 8) (xs.drop 8) (by omega) (by omega) hb8 w1 ((hp.suf (sz := 1) (i := 8) (fun _ => rfl) (by omega) hcap).chg' hc (fun _ => Off.nil _))
    refine enterK (tb := tb) Tryz.func11 rfl Tryz.ntmps11 rfl ?_
    repeat' (first | (apply R.is1; first | (apply R.isBin; (apply R.pure; exact rfl; first | (apply Ok1.neq_f; exact rfl; exact rfl; omega) | (apply Ok1.eqlP; (iterate 5 exact rfl)))) | (apply R.isCall; first | (apply R.callE (vs := [.slice (sufP p cap 8 1) (xs.length - 8) (cap - 8)]); (iterate 3 exact rfl); exact Ext.none _; intro w1 hw1; exact hnew w1 hw1.chg; rintro v Lo ⟨br, s, M, rfl, hsx, hse, hso, rfl⟩) | (apply R.pure; exact rfl; (apply Ok1.lenS; (iterate 3 exact rfl)))) | (apply R.pure; exact rfl; first | (apply Ok1.sufR (sz := 1) (i := 8); (iterate 6 exact rfl); omega; omega) | (apply Ok1.move; exact rfl) | (apply Ok1.assign; exact rfl)) | (apply R.alloc; (iterate 3 exact rfl); intro)) | apply R.nil | (apply T.is; first | apply T.seq | apply T.region | apply T.block | apply T.skip | (apply T.cond_f; exact rfl)))
    rename_i bv
    rw [if_pos (by omega)] at hsx hse
    have his : s.is (xs.drop 8) 0 := ⟨hsx, hse⟩
    have hnv := fun k (hk : k ≤ 4) => (Rs.nv2_is his hb8 k (by omega)).2
    have hnv4 : s.nv 2 4 = attV xs := hnv 4 (by decide)
    apply T.loopK (α := Nat) (I := fun i => i ≤ 4 ∧ VR (s.nv 2 i)) (σi := fun i => [(0, .pointer (some ⟨bs, 0, none⟩)), (1, .slice p xs.length cap), (2, .int .i64 room), (8, .pointer (some ⟨br, 0, none⟩)), (9, .pointer (some ⟨bv, 0, none⟩)), (25, .int .i64 i)]) (Li := fun i => (bv, .cells ⟨iis (s.nv 2 i ++ List.replicate (4 - i) 0)⟩ 68 (0, 0)) :: ((s.nx 2 i).L br ++ M)) (μ := fun i => 4 - i) (i0 := 0)
    · exact ⟨Nat.zero_le _, fun x hx => by cases hx⟩
    · exact ⟨rfl, rfl, rfl, rfl, rfl, rfl, trivial⟩
    · show Keep _ ((bv, .cells ⟨iis [0, 0, 0, 0]⟩ 68 (0, 0)) :: (s.L br ++ M))
      simp only [iis, List.map_cons, List.map_nil]
      (focus (repeat' first | exact Ext.one _ _ | exact Ext.here _ _ | exact Ext.all _ | apply Keep.cons | apply Keep.app | apply Keep.last | apply Ext.app); done)
    · rintro i ⟨hi, hVi⟩
      rcases Nat.lt_or_ge i 4 with hlt | hge
      · have hnn := fun w1 h1 => rnum_ok br (s.nx 2 i) 1 2 (by decide) u2 w1 h1
        have hok := hso.nx9 2 i
        have hst := fil_v (s.nv_len 2 i) hlt ((s.nx 2 i).num 2).1
        have hat := fil_at (s.nv_len 2 i) ((s.nx 2 i).num 2).1 (List.replicate (4 - (i + 1)) 0)
        have hrg := Rs.num_range (s.nx 2 i) 2 hok.byt rfl
        have hsn : s.nv 2 (i + 1) = s.nv 2 i ++ [((s.nx 2 i).num 2).1] := Rs.nv_snoc _ _ _
        rw [← hsn] at hst hat
        have hnx : s.nx 2 (i + 1) = ((s.nx 2 i).num 2).2.2 := rfl
        rw [← hnx] at hnn
        have hokw : ∀ w0 w1 S L Lr, Hp w0 S L w1 → Ext L ((s.nx 2 i).L br) Lr → (∀ z ∈ M, z ∈ Lr) → (s.nx 2 i).ok br w1 := fun _ _ _ _ _ a b c => hok.ok a b c
        generalize hxe : ((s.nx 2 i).num 2).1 = x at *
        by_cases hx : 256 < x
        · have hnV : ¬ VR (attV xs) := by
            rw [← hnv4]
            intro hV
            have hin : x ∈ s.nv 2 4 := by
              unfold Rs.nv
              exact List.mem_map.2 ⟨i, List.mem_range.2 hlt, hxe⟩
            have := (hV x hin).2
            omega
          have hE : attE xs room = 3 := by rw [attE, if_neg (fun h => h h16), if_pos hnV]
          have hB : attB (lgs gs) xs room = [] := by rw [attB, hE, if_neg (by decide)]
          rw [hE, hB]
          clear hnv hnv4 his hxe hsn
          generalize s.nx 2 i = r at *
          generalize s.nx 2 (i + 1) = r2 at *
          generalize r.L br = L0 at *
          generalize r2.L br = L1 at *
          generalize s.nv 2 i = A at *
          generalize s.nv 2 (i + 1) = A2 at *
          repeat' (first | (apply R.is1; first | (apply R.isBin; (apply R.pure; exact rfl; first | (apply Ok1.lss_t; exact rfl; exact rfl; omega) | (apply Ok1.gtr_t; exact rfl; exact rfl; omega))) | (apply R.isCall; (apply R.callE (Li := L0) (vs := [.pointer (some ⟨br, 0, none⟩), .int .i64 1]); (iterate 3 exact rfl); (focus (repeat' first | exact Ext.here _ _ | apply Ext.cons); done); intro w1 hw1; (apply hnn w1; apply hokw; exact hw1; (focus (repeat' first | exact Ext.here _ _ | apply Ext.cons); done); exact (Ext.mem (by (focus (repeat' first | exact Ext.all _ | apply Ext.cons); done)))); rintro v Lo ⟨rfl, hq⟩; rw [hq]; clear hq)) | (apply R.pure; exact rfl; first | (apply Ok1.load; exact rfl; apply Ld.own1; exact rfl; exact rfl; (focus (repeat' first | exact At.head | apply At.right); done); exact hat) | (apply Ok1.move; exact rfl) | (apply Ok1.assign; exact rfl) | (apply Ok1.indexAddrA; (iterate 5 exact rfl); omega; omega))) | (apply R.is0; (apply R.store; (iterate 6 exact rfl); (focus (repeat' first | exact Upd.head | apply Upd.right); done); exact hst)) | apply R.nil | (apply T.is; first | apply T.seq | apply T.region | apply T.block | apply T.skip | apply T.ret | (apply T.cond_t; exact rfl)))
          (apply RetOk.tt; exact rfl; exact rfl)
          exact ⟨_, by simp only [blkL]; (focus ((repeat' (exact Keep.nil _)); done)), none, ⟨rfl, rfl⟩, rfl, rfl⟩
        · have hV2 : VR (s.nv 2 (i + 1)) := by rw [hsn]; exact vr_snoc hrg.1 hVi (by omega)
          clear hnv hnv4 his hxe hsn
          generalize s.nx 2 i = r at *
          generalize hr2 : s.nx 2 (i + 1) = r2 at *
          generalize r.L br = L0 at *
          generalize hL1 : r2.L br = L1 at *
          generalize s.nv 2 i = A at *
          generalize hA2 : s.nv 2 (i + 1) = A2 at *
          repeat' (first | (apply R.is1; first | (apply R.isBin; (apply R.pure; exact rfl; first | (apply Ok1.add64; exact rfl; exact rfl; omega; omega) | (apply Ok1.lss_t; exact rfl; exact rfl; omega) | (apply Ok1.gtr_f; exact rfl; exact rfl; omega))) | (apply R.isCall; (apply R.callE (Li := L0) (vs := [.pointer (some ⟨br, 0, none⟩), .int .i64 1]); (iterate 3 exact rfl); (focus (repeat' first | exact Ext.here _ _ | apply Ext.cons); done); intro w1 hw1; (apply hnn w1; apply hokw; exact hw1; (focus (repeat' first | exact Ext.here _ _ | apply Ext.cons); done); exact (Ext.mem (by (focus (repeat' first | exact Ext.all _ | apply Ext.cons); done)))); rintro v Lo ⟨rfl, hq⟩; rw [hq]; clear hq)) | (apply R.pure; exact rfl; first | (apply Ok1.load; exact rfl; apply Ld.own1; exact rfl; exact rfl; (focus (repeat' first | exact At.head | apply At.right); done); exact hat) | (apply Ok1.move; exact rfl) | (apply Ok1.assign; exact rfl) | (apply Ok1.indexAddrA; (iterate 5 exact rfl); omega; omega))) | (apply R.is0; (apply R.store; (iterate 6 exact rfl); (focus (repeat' first | exact Upd.head | apply Upd.right); done); exact hst)) | apply R.nil | (apply T.is; first | apply T.seq | apply T.region | apply T.block | apply T.skip | (apply T.cond_t; exact rfl) | (apply T.cond_f; exact rfl)))
          refine ⟨i + 1, ⟨by omega, by rw [hA2]; exact hV2⟩, by omega, ⟨rfl, rfl, rfl, rfl, rfl, rfl, trivial⟩, ?_⟩
          simp only [hA2, hr2, hL1]
          (focus (repeat' first | exact Ext.one _ _ | exact Ext.here _ _ | exact Ext.all _ | apply Keep.cons | apply Keep.app | apply Keep.last | apply Ext.app); done)
      · have hi4 : i = 4 := by omega
        subst hi4
        have hVx : VR (attV xs) := by rw [← hnv4]; exact hVi
        rw [hnv4, Nat.sub_self, List.replicate_zero, List.append_nil]
        obtain ⟨v0, v1, v2, v3, hvs⟩ : ∃ v0 v1 v2 v3, attV xs = [v0, v1, v2, v3] := ⟨_, _, _, _, rfl⟩
        have hans := fun w1 (hc : Chg [] w w1) => answer_all bs gs hg v0 v1 v2 v3 (room - 8 - 16) (by omega) w1 (hs.chg hc)
        have hdof := fun w1 (hc : Chg [] w w1) => dOf_ok bs gs hg w1 (hs.chg hc)
        have hdgb := fun w1 => dbytes9_ok (lensI (lgs gs)) (p8I (lgs gs)) hg.l4 (p8I_len _) hg.vr (p8I_byt _) w1
        have hdof2 : ∀ w1, Chg [] w w1 → CallW Tryz.prog 79 [.pointer (some ⟨bs, 0, none⟩)] w1 fun v _ => v = .agg ⟨dgV (lensI (lgs gs)) (p8I (lgs gs))⟩ := hdof
        have hE2 : attE xs room = if room < 40 then 2 else 0 := by rw [attE, if_neg (fun h => h h16), if_neg (fun h => h hVx)]
        have hB2 : attB (lgs gs) xs room = if attE xs room = 0 then xs.take 8 ++ (encG (lensI (lgs gs)) (p8I (lgs gs)) ++ encD (attD (lgs gs) xs room)) else [] := rfl
        have hD2 : attD (lgs gs) xs room = cutD ((room - 8 - 16 - 16) / 2).toNat (sinD (lgs gs) (minV (lgs gs) (attV xs))) := by rw [attD, show room - 8 - 16 - 16 = room - 40 by omega]
        rw [hB2, hE2]
        rw [hvs] at hVx hD2 ⊢
        clear hnv hnv4 his hB2 hE2 hdof
        by_cases c40 : room < 40
        · simp only [if_pos c40, if_neg (show ¬ (2 : Int) = 0 by decide)]
          have hans2 := fun w1 hc => (hans w1 hc).wk (R' := fun v L => v = .tuple #[.agg ⟨dlV nod⟩, .int .i64 2]) fun v L h => by
            obtain ⟨d, E, h1, h2, h3, h4, h5, h6⟩ := h
            obtain ⟨rfl, rfl⟩ := h5 hVx (by omega)
            exact h2
          repeat' (first | (apply R.is1; first | (apply R.isBin; (apply R.pure; exact rfl; first | (apply Ok1.sub64; exact rfl; exact rfl; omega; omega) | (apply Ok1.lss_f; exact rfl; exact rfl; omega) | (apply Ok1.neq_t; exact rfl; exact rfl; omega))) | (apply R.isCall; (apply R.callE (vs := [.pointer (some ⟨bs, 0, none⟩), .agg ⟨iis [v0, v1, v2, v3]⟩, .int .i64 (room - 8 - 16)]); (iterate 3 exact rfl); exact Ext.none _; intro w1 hw1; exact hans2 w1 hw1.chg; rintro v Lo rfl; simp only [nod_v, noD])) | (apply R.pure; exact rfl; first | (apply Ok1.load; exact rfl; apply Ld.ownk; exact rfl; exact rfl; exact At.head; exact rfl) | (apply Ok1.move; exact rfl) | (apply Ok1.assign; exact rfl) | (apply Ok1.extract; exact rfl; exact rfl)) | (apply R.alloc; (iterate 3 exact rfl); intro)) | (apply R.is0; (apply R.store; (iterate 6 exact rfl); exact Upd.head; exact rfl)) | apply R.nil | (apply T.is; first | apply T.seq | apply T.region | apply T.exit | apply T.ret | (apply T.cond_t; exact rfl) | (apply T.cond_f; exact rfl)))
          (apply RetOk.tt; exact rfl; exact rfl)
          exact ⟨_, by simp only [blkL]; (focus ((repeat' (exact Keep.nil _)); done)), none, ⟨rfl, rfl⟩, rfl, rfl⟩
        · simp only [if_neg c40, if_pos (show (0 : Int) = 0 by decide)]
          have hans3 := fun w1 hc => (hans w1 hc).wk (R' := fun v L => ∃ d, v = .tuple #[.agg ⟨dlV d⟩, .int .i64 0] ∧ d.length = 4 ∧ DlO d L ∧ pur d = attD (lgs gs) xs room) fun v L h => by
            obtain ⟨d, E, h1, h2, h3, h4, h5, h6⟩ := h
            obtain ⟨rfl, h7⟩ := h6 hVx (by omega)
            exact ⟨d, h2, h1, h3, h7.trans hD2.symm⟩
          have hDR : DR (attD (lgs gs) xs room) := by rw [hD2]; exact cut_dr9 hlo hVx _
          have hcn : cntL (attD (lgs gs) xs room) ≤ 160 := by
            rw [hD2]
            have := cutD_cnt (sinD (lgs gs) (minV (lgs gs) [v0, v1, v2, v3])) ((room - 8 - 16 - 16) / 2).toNat
            omega
          have hwb : ∀ d, d.length = 4 → pur d = attD (lgs gs) xs room → ∀ w1, (∀ x ∈ d, RdSl w1 x.2.p iV x.2.xs) → CallM Tryz.prog 80 [.agg ⟨dlV d⟩] [] w1 (BRes (encD (attD (lgs gs) xs room))) := by
            intro d hd4 hpd w1 hrd
            rw [← hpd]
            refine wbytes_c d hd4 (fun x hx => ?_) (fun i => ?_) ((dok_dr d).2 (by rw [hpd]; exact hDR)) w1 hrd
            · have h9 : (x.1, x.2.xs) ∈ attD (lgs gs) xs room := by rw [← hpd]; exact List.mem_map.2 ⟨x, hx, rfl⟩
              have := cntL_mem h9
              simp only at this
              omega
            · rw [encD_cnt, hpd]
              have h8 := cntL_take (attD (lgs gs) xs room) i
              have h7 : ((attD (lgs gs) xs room).take i).length ≤ 4 := by rw [List.length_take, ← hpd, pur, List.length_map, hd4]; omega
              omega
          have hgl := encG_len hg.l4 (p8I_len (lgs gs))
          have hdl : (encD (attD (lgs gs) xs room)).length ≤ 1000 + 4 * (attD (lgs gs) xs room).length := by rw [encD_cnt]; omega
          have hdl4 : (attD (lgs gs) xs room).length ≤ 4 := by
            rw [hD2, cutD_len]
            simp [sinD, lgs, hg.len]
            omega
          have hp8 := fun w1 (hc : Chg [] w w1) => RdSl.pre (v := u8V) (sz := 1) (fun _ => rfl) (hp.chg' hc (fun _ => Off.nil _)) 8
          generalize attD (lgs gs) xs room = AD at *
          generalize hG : encG (lensI (lgs gs)) (p8I (lgs gs)) = G at *
          generalize encD AD = ED at *
          have hcon := fun q c1 c2 c3 p2 p3 w1 h1 (h2 : RdSl w1 p u8V (xs.take 8)) (h3 : RdSl w1 p2 u8V G) (h4 : RdSl w1 p3 u8V ED) => concat_ok (some ⟨q, 0, none⟩) 3 3 [⟨p, c1, xs.take 8⟩, ⟨p2, c2, G⟩, ⟨p3, c3, ED⟩] rfl (by simp only [cat, List.flatMap_cons, List.flatMap_nil, List.append_nil, List.length_append, List.length_take]; omega) (by decide) w1 h1 (by simp only [List.mem_cons, List.not_mem_nil, or_false, forall_eq_or_imp, forall_eq]; exact ⟨h2, h3, h4⟩)
          simp only [cat, List.flatMap_cons, List.flatMap_nil, List.append_nil] at hcon
          have hx8l : (xs.take 8).length = 8 := by rw [List.length_take]; omega
          have hon : ∀ d : Dl, (dlV d).all Value.oneCell' = true := dl_oner
          have hl8 : ∀ d : Dl, d.length = 4 → (dlV d).length = 8 := fun d h => dl_len8r h
          repeat' (first | (apply R.is1; first | (apply R.isBin; (apply R.pure; exact rfl; first | (apply Ok1.sub64; exact rfl; exact rfl; omega; omega) | (apply Ok1.lss_f; exact rfl; exact rfl; omega) | (apply Ok1.neq_f; exact rfl; exact rfl; omega))) | (apply R.isCall; first | (apply R.callE (vs := [.pointer (some ⟨bs, 0, none⟩), .agg ⟨iis [v0, v1, v2, v3]⟩, .int .i64 (room - 8 - 16)]); (iterate 3 exact rfl); exact Ext.none _; intro w1 hw1; exact hans3 w1 hw1.chg; rintro v Lo ⟨d, rfl, hd4, hdo, hpd⟩) | (apply R.callV (vs := [.pointer (some ⟨bs, 0, none⟩)]); (iterate 3 exact rfl); intro w1 hw1; exact hdof2 w1 hw1.chg) | (apply R.callE (vs := [.agg ⟨dgV (lensI (lgs gs)) (p8I (lgs gs))⟩]); (iterate 3 exact rfl); exact Ext.none _; intro w1 hw1; exact hdgb w1; rintro v Lo ⟨o1, ho1, rfl, rfl⟩; rw [slV_eq ho1]) | (apply R.callE (vs := [.agg ⟨dlV d⟩]); (iterate 3 exact rfl); exact Ext.none _; intro w1 hw1; exact hwb d hd4 hpd w1 (hdo.rd _ _ _ _ hw1 (Ext.mem (by (focus (repeat' first | exact Ext.here _ _ | apply Ext.cons | apply Ext.app); done)))); rintro v Lo ⟨o2, ho2, rfl, rfl⟩; rw [slV_eq ho2]) | (apply R.callE (vs := [.slice (some ⟨_, 0, none⟩) 3 3]); (iterate 3 exact rfl); exact Ext.none _; intro w1 hw1; exact hcon _ 8 (ovc o1 G.length) (ovc o2 ED.length) (ovp o1) (ovp o2) w1 (RdSl.of (v := Pt.v) (junk := []) hw1 (by exact At.head) (by rw [Pt3 hx8l])) (hp8 w1 hw1.chg) (rdown ho1 hw1 (Ext.mem (by (focus (repeat' first | exact Ext.here _ _ | apply Ext.cons | apply Ext.app); done)))) (rdown ho2 hw1 (Ext.mem (by (focus (repeat' first | exact Ext.here _ _ | apply Ext.cons); done)))); rintro v Lo ⟨ovr, hovr, rfl, rfl⟩)) | (apply R.pure; exact rfl; first | (apply Ok1.load; exact rfl; first | (apply Ld.ownk; exact rfl; exact rfl; (focus (repeat' first | exact At.head | apply At.right); done); exact rfl) | (apply Ld.ownk; exact rfl; exact rfl; (focus (repeat' first | exact At.head | apply At.right); done); exact subE_all (hl8 d hd4))) | (apply Ok1.preM (i := 8) (m := 8); (iterate 6 exact rfl); omega; omega) | (apply Ok1.move; exact rfl) | (apply Ok1.assign; exact rfl) | (apply Ok1.extract; exact rfl; exact rfl)) | (apply R.alloc; (iterate 3 exact rfl); intro) | (apply R.buildSlice; (iterate 12 exact rfl); intro)) | (apply R.is0; (apply R.store; (iterate 4 exact rfl); exact hl8 d hd4; exact hon d; exact Upd.head; exact setE_all (by rw [hl8 d hd4]; rfl))) | apply R.nil | (apply T.is; first | apply T.seq | apply T.region | apply T.skip | apply T.exit | apply T.ret | (apply T.cond_f; exact rfl)))
          (apply RetOk.tt; exact rfl; exact rfl)
          exact ⟨_, by (focus (repeat' first | exact Ext.here _ _ | apply Keep.last); done), ovr, hovr, rfl, rfl⟩
  · have hE : attE xs room = 3 := if_pos h16
    have hB : attB (lgs gs) xs room = [] := by rw [attB, hE, if_neg (by decide)]
    rw [hE, hB]
    refine enterK (tb := tb) Tryz.func11 rfl Tryz.ntmps11 rfl ?_
    repeat' (first | (apply R.is1; first | (apply R.isBin; (apply R.pure; exact rfl; first | (apply Ok1.neq_t; exact rfl; exact rfl; omega) | (apply Ok1.eqlP; (iterate 5 exact rfl)))) | (apply R.isCall; (apply R.pure; exact rfl; (apply Ok1.lenS; (iterate 3 exact rfl)))) | (apply R.pure; exact rfl; first | (apply Ok1.move; exact rfl) | (apply Ok1.assign; exact rfl))) | apply R.nil | (apply T.is; first | apply T.seq | apply T.region | apply T.block | apply T.ret | (apply T.cond_t; exact rfl) | (apply T.cond_f; exact rfl)))
    (apply RetOk.tt; exact rfl; exact rfl)
    exact ⟨_, by simp only [blkL]; (focus ((repeat' (exact Keep.nil _)); done)), none, ⟨rfl, rfl⟩, rfl, rfl⟩
def R00 (xs : List Int) : Rs := ⟨none, 0, xs, 0⟩
def tprs (xs : List Int) : List (Int × List Int) × Int := prs (R00 (xs.drop 24))
def tkxC (seed tick : Int) (xs : List Int) : Int := if ¬ Rgt seed tick then 10 else if xs.length < 40 then 4 else if ¬ VR (attV xs) then 3 else (tprs xs).2
theorem pairN_take (xs : List Int) : (List.range 4).map (pairN (xs.take 16)) = (List.range 4).map (pairN xs) := by
  refine List.map_congr_left fun j hj => ?_
  have := List.mem_range.1 hj
  unfold pairN
  rw [List.getD_eq_getElem?_getD, List.getD_eq_getElem?_getD, List.getD_eq_getElem?_getD, List.getD_eq_getElem?_getD, List.getElem?_take_of_lt (by omega), List.getElem?_take_of_lt (by omega)]
theorem byt24 {xs : List Int} (h : Byt (xs.drop 8)) : Byt (xs.drop 24) := fun y hy => h y (by rw [show 24 = 8 + 16 by decide, ← List.drop_drop] at hy; exact List.mem_of_mem_drop hy)
theorem rd_att {s : Rs} {xs : List Int} (hl : 40 ≤ xs.length) (hb : Byt (xs.drop 8)) (h1 : s.xs = (xs.drop 8).take 16) (h2 : s.e = 0) : ∃ p8, p8.length = 8 ∧ rdD s = if VR (attV xs) then (attV xs, p8, 0) else ([0, 0, 0, 0], [0, 0, 0, 0, 0, 0, 0, 0], 3) := by
  have hby : Byt ((xs.drop 8).take 16) := fun y hy => hb y (List.mem_of_mem_take hy)
  obtain ⟨r1, r2, r3⟩ := rd_long (s := s) ⟨h1, h2⟩ hby (by rw [List.length_take, List.length_drop]; omega)
  rw [pairN_take] at r2
  refine ⟨(((xs.drop 8).take 16).drop 8).take 8, ?_, ?_⟩
  · rw [List.length_take, List.length_drop, List.length_take, List.length_drop]; omega
  · rw [rdD, if_neg (by rw [r1.e]; decide), r2, r3]
    rfl
theorem prs_att {s : Rs} {xs : List Int} (h1 : s.xs = xs.drop 24) (h2 : s.e = 0) : prs s = tprs xs := Rs.eqv.prs ⟨h1, h2⟩
theorem attV_len (xs : List Int) : (attV xs).length = 4 := rfl
theorem covc_ok (us vs : List Int) (ha : us.length = 4) (hb : vs.length = 4) : CallP Tryz.prog 75 [.agg ⟨iis us⟩, .agg ⟨iis vs⟩] (.bool (decide (Cov us vs))) := covers_list us vs ha hb
theorem tprs_dr {xs : List Int} (h : (tprs xs).2 = 0) : DR (tprs xs).1 := by
  unfold tprs prs at h ⊢
  split at h
  · rename_i hf
    exact absurd h hf
  · split at h
    · rename_i hf hD
      rw [if_neg hf, if_pos hD]
      exact hD
    · exact absurd h (by decide)
theorem ftake_good (bf bs : Nat) (gs : List Lg) (ov : Ov) (al : List Ak) (since : Int) (is : Bool) (h : FOk gs ov al since) (seed tick : Int) (p : Option Addr) (cap : Nat) (xs : List Int) (hcap : xs.length ≤ cap) (hbig : xs.length ≤ 1000) (hb : Byt (xs.drop 8)) (w : World) (hp : RdSl w p u8V xs) (hoff : xs ≠ [] → Off p (blks (FL bf bs gs ov al since is))) (hc : tkxC seed tick xs = 0) :
    CallM Tryz.prog 9 [.pointer (some ⟨bf, 0, none⟩), .int .i64 seed, .int .i64 tick, .slice p xs.length cap] (FL bf bs gs ov al since is) w fun v L => ∃ gs' ov', v = .tuple #[.bool (FM.takeY ⟨lgs gs, al, since, is⟩ seed tick (xs.take 8) (attV xs) (tprs xs).1), .int .i64 (FM.takeE ⟨lgs gs, al, since, is⟩ seed tick (xs.take 8) (tprs xs).1)] ∧ lgs gs' = (FM.take ⟨lgs gs, al, since, is⟩ seed tick (xs.take 8) (attV xs) (tprs xs).1).ls ∧ FOk gs' ov' (FM.take ⟨lgs gs, al, since, is⟩ seed tick (xs.take 8) (attV xs) (tprs xs).1).al (FM.take ⟨lgs gs, al, since, is⟩ seed tick (xs.take 8) (attV xs) (tprs xs).1).since ∧ L = FL bf bs gs' ov' (FM.take ⟨lgs gs, al, since, is⟩ seed tick (xs.take 8) (attV xs) (tprs xs).1).al (FM.take ⟨lgs gs, al, since, is⟩ seed tick (xs.take 8) (attV xs) (tprs xs).1).since (FM.take ⟨lgs gs, al, since, is⟩ seed tick (xs.take 8) (attV xs) (tprs xs).1).is := by
  have hck := fcheck_ok ⟨bf, 0, none⟩ seed tick
  have hR : Rgt seed tick := by
    by_cases hR : Rgt seed tick
    · exact hR
    · rw [tkxC, if_pos hR] at hc; omega
  have h40 : ¬ xs.length < 40 := fun h40 => by rw [tkxC, if_neg (fun h => h hR), if_pos h40] at hc; omega
  have hV : VR (attV xs) := by
    by_cases hV : VR (attV xs)
    · exact hV
    · rw [tkxC, if_neg (fun h => h hR), if_neg h40, if_pos hV] at hc; omega
  have hpe : (tprs xs).2 = 0 := by rw [tkxC, if_neg (fun h => h hR), if_neg h40, if_neg (fun h => h hV)] at hc; exact hc
  rw [if_pos hR] at hck
  obtain ⟨_, _, h0, h1⟩ := hR
  have hnr : ∀ w1, Chg (blks (FL bf bs gs ov al since is)) w w1 → CallM Tryz.prog 26 [.slice (sufP p cap 8 1) 16 (cap - 8)] [] w1 fun v L => ∃ br s M, v = .pointer (some ⟨br, 0, none⟩) ∧ s.xs = (xs.drop 8).take 16 ∧ s.e = 0 ∧ RsO s M ∧ L = s.L br ++ M := fun w1 hc1 => by
    refine (rnewr_ok (sufP p cap 8 1) 16 (cap - 8) ((xs.drop 8).take 16) (by rw [List.length_take, List.length_drop]; omega) (by decide) (fun y hy => hb y (List.mem_of_mem_take hy)) w1 (RdSl.pre (v := u8V) (sz := 1) (fun _ => rfl) (RdSl.suf (v := u8V) (sz := 1) (fun _ => rfl) (hp.chg' hc1 hoff) (by omega) hcap) 16)).wk ?_
    rintro v L ⟨br, s, M, h1, h2, h3, h4, h5⟩
    exact ⟨br, s, M, h1, h2, h3, h4, h5⟩
  have hr9 := fun br s w1 h1 => read9_ok br s w1 h1
  have hpa := fun w1 (hc1 : Chg (blks (FL bf bs gs ov al since is)) w w1) => parse_ok (sufP p cap 24 1) (xs.length - 24) (cap - 24) (xs.drop 24) (by rw [List.length_drop]) (by omega) (byt24 hb) w1 (RdSl.suf (v := u8V) (sz := 1) (fun _ => rfl) (hp.chg' hc1 hoff) (by omega) hcap)
  have hpa2 : ∀ w1, Chg (blks (FL bf bs gs ov al since is)) w w1 → CallM Tryz.prog 27 [.slice (sufP p cap 24 1) (xs.length - 24) (cap - 24)] [] w1 fun v L => ∃ d : Dl, d.length = 4 ∧ v = .tuple #[.agg ⟨dlV d⟩, .int .i64 0] ∧ pur d = (tprs xs).1 ∧ DlO d L := fun w1 hc1 => by
    refine (hpa w1 hc1).wk ?_
    rintro v L ⟨s, d, h1, h2, h3, h4, h5, h6⟩
    rw [if_pos (by omega)] at h1 h2
    rw [prs_att h1 h2, hpe] at h4
    rw [prs_att h1 h2] at h5
    exact ⟨d, h3, h4, h5, h6⟩
  have hDl : ∀ p8, p8.length = 8 → (dgV (attV xs) p8).length = 12 := fun p8 h => dg_len (attV_len xs) h
  have hDs : ∀ p8, subE (dgV (attV xs) p8) 0 4 = some (iis (attV xs)) := fun p8 => subE_app _ _ (by rw [iis_len, attV_len])
  have hx8 : (xs.take 8).length = 8 := by rw [List.length_take]; omega
  have hle := h.le
  have hov := h.ov
  have hgg := h.g
  have hfd := fun w1 e1 e2 (hc1 : Chg (blks (FL bf bs gs ov al since is)) w w1) => ffind_ok bf bs ov al h.ov h.le since is seed tick h0 h1 p cap (xs.take 8) w1 e1 e2 (RdSl.pre (v := u8V) (sz := 1) (fun _ => rfl) (hp.chg' hc1 hoff) 8)
  rw [hx8] at hfd
  have hpn := posI_neg al (Ak.is seed tick (xs.take 8))
  have hpv : posI al (Ak.is seed tick (xs.take 8)) = if apos al seed tick (xs.take 8) < al.length then ((apos al seed tick (xs.take 8) : Nat) : Int) else -1 := rfl
  have hTE : FM.takeE ⟨lgs gs, al, since, is⟩ seed tick (xs.take 8) (tprs xs).1 = if apos al seed tick (xs.take 8) < al.length then appX (lgs gs) (tprs xs).1 else 7 := rfl
  have hTY : FM.takeY ⟨lgs gs, al, since, is⟩ seed tick (xs.take 8) (attV xs) (tprs xs).1 = (decide (FM.takeE ⟨lgs gs, al, since, is⟩ seed tick (xs.take 8) (tprs xs).1 = 0) && decide (Cov (lensI (appL (lgs gs) (tprs xs).1)) (attV xs))) := rfl
  have hTM : FM.take ⟨lgs gs, al, since, is⟩ seed tick (xs.take 8) (attV xs) (tprs xs).1 = if FM.takeE ⟨lgs gs, al, since, is⟩ seed tick (xs.take 8) (tprs xs).1 = 0 then ⟨appL (lgs gs) (tprs xs).1, al.eraseIdx (apos al seed tick (xs.take 8)), if Cov (lensI (appL (lgs gs) (tprs xs).1)) (attV xs) then max since ((al[apos al seed tick (xs.take 8)]?.map Ak.tick).getD 0) else since, is || decide (Cov (lensI (appL (lgs gs) (tprs xs).1)) (attV xs))⟩ else ⟨lgs gs, al, since, is⟩ := rfl
  rw [hTM, hTY, hTE]
  clear hTM hTY hTE
  generalize hDD : (tprs xs).1 = DD at *
  generalize hAP : apos al seed tick (xs.take 8) = ap at *
  have hx1000 := hbig
  rw [hpv] at hfd hpn
  by_cases hf : ap < al.length
  · simp only [if_pos hf] at hfd ⊢
    clear hpv hpn
    have hDR : DR DD := by rw [← hDD]; exact tprs_dr hpe
    obtain ⟨x, hx⟩ : ∃ x, al[ap]? = some x := ⟨_, List.getElem?_eq_getElem hf⟩
    have hxt := h.tk x (List.mem_of_getElem? hx)
    have hsi := h.si
    obtain ⟨b, j, junk, rfl⟩ : ∃ b j junk, ov = some (b, j, junk) := by
      cases ov with
      | none => exact absurd hov.2 (by omega)
      | some q => exact ⟨_, _, _, rfl⟩
    have hap : ∀ d : Dl, d.length = 4 → pur d = DD → (∀ x ∈ d, x.2.xs.length ≤ x.2.cap) → ∀ w1, (∀ x ∈ d, RdSl w1 x.2.p iV x.2.xs) → (∀ x ∈ d, x.2.xs ≠ [] → Off x.2.p (blks (SetL bs gs))) → CallM Tryz.prog 73 [.pointer (some ⟨bs, 0, none⟩), .agg ⟨dlV d⟩] (SetL bs gs) w1 fun v L => ∃ gs', v = .tuple #[.int .i64 (appN (lgs gs) DD), .int .i64 (appX (lgs gs) DD)] ∧ lgs gs' = appL (lgs gs) DD ∧ GOk gs' ∧ L = SetL bs gs' := by
      intro d hd4 hpd hcp w1 e1 e2
      have h9 := apply_ok bs gs hgg d hd4 (fun x hx => ⟨by
        have hm : (x.1, x.2.xs) ∈ DD := by rw [← hpd]; exact List.mem_map.2 ⟨x, hx, rfl⟩
        have := (hDR _ hm).2.2.1
        simp only at this
        omega, hcp x hx⟩) w1 e1 e2
      have hp : (d.map fun x => (x.1, x.2.xs)) = DD := hpd
      rw [hp] at h9
      exact h9
    refine enterK (tb := tb) Tryz.func9 rfl Tryz.ntmps9 rfl ?_
    simp only [FL] at *
    repeat' (first | (apply R.is1; first | (apply R.isBin; (apply R.pure; exact rfl; first | (apply Ok1.lss_f; exact rfl; exact rfl; omega) | (apply Ok1.neq_f; exact rfl; exact rfl; omega))) | (apply R.isCall; first | apply R.callP rfl rfl rfl hck | (apply R.callE (vs := [.slice (sufP p cap 8 1) 16 (cap - 8)]); (iterate 3 exact rfl); exact Ext.none _; intro w1 hw1; exact hnr w1 hw1.chg; rintro v Lo ⟨br, s, M, rfl, hsx, hse, hso, rfl⟩; obtain ⟨p8, hp8, hrd⟩ := rd_att (by omega) hb hsx hse; rw [if_pos hV] at hrd) | (apply R.callE (Li := s.L br) (vs := [.pointer (some ⟨br, 0, none⟩)]); (iterate 3 exact rfl); (focus ((repeat' (exact Ext.one _ _)); done)); intro w1 hw1; exact hr9 br s w1 (hso.ok hw1 (by (focus ((repeat' (exact Ext.one _ _)); done))) (Ext.mem (by (focus ((repeat' (exact Ext.here _ _)); done))))); rintro v Lo ⟨hv, rfl⟩; rw [hrd] at hv; simp only at hv; subst hv) | (apply R.callE (vs := [.slice (sufP p cap 24 1) (xs.length - 24) (cap - 24)]); (iterate 3 exact rfl); exact Ext.none _; intro w1 hw1; exact hpa2 w1 hw1.chg; rintro v Lo ⟨d, hd4, rfl, hpd, hdo⟩) | (apply R.callV (vs := [.pointer (some ⟨bf, 0, none⟩), .int .i64 seed, .int .i64 tick, .slice p 8 cap]); (iterate 3 exact rfl); intro w1 hw1; exact hfd w1 (hw1.get _ _ (At.mem (by (focus (repeat' first | exact At.head | apply At.tail | apply At.right); done)))) (RdSl.own' hw1 (Ext.mem (by (focus (repeat' first | exact Ext.one _ _ | apply Ext.cons | apply Ext.app); done))) hov Ak.v_len) hw1.chg) | (apply R.pure; exact rfl; (apply Ok1.lenS; (iterate 3 exact rfl)))) | (apply R.pure; exact rfl; first | (apply Ok1.midR (i := 8) (j := 24) (sz := 1); (iterate 7 exact rfl); omega; omega) | (apply Ok1.sufR (sz := 1) (i := 24); (iterate 6 exact rfl); omega; omega) | (apply Ok1.preR (i := 8); (iterate 5 exact rfl); omega) | (apply Ok1.move; exact rfl) | (apply Ok1.assign; exact rfl) | (apply Ok1.extract; exact rfl; exact rfl)) | (apply R.alloc; (iterate 3 exact rfl); intro)) | (apply R.is0; first | (apply R.store; (iterate 4 exact rfl); exact hDl p8 hp8; exact dg_one _ _; exact Upd.head; exact setE_all (by rw [hDl p8 hp8]; rfl)) | (apply R.store; (iterate 4 exact rfl); exact dl_len8r hd4; exact dl_oner d; exact Upd.head; exact setE_all (by rw [dl_len8r hd4]; rfl))) | apply R.nil | (apply T.is; first | apply T.seq | apply T.region | apply T.skip | (apply T.cond_f; exact rfl)))
    rename_i b11 b13
    refine T.weakK (σ' := [(0, .pointer (some ⟨bf, 0, none⟩)), (11, .pointer (some ⟨b11, 0, none⟩)), (13, .pointer (some ⟨b13, 0, none⟩)), (14, .int .i64 ap)]) (L' := (b13, .cells ⟨dlV d⟩ 76 (0, 0)) :: (bf, .cells ⟨FrC bs (some (b, j, junk)) al.length since is⟩ 166 (0, 0)) :: (b11, .cells ⟨dgV (attV xs) p8⟩ 70 (0, 0)) :: (b, .cells ⟨fl Ak.v al ++ junk⟩ 164 (0, 0)) :: (SetL bs gs ++ Lo)) ?_ (by (focus (repeat' first | exact Ext.one _ _ | exact Ext.here _ _ | exact Ext.all _ | apply Keep.cons | apply Keep.app | apply Keep.last | apply Ext.cons | apply Ext.app); done)) ⟨rfl, rfl, rfl, rfl, trivial⟩
    have hap2 := hap d hd4 hpd hdo.cap
    have hl8 := dl_len8r hd4
    simp only [FrC, slV]
    by_cases hX : appX (lgs gs) DD = 0
    · simp only [hX, decide_eq_true (show (0 : Int) = 0 by decide), Bool.true_and, if_pos (show (0 : Int) = 0 by decide)]
      rw [hX] at hap2
      have hdel : ∀ w1, CallM Tryz.prog 74 [.slice (some ⟨b, 0, none⟩) al.length (al.length + j), .int .i64 ap, .int .i64 (ap + 1)] [(b, .cells ⟨fl Ak.v al ++ junk⟩ 164 (0, 0))] w1 fun v L => ∃ ov', OvOk 10 ov' (al.eraseIdx ap).length (fl Ak.v (al.eraseIdx ap)) ∧ v = slV ov' (al.eraseIdx ap).length ∧ L = blkL 164 ov' (fl Ak.v (al.eraseIdx ap)) := fun w1 => adelete_ok b j junk al hov (by omega) ap hf w1
      have hel : (al.eraseIdx ap).length = al.length - 1 := by rw [List.length_eraseIdx, if_pos hf]
      have hem : ∀ a ∈ al.eraseIdx ap, 0 ≤ a.tick ∧ a.tick ≤ 1073741824 := fun a ha => h.tk a ((List.eraseIdx_sublist _ _).subset ha)
      have hgx : (al[ap]?.map Ak.tick).getD 0 = x.tick := by rw [hx]; rfl
      rw [hgx]
      have hl4 : (appL (lgs gs) DD).length = 4 ∨ True := .inr trivial
      have hver := fun gs' hg' w1 hs => versions_ok bs gs' hg' w1 hs
      simp only [lens_I] at hver
      have hcv := fun gs' (hg' : GOk gs') => covc_ok (lensI (lgs gs')) (attV xs) hg'.l4 (attV_len xs)
      generalize hal' : al.eraseIdx ap = al' at *
      generalize appN (lgs gs) DD = N9 at *
      repeat' (first | (apply R.is1; first | (apply R.isBin; (apply R.pure; exact rfl; first | (apply Ok1.add64; exact rfl; exact rfl; omega; omega) | (apply Ok1.neq_f; exact rfl; exact rfl; omega))) | (apply R.isCall; (apply R.callE (Li := [(b, .cells ⟨fl Ak.v al ++ junk⟩ 164 (0, 0))]) (vs := [.slice (some ⟨b, 0, none⟩) al.length (al.length + j), .int .i64 ap, .int .i64 (ap + 1)]); (iterate 3 exact rfl); (focus (repeat' first | exact Ext.one _ _ | apply Ext.cons | apply Ext.app); done); intro w1 hw1; exact hdel w1; rintro v Lo3 ⟨ov2, hov2, rfl, rfl⟩; rw [slV_eq hov2])) | (apply R.pure; exact rfl; first | (apply Ok1.load; exact rfl; (apply Ld.ownrow1 (f := 1); (focus (repeat' first | exact At.head | apply At.tail | apply At.right); done); exact Ak.v_len; exact hx; (focus ((simp; done))); (iterate 3 exact rfl))) | (apply Ok1.move; exact rfl) | (apply Ok1.fieldAddr; (iterate 5 exact rfl)) | (apply Ok1.load; exact rfl; (apply Ld.own1; exact rfl; exact rfl; (focus (repeat' first | exact At.head | apply At.tail | apply At.right); done); exact rfl)) | (apply Ok1.assign; exact rfl) | (apply Ok1.indexAddr; (iterate 5 exact rfl); omega; omega) | (apply Ok1.nilCheck; exact rfl))) | (apply R.is0; (apply R.store; (iterate 6 exact rfl); (focus (repeat' first | exact Upd.head | apply Upd.tail | apply Upd.right); done); exact rfl)) | apply R.nil | (apply T.is; first | (apply T.drawC (id := 15) [0,1] (by decide); ((apply A.tk 0; exact rfl; kernel_rfl; (apply Ok1.move; exact rfl)) <;> (apply A.tk 1; exact rfl; kernel_rfl; (apply Ok1.nilCheck; exact rfl)) <;> (apply A.tk 2; exact rfl; kernel_rfl; (apply Ok1.fieldAddr; (iterate 5 exact rfl))) <;> (apply A.tk 3; exact rfl; kernel_rfl; (apply Ok1.load; exact rfl; (apply Ld.own1; exact rfl; exact rfl; (focus (repeat' first | exact At.head | apply At.tail); done); exact rfl))) <;> (apply A.tk 4; exact rfl; kernel_rfl; (apply Ok1.load; exact rfl; (apply Ld.ownk; exact rfl; exact rfl; exact At.head; exact subE_all hl8))) <;> (apply A.one 5; kernel_rfl; exact rfl; (((apply R.callE (Li := SetL bs gs) (vs := [.pointer (some ⟨bs, 0, none⟩), .agg ⟨dlV d⟩]); (iterate 3 exact rfl); (focus (repeat' first | exact Ext.here _ _ | apply Ext.cons); done); intro w1 hw1; exact hap2 w1 (hdo.rd _ _ _ _ hw1 (Ext.mem (by (focus (repeat' first | exact Ext.all _ | apply Ext.cons | apply Ext.app); done)))) (hdo.off (Li := SetL bs gs) hw1 (by (focus (repeat' first | exact Ext.here _ _ | apply Ext.cons); done)) (Ext.mem (by (focus (repeat' first | exact Ext.all _ | apply Ext.cons); done)))); rintro v Lo2 ⟨gs', rfl, hl', hg', rfl⟩))); apply R.nil; refine ⟨?_, ?_⟩; (focus (repeat' first | exact trivial | exact At.head | apply At.tail | apply At.right | refine ⟨?_, ?_⟩))) <;> (apply A.tk 6; exact rfl; kernel_rfl; (apply Ok1.move; exact rfl)) <;> (apply A.tk 7; exact rfl; kernel_rfl; (apply Ok1.extract; exact rfl; exact rfl)) <;> (apply A.tk 8; exact rfl; kernel_rfl; (apply Ok1.extract; exact rfl; exact rfl)) <;> (apply A.tk 9; exact rfl; kernel_rfl; (apply Ok1.assign; exact rfl)) <;> (apply A.tk 10; exact rfl; kernel_rfl; (apply Ok1.assign; exact rfl)) <;> (apply A.done; kernel_rfl))) | apply T.seq | apply T.region | apply T.skip | (apply T.cond_f; exact rfl)))
      have hsl2 := slV_eq hov2
      have hver2 := hver gs' hg'
      have hcv2 := hcv gs' hg'
      rw [hl'] at hver2 hcv2
      refine T.weakK (σ' := [(0, .pointer (some ⟨bf, 0, none⟩)), (11, .pointer (some ⟨b11, 0, none⟩)), (17, .int .i64 x.tick)]) (L' := (bf, .cells ⟨[.pointer (some ⟨bs, 0, none⟩), .slice (ovp ov2) al'.length (ovc ov2 al'.length), .int .i64 since, .bool is]⟩ 166 (0, 0)) :: (b11, .cells ⟨dgV (attV xs) p8⟩ 70 (0, 0)) :: (SetL bs gs' ++ blkL 164 ov2 (fl Ak.v al'))) ?_ (by (focus (repeat' first | exact Ext.one _ _ | exact Ext.here _ _ | apply Keep.cons | apply Keep.app | apply Keep.last | apply Ext.cons | apply Ext.app); done)) ⟨rfl, rfl, rfl, trivial⟩
      have hds := hDs p8
      generalize attV xs = AV at *
      generalize dgV AV p8 = DG at *
      generalize lensI (appL (lgs gs) DD) = LN at *
      by_cases hC : Cov LN AV
      · simp only [decide_eq_true hC, if_pos hC, Bool.or_true] at hcv2 ⊢
        repeat' (first | (apply R.is1; first | (apply R.isCall; (apply R.pure; exact rfl; (apply Ok1.max2; exact rfl; exact rfl))) | (apply R.pure; exact rfl; first | (apply Ok1.move; exact rfl) | (apply Ok1.fieldAddr; (iterate 5 exact rfl)) | (apply Ok1.load; exact rfl; (apply Ld.own1; exact rfl; exact rfl; exact At.head; exact rfl)) | (apply Ok1.assign; exact rfl) | (apply Ok1.nilCheck; exact rfl))) | (apply R.is0; (apply R.store; (iterate 6 exact rfl); exact Upd.head; exact rfl)) | apply R.nil | (apply T.is; first | (apply T.drawC (id := 20) [0,1] (by decide); ((apply A.tk 0; exact rfl; kernel_rfl; (apply Ok1.move; exact rfl)) <;> (apply A.tk 1; exact rfl; kernel_rfl; (apply Ok1.nilCheck; exact rfl)) <;> (apply A.tk 2; exact rfl; kernel_rfl; (apply Ok1.fieldAddr; (iterate 5 exact rfl))) <;> (apply A.tk 3; exact rfl; kernel_rfl; (apply Ok1.load; exact rfl; (apply Ld.own1; exact rfl; exact rfl; exact At.head; exact rfl))) <;> (apply A.tk 5; exact rfl; kernel_rfl; (apply Ok1.fieldAddr; (iterate 5 exact rfl))) <;> (apply A.tk 6; exact rfl; kernel_rfl; (apply Ok1.load; exact rfl; apply Ld.ownk; exact rfl; exact rfl; (focus (repeat' first | exact At.head | apply At.tail); done); exact hds)) <;> (apply A.one 4; kernel_rfl; exact rfl; (((apply R.callV (vs := [.pointer (some ⟨bs, 0, none⟩)]); (iterate 3 exact rfl); intro w1 hw1; exact hver2 w1 (SetR.of hg' hw1 (Ext.mem (by (focus (repeat' first | exact Ext.here _ _ | apply Ext.cons); done))))))); apply R.nil; refine ⟨?_, ?_⟩; (focus (repeat' first | exact trivial | exact At.head | apply At.tail | refine ⟨?_, ?_⟩))) <;> (apply A.one 7; kernel_rfl; exact rfl; ((apply R.callP rfl rfl rfl hcv2)); apply R.nil; refine ⟨?_, ?_⟩; (focus (repeat' first | exact trivial | exact At.head | apply At.tail | refine ⟨?_, ?_⟩))) <;> (apply A.tk 8; exact rfl; kernel_rfl; (apply Ok1.not_t; exact rfl)) <;> (apply A.done; kernel_rfl))) | apply T.seq | apply T.region | apply T.skip | apply T.ret | (apply T.cond_f; exact rfl)))
        (apply RetOk.tt; exact rfl; exact rfl)
        refine ⟨_, ?_, gs', ov2, rfl, hl', ⟨hg', hov2, (show al'.length ≤ 8 from by omega), hem, (show 0 ≤ max since x.tick ∧ max since x.tick ≤ 1073741824 from by omega)⟩, rfl⟩
        show Keep _ (FL bf bs gs' ov2 al' (max since x.tick) true)
        simp only [FL, FrC, hsl2]
        (focus (repeat' first | exact Ext.one _ _ | exact Ext.here _ _ | exact Ext.all _ | apply Keep.cons | apply Keep.app | apply Keep.last | apply Ext.cons | apply Ext.app); done)
      · simp only [decide_eq_false hC, if_neg hC, Bool.or_false] at hcv2 ⊢
        repeat' (first | (apply R.is1; (apply R.pure; exact rfl; (apply Ok1.assign; exact rfl))) | apply R.nil | (apply T.is; first | (apply T.drawC (id := 20) [0,1] (by decide); ((apply A.tk 0; exact rfl; kernel_rfl; (apply Ok1.move; exact rfl)) <;> (apply A.tk 1; exact rfl; kernel_rfl; (apply Ok1.nilCheck; exact rfl)) <;> (apply A.tk 2; exact rfl; kernel_rfl; (apply Ok1.fieldAddr; (iterate 5 exact rfl))) <;> (apply A.tk 3; exact rfl; kernel_rfl; (apply Ok1.load; exact rfl; (apply Ld.own1; exact rfl; exact rfl; exact At.head; exact rfl))) <;> (apply A.tk 5; exact rfl; kernel_rfl; (apply Ok1.fieldAddr; (iterate 5 exact rfl))) <;> (apply A.tk 6; exact rfl; kernel_rfl; (apply Ok1.load; exact rfl; apply Ld.ownk; exact rfl; exact rfl; (focus (repeat' first | exact At.head | apply At.tail); done); exact hds)) <;> (apply A.one 4; kernel_rfl; exact rfl; (((apply R.callV (vs := [.pointer (some ⟨bs, 0, none⟩)]); (iterate 3 exact rfl); intro w1 hw1; exact hver2 w1 (SetR.of hg' hw1 (Ext.mem (by (focus (repeat' first | exact Ext.here _ _ | apply Ext.cons); done))))))); apply R.nil; refine ⟨?_, ?_⟩; (focus (repeat' first | exact trivial | exact At.head | apply At.tail | refine ⟨?_, ?_⟩))) <;> (apply A.one 7; kernel_rfl; exact rfl; ((apply R.callP rfl rfl rfl hcv2)); apply R.nil; refine ⟨?_, ?_⟩; (focus (repeat' first | exact trivial | exact At.head | apply At.tail | refine ⟨?_, ?_⟩))) <;> (apply A.tk 8; exact rfl; kernel_rfl; (apply Ok1.not_f; exact rfl)) <;> (apply A.done; kernel_rfl))) | apply T.seq | apply T.region | apply T.ret | (apply T.cond_t; exact rfl)))
        (apply RetOk.tt; exact rfl; exact rfl)
        refine ⟨_, ?_, gs', ov2, rfl, hl', ⟨hg', hov2, (show al'.length ≤ 8 from by omega), hem, h.si⟩, rfl⟩
        show Keep _ (FL bf bs gs' ov2 al' since is)
        simp only [FL, FrC, hsl2]
        (focus (repeat' first | exact Ext.one _ _ | exact Ext.here _ _ | exact Ext.all _ | apply Keep.cons | apply Keep.app | apply Keep.last | apply Ext.cons | apply Ext.app); done)
    · simp only [if_neg hX, decide_eq_false hX, Bool.false_and]
      have hL9 : appL (lgs gs) DD = lgs gs := if_neg hX
      rw [hL9] at hap2
      generalize appX (lgs gs) DD = X9 at *
      generalize appN (lgs gs) DD = N9 at *
      repeat' (first | (apply R.is1; first | (apply R.isBin; (apply R.pure; exact rfl; (apply Ok1.neq_t; exact rfl; exact rfl; omega))) | (apply R.pure; exact rfl; first | (apply Ok1.move; exact rfl) | (apply Ok1.assign; exact rfl))) | apply R.nil | (apply T.is; first | (apply T.drawC (id := 15) [0,1] (by decide); ((apply A.tk 0; exact rfl; kernel_rfl; (apply Ok1.move; exact rfl)) <;> (apply A.tk 1; exact rfl; kernel_rfl; (apply Ok1.nilCheck; exact rfl)) <;> (apply A.tk 2; exact rfl; kernel_rfl; (apply Ok1.fieldAddr; (iterate 5 exact rfl))) <;> (apply A.tk 3; exact rfl; kernel_rfl; (apply Ok1.load; exact rfl; (apply Ld.own1; exact rfl; exact rfl; (focus (repeat' first | exact At.head | apply At.tail); done); exact rfl))) <;> (apply A.tk 4; exact rfl; kernel_rfl; (apply Ok1.load; exact rfl; apply Ld.ownk; exact rfl; exact rfl; exact At.head; exact subE_all hl8)) <;> (apply A.one 5; kernel_rfl; exact rfl; (((apply R.callE (Li := SetL bs gs) (vs := [.pointer (some ⟨bs, 0, none⟩), .agg ⟨dlV d⟩]); (iterate 3 exact rfl); (focus (repeat' first | exact Ext.here _ _ | apply Ext.cons); done); intro w1 hw1; exact hap2 w1 (hdo.rd _ _ _ _ hw1 (Ext.mem (by (focus (repeat' first | exact Ext.all _ | apply Ext.cons | apply Ext.app); done)))) (hdo.off (Li := SetL bs gs) hw1 (by (focus (repeat' first | exact Ext.here _ _ | apply Ext.cons); done)) (Ext.mem (by (focus (repeat' first | exact Ext.all _ | apply Ext.cons); done)))); rintro v Lo2 ⟨gs', rfl, hl', hg', rfl⟩))); apply R.nil; refine ⟨?_, ?_⟩; (focus (repeat' first | exact trivial | exact At.head | apply At.tail | apply At.right | refine ⟨?_, ?_⟩))) <;> (apply A.tk 6; exact rfl; kernel_rfl; (apply Ok1.move; exact rfl)) <;> (apply A.tk 7; exact rfl; kernel_rfl; (apply Ok1.extract; exact rfl; exact rfl)) <;> (apply A.tk 8; exact rfl; kernel_rfl; (apply Ok1.extract; exact rfl; exact rfl)) <;> (apply A.tk 9; exact rfl; kernel_rfl; (apply Ok1.assign; exact rfl)) <;> (apply A.tk 10; exact rfl; kernel_rfl; (apply Ok1.assign; exact rfl)) <;> (apply A.done; kernel_rfl))) | apply T.seq | apply T.region | apply T.ret | (apply T.cond_t; exact rfl)))
      (apply RetOk.tt; exact rfl; exact rfl)
      exact ⟨_, by simp only [FL, FrC, slV]; (focus (repeat' first | exact Ext.one _ _ | exact Ext.here _ _ | apply Keep.cons | apply Keep.last | apply Ext.cons | apply Ext.app); done), gs', some (b, j, junk), rfl, hl', ⟨hg', h.ov, h.le, h.tk, h.si⟩, rfl⟩
  · simp only [if_neg hf, if_neg (show ¬ (7 : Int) = 0 by decide), decide_eq_false (show ¬ (7 : Int) = 0 by decide), Bool.false_and] at hfd ⊢
    have hsl := slV_eq hov
    refine enterK (tb := tb) Tryz.func9 rfl Tryz.ntmps9 rfl ?_
    simp only [FL] at *
    repeat' (first | (apply R.is1; first | (apply R.isBin; (apply R.pure; exact rfl; first | (apply Ok1.lss_t; exact rfl; exact rfl; omega) | (apply Ok1.lss_f; exact rfl; exact rfl; omega) | (apply Ok1.neq_f; exact rfl; exact rfl; omega))) | (apply R.isCall; first | apply R.callP rfl rfl rfl hck | (apply R.callE (vs := [.slice (sufP p cap 8 1) 16 (cap - 8)]); (iterate 3 exact rfl); exact Ext.none _; intro w1 hw1; exact hnr w1 hw1.chg; rintro v Lo ⟨br, s, M, rfl, hsx, hse, hso, rfl⟩; obtain ⟨p8, hp8, hrd⟩ := rd_att (by omega) hb hsx hse; rw [if_pos hV] at hrd) | (apply R.callE (Li := s.L br) (vs := [.pointer (some ⟨br, 0, none⟩)]); (iterate 3 exact rfl); (focus ((repeat' (exact Ext.one _ _)); done)); intro w1 hw1; exact hr9 br s w1 (hso.ok hw1 (by (focus ((repeat' (exact Ext.one _ _)); done))) (Ext.mem (by (focus ((repeat' (exact Ext.here _ _)); done))))); rintro v Lo ⟨hv, rfl⟩; rw [hrd] at hv; simp only at hv; subst hv) | (apply R.callE (vs := [.slice (sufP p cap 24 1) (xs.length - 24) (cap - 24)]); (iterate 3 exact rfl); exact Ext.none _; intro w1 hw1; exact hpa2 w1 hw1.chg; rintro v Lo ⟨d, hd4, rfl, hpd, hdo⟩) | (apply R.callV (vs := [.pointer (some ⟨bf, 0, none⟩), .int .i64 seed, .int .i64 tick, .slice p 8 cap]); (iterate 3 exact rfl); intro w1 hw1; exact hfd w1 (hw1.get _ _ (At.mem (by (focus (repeat' first | exact At.head | apply At.tail | apply At.right); done)))) (RdSl.own' hw1 (Ext.mem (by (focus (repeat' first | exact Ext.here _ _ | apply Ext.cons | apply Ext.app); done))) hov Ak.v_len) hw1.chg) | (apply R.pure; exact rfl; (apply Ok1.lenS; (iterate 3 exact rfl)))) | (apply R.pure; exact rfl; first | (apply Ok1.midR (i := 8) (j := 24) (sz := 1); (iterate 7 exact rfl); omega; omega) | (apply Ok1.sufR (sz := 1) (i := 24); (iterate 6 exact rfl); omega; omega) | (apply Ok1.preR (i := 8); (iterate 5 exact rfl); omega) | (apply Ok1.move; exact rfl) | (apply Ok1.assign; exact rfl) | (apply Ok1.extract; exact rfl; exact rfl)) | (apply R.alloc; (iterate 3 exact rfl); intro)) | (apply R.is0; first | (apply R.store; (iterate 4 exact rfl); exact hDl p8 hp8; exact dg_one _ _; exact Upd.head; exact setE_all (by rw [hDl p8 hp8]; rfl)) | (apply R.store; (iterate 4 exact rfl); exact dl_len8r hd4; exact dl_oner d; exact Upd.head; exact setE_all (by rw [dl_len8r hd4]; rfl))) | apply R.nil | (apply T.is; first | apply T.seq | apply T.region | apply T.skip | apply T.ret | (apply T.cond_t; exact rfl) | (apply T.cond_f; exact rfl)))
    (apply RetOk.tt; exact rfl; exact rfl)
    exact ⟨_, by (focus (repeat' first | exact Ext.one _ _ | exact Ext.here _ _ | exact Ext.all _ | apply Keep.cons | apply Keep.app | apply Keep.last | apply Ext.cons | apply Ext.app); done), gs, ov, rfl, rfl, h, rfl⟩
theorem att_read {dr vs p8 : List Int} {dd : List (Int × List Int)} (h8 : dr.length = 8) (hv : vs.length = 4) (hp : p8.length = 8) (hV : VR vs) (hl : dd.length = 4) (hD : DR dd) :
    (dr ++ (encG vs p8 ++ encD dd)).take 8 = dr ∧ 40 ≤ (dr ++ (encG vs p8 ++ encD dd)).length ∧ attV (dr ++ (encG vs p8 ++ encD dd)) = vs ∧ tprs (dr ++ (encG vs p8 ++ encD dd)) = (dd, 0) := by
  have hG := encG_len hv hp
  refine ⟨?_, ?_, ?_, ?_⟩
  · rw [← h8, List.take_left]
  · rw [List.length_append, List.length_append, hG, encD_cnt, hl, h8]; omega
  · rw [attV, ← h8, List.drop_left, ← pairN_take, ← hG, List.take_left]
    have h1 := (enc_read hv hp hV 0).1
    rw [← pairN_take, ← hG, List.take_left] at h1
    exact h1
  · rw [tprs, ← List.append_assoc, show 24 = (dr ++ encG vs p8).length by rw [List.length_append, h8, hG], List.drop_left]
    exact prs_enc ⟨rfl, rfl⟩ hl hD
def ls0 : List (List Int) := [[], [], [], []]
theorem ls0_ok : LOk ls0 := by
  intro xs hx
  have : xs = [] := by simpa [ls0] using hx
  subst this
  exact ⟨fun _ h => (nomatch h), List.nodup_nil, by decide⟩
theorem known17_ok (w : World) : CallW Tryz.prog 12 [] w fun v _ => v = .bool true := by
  have hnw := fun w1 => fnew_ok w1
  have hrn := fun w1 => rnew_ok w1
  have hask := fun bf bs gs h w1 => fask_ok bf bs gs none [] 0 false h 1 5 [7, 0, 0, 0, 0, 0, 0, 0] rfl w1
  have hby : ∀ x ∈ [(7 : Int), 0, 0, 0, 0, 0, 0, 0, 0, 0, 0, 0, 0, 0, 0, 0], 0 ≤ x ∧ x ≤ 255 := by decide
  have hatt := fun bs p cap n w1 hs hp => fattest_ok bs [lg0, lg0, lg0, lg0] GOk.new ls0_ok p 16 cap [7, 0, 0, 0, 0, 0, 0, 0, 0, 0, 0, 0, 0, 0, 0, 0] rfl n (by decide) (fun y hy => hby y (List.mem_of_mem_drop hy)) 100 (by decide) w1 hs hp
  have hE : attE [7, 0, 0, 0, 0, 0, 0, 0, 0, 0, 0, 0, 0, 0, 0, 0] 100 = 0 := by
    rw [attE, if_neg (by decide), if_neg (fun h => h (show VR [0, 0, 0, 0] by decide)), if_neg (by decide)]
  have hD : attD ls0 [7, 0, 0, 0, 0, 0, 0, 0, 0, 0, 0, 0, 0, 0, 0, 0] 100 = sinD ls0 [0, 0, 0, 0] := by decide
  have hB : attB ls0 [7, 0, 0, 0, 0, 0, 0, 0, 0, 0, 0, 0, 0, 0, 0, 0] 100 = [7, 0, 0, 0, 0, 0, 0, 0] ++ (encG [0, 0, 0, 0] (p8I ls0) ++ encD (sinD ls0 [0, 0, 0, 0])) := by
    rw [attB, if_pos hE, hD]; rfl
  have hVOk : VOk ls0 [0, 0, 0, 0] := by
    intro x hx
    have : x = ([], 0) := by simpa [ls0] using hx
    subst this; decide
  have hDR : DR (sinD ls0 [0, 0, 0, 0]) := sin_dr ls0_ok hVOk
  obtain ⟨r1, r2, r3, r4⟩ := att_read (dr := [7, 0, 0, 0, 0, 0, 0, 0]) (vs := [0, 0, 0, 0]) (p8 := p8I ls0) (dd := sinD ls0 [0, 0, 0, 0]) rfl rfl (p8I_len _) (by decide) rfl hDR
  have hBl : ([7, 0, 0, 0, 0, 0, 0, 0] ++ (encG [0, 0, 0, 0] (p8I ls0) ++ encD (sinD ls0 [0, 0, 0, 0]))).length = 40 := by
    rw [List.length_append, List.length_append, encG_len rfl (p8I_len _)]; rfl
  have hBb : Byt ([7, 0, 0, 0, 0, 0, 0, 0] ++ (encG [0, 0, 0, 0] (p8I ls0) ++ encD (sinD ls0 [0, 0, 0, 0]))) := by
    refine Byt.app (show ∀ x ∈ [(7 : Int), 0, 0, 0, 0, 0, 0, 0], 0 ≤ x ∧ x ≤ 255 by decide) (Byt.app (encG_byt (p8I_byt _)) (encD_byt _))
  generalize hBe : [7, 0, 0, 0, 0, 0, 0, 0] ++ (encG [0, 0, 0, 0] (p8I ls0) ++ encD (sinD ls0 [0, 0, 0, 0])) = B at *
  obtain ⟨a1, a2, a3⟩ := app_whole (ls := ls0) (vs := [0, 0, 0, 0]) rfl ls0_ok hVOk
  have hC : tkxC 1 9 B = 0 := by
    rw [tkxC, if_neg (by decide), if_neg (by omega), r3, if_neg (by decide), r4]
  have hTE : FM.takeE ⟨ls0, [ak 1 5 [7, 0, 0, 0, 0, 0, 0, 0]], 0, false⟩ 1 9 (B.take 8) (tprs B).1 = 0 := by
    rw [r1, r4, FM.takeE, if_pos (by decide)]; exact a1
  have hCv : Cov (lensI ls0) [0, 0, 0, 0] := by decide
  have hTY : FM.takeY ⟨ls0, [ak 1 5 [7, 0, 0, 0, 0, 0, 0, 0]], 0, false⟩ 1 9 (B.take 8) (attV B) (tprs B).1 = true := by
    rw [FM.takeY, hTE, r4, r3]
    simp only [a2]
    rw [decide_eq_true hCv]; rfl
  have hTM : FM.take ⟨ls0, [ak 1 5 [7, 0, 0, 0, 0, 0, 0, 0]], 0, false⟩ 1 9 (B.take 8) (attV B) (tprs B).1 = ⟨ls0, [], 5, true⟩ := by
    rw [FM.take, if_pos hTE, r4, r3, r1]
    simp only [a2, if_pos hCv, decide_eq_true hCv]
    rfl
  have htk : ∀ bf bs gs ov, lgs gs = ls0 → FOk gs ov [ak 1 5 [7, 0, 0, 0, 0, 0, 0, 0]] 0 → ∀ p cap, B.length ≤ cap → ∀ w1, RdSl w1 p u8V B → (B ≠ [] → Off p (blks (FL bf bs gs ov [ak 1 5 [7, 0, 0, 0, 0, 0, 0, 0]] 0 false))) → CallM Tryz.prog 9 [.pointer (some ⟨bf, 0, none⟩), .int .i64 1, .int .i64 9, .slice p B.length cap] (FL bf bs gs ov [ak 1 5 [7, 0, 0, 0, 0, 0, 0, 0]] 0 false) w1 fun v L => ∃ gs' ov', v = .tuple #[.bool true, .int .i64 0] ∧ FOk gs' ov' [] 5 ∧ L = FL bf bs gs' ov' [] 5 true := by
    intro bf bs gs ov hg h p cap hcap w1 hp hoff
    have h9 := ftake_good bf bs gs ov [ak 1 5 [7, 0, 0, 0, 0, 0, 0, 0]] 0 false h 1 9 p cap B hcap (by omega) (fun y hy => hBb y (List.mem_of_mem_drop hy)) w1 hp hoff hC
    rw [hg, hTY, hTE, hTM] at h9
    exact h9.wk fun v L ⟨gs', ov', e1, _, e3, e4⟩ => ⟨gs', ov', e1, e3, e4⟩
  have hask2 : ∀ bf bs gs, lgs gs = ls0 → FOk gs none [] 0 → ∀ w1, CallM Tryz.prog 8 [.pointer (some ⟨bf, 0, none⟩), .int .i64 1, .int .i64 5, .agg ⟨u8s [7, 0, 0, 0, 0, 0, 0, 0]⟩] (FL bf bs gs none [] 0 false) w1 fun v L => ∃ ov' ovb, v = .tuple #[slV ovb 16, .int .i64 0] ∧ OvOk 1 ovb 16 (u8s [7, 0, 0, 0, 0, 0, 0, 0, 0, 0, 0, 0, 0, 0, 0, 0]) ∧ FOk gs ov' [ak 1 5 [7, 0, 0, 0, 0, 0, 0, 0]] 0 ∧ L = FL bf bs gs ov' [ak 1 5 [7, 0, 0, 0, 0, 0, 0, 0]] 0 false ++ blkL 5 ovb (u8s [7, 0, 0, 0, 0, 0, 0, 0, 0, 0, 0, 0, 0, 0, 0, 0]) := by
    intro bf bs gs hg h w1
    have h9 := hask bf bs gs h w1
    rw [hg] at h9
    exact h9
  have hatt2 : ∀ b0 p cap, 16 ≤ cap → ∀ w1, SetR w1 b0 [lg0, lg0, lg0, lg0] → RdSl w1 p u8V [7, 0, 0, 0, 0, 0, 0, 0, 0, 0, 0, 0, 0, 0, 0, 0] → CallM Tryz.prog 11 [.pointer (some ⟨b0, 0, none⟩), .slice p 16 cap, .int .i64 100] [] w1 fun v L => ∃ oc, OvOk 1 oc B.length (u8s B) ∧ v = .tuple #[slV oc B.length, .int .i64 0] ∧ L = blkL 5 oc (u8s B) := by
    intro b0 p cap hcap w1 hs hp
    have h9 := hatt b0 p cap hcap w1 hs hp
    have e : lgs [lg0, lg0, lg0, lg0] = ls0 := rfl
    rw [e, hB, hE] at h9
    exact h9
  have his1 := fun bf bs ov w1 hb => fis_ok bf bs ov 0 5 true 30 25 (by decide) (by decide) w1 hb
  have his2 := fun bf bs ov w1 hb => fis_ok bf bs ov 0 5 true 30 24 (by decide) (by decide) w1 hb
  have b1 : (true && decide ((0 : Int) ≤ 25) && decide ((30 : Int) - 25 ≤ 5)) = true := by decide
  have b2 : (true && decide ((0 : Int) ≤ 24) && decide ((30 : Int) - 24 ≤ 5)) = false := by decide
  rw [b1] at his1
  rw [b2] at his2
  refine enterW (tb := tb) Tryz.func12 rfl Tryz.ntmps12 rfl ?_
  repeat' (first | (apply R.is1; first | (apply R.isBin; (apply R.pure; exact rfl; (apply Ok1.eql_t; exact rfl; exact rfl; omega))) | (apply R.isCall; first | (apply R.callE (vs := [.pointer none]); (iterate 3 exact rfl); exact Ext.none _; intro w1 hw1; exact hnw w1; rintro v Lo ⟨bf, bs, gs, rfl, hg, hfo, rfl⟩; have hk1 := hask2 bf bs gs hg hfo; generalize FL bf bs gs none [] 0 false = F0 at *) | (apply R.callE (vs := []); (iterate 3 exact rfl); exact Ext.none _; intro w1 hw1; exact hrn w1; rintro v Lo ⟨b0, rfl, rfl⟩; have hk2 := @SetR.of b0 [lg0, lg0, lg0, lg0] GOk.new; have hk3 := hatt2 b0; generalize hS0 : SetL b0 [lg0, lg0, lg0, lg0] = S0 at *) | (apply R.callE (Li := F0) (vs := [.pointer (some ⟨bf, 0, none⟩), .int .i64 1, .int .i64 5, .agg ⟨u8s [7, 0, 0, 0, 0, 0, 0, 0]⟩]); (iterate 3 exact rfl); (focus (repeat' first | exact Ext.here _ _ | apply Ext.app); done); intro w1 hw1; exact hk1 w1; rintro v Lo ⟨ov1, ob, rfl, hob, hfo1, rfl⟩; rw [slV_eq hob, List.append_assoc]; have hk4 := htk bf bs gs ov1 hg hfo1; generalize FL bf bs gs ov1 [ak 1 5 [7, 0, 0, 0, 0, 0, 0, 0]] 0 false = F1 at *) | (apply R.callE (vs := [.pointer (some ⟨b0, 0, none⟩), .slice (ovp ob) 16 (ovc ob 16), .int .i64 100]); (iterate 3 exact rfl); exact Ext.none _; intro w1 hw1; exact hk3 (ovp ob) (ovc ob 16) (ovc_le hob) w1 (hk2 hw1 (Ext.mem (by (focus (repeat' first | exact Ext.here _ _ | apply Ext.app); done)))) (rdown (xs := [7, 0, 0, 0, 0, 0, 0, 0, 0, 0, 0, 0, 0, 0, 0, 0]) hob hw1 (Ext.mem (by (focus (repeat' first | exact Ext.here _ _ | apply Ext.app); done)))); rintro v Lo ⟨oc, hoc, rfl, rfl⟩; rw [slV_eq hoc]) | (apply R.callE (Li := F1) (vs := [.pointer (some ⟨bf, 0, none⟩), .int .i64 1, .int .i64 9, .slice (ovp oc) B.length (ovc oc B.length)]); (iterate 3 exact rfl); (focus (repeat' first | exact Ext.here _ _ | apply Ext.app); done); intro w1 hw1; exact hk4 (ovp oc) (ovc oc B.length) (ovc_le hoc) w1 (rdown hoc hw1 (Ext.mem (by (focus ((repeat' (exact Ext.here _ _)); done))))) (fun _ => ovoff hw1 (by (focus (repeat' first | exact Ext.here _ _ | apply Ext.app); done)) (Ext.mem (by (focus ((repeat' (exact Ext.here _ _)); done))))); rintro v Lo ⟨gs2, ov2, rfl, hfo2, rfl⟩; have hk5 : (bf, .cells ⟨FrC bs ov2 0 5 true⟩ 166 (0, 0)) ∈ FL bf bs gs2 ov2 [] 5 true := List.mem_cons_self; generalize FL bf bs gs2 ov2 [] 5 true = F2 at *) | (apply R.callV (vs := [.pointer (some ⟨bf, 0, none⟩), .int .i64 30, .int .i64 25]); (iterate 3 exact rfl); intro w1 hw1; exact his1 _ _ _ w1 (hw1.get _ _ (Ext.mem (s := F2) (by (focus ((repeat' (exact Ext.here _ _)); done))) _ hk5))) | (apply R.callV (vs := [.pointer (some ⟨bf, 0, none⟩), .int .i64 30, .int .i64 24]); (iterate 3 exact rfl); intro w1 hw1; exact his2 _ _ _ w1 (hw1.get _ _ (Ext.mem (s := F2) (by (focus ((repeat' (exact Ext.here _ _)); done))) _ hk5)))) | (apply R.pure; exact rfl; first | (apply Ok1.move; exact rfl) | (apply Ok1.assign; exact rfl) | (apply Ok1.extract; exact rfl; exact rfl) | (apply Ok1.pick_t; exact rfl; exact rfl) | (apply Ok1.not_f; exact rfl) | (apply Ok1.buildA; (iterate 6 exact rfl)))) | (apply R.isG; (apply R.guard_run; exact rfl; exact rfl)) | apply R.nil | (apply T.is; first | apply T.seq | apply T.region | apply T.ret))
  (apply RetOk.t; exact rfl)
  rfl
/-- Bytes in a block of one's own. -/
structure Bg where
  ov : Ov
  xs : List Int
def Bg.v (g : Bg) : List Value := [slV g.ov g.xs.length]
theorem Bg.v_len (g : Bg) : g.v.length = 1 := rfl
def Bg.L (g : Bg) : Lst := blkL 5 g.ov (u8s g.xs)
def Bg.ok (g : Bg) : Prop := OvOk 1 g.ov g.xs.length (u8s g.xs)
def BsL (gs : List Bg) : Lst := gs.flatMap Bg.L
def Lg.w (g : Lg) : List Value := [g.v]
theorem Lg.w_len (g : Lg) : g.w.length = 1 := rfl
theorem BsL_snoc (gs : List Bg) (g : Bg) : BsL (gs ++ [g]) = BsL gs ++ g.L := by simp [BsL]
theorem LsL_snoc (gs : List Lg) (g : Lg) : LsL (gs ++ [g]) = LsL gs ++ g.L := by simp [LsL]
theorem mem_BsL {gs : List Bg} {g : Bg} (h : g ∈ gs) {x : Nat × Obj} (hx : x ∈ g.L) : x ∈ BsL gs := List.mem_flatMap.2 ⟨g, h, hx⟩
/-- Bytes that ask. -/
def AskB (xs : List Int) : Prop := xs.length = 16 ∧ Byt (xs.drop 8) ∧ VR (attV xs)
theorem askB_of {dr : List Int} {vs : List Int} (h8 : dr.length = 8) (hv : vs.length = 4) (hV : VR vs) : AskB (dr ++ numsI 1 vs) := by
  refine ⟨by rw [List.length_append, nums1_len, h8, hv], ?_, ?_⟩
  · rw [← h8, List.drop_left]; exact nums_byt _ _
  · have hp : (List.replicate 8 (0 : Int)).length = 8 := rfl
    have h1 := (enc_read hv hp hV 0).1
    have h2 : (encG vs (List.replicate 8 0) ++ [0]) = numsI 1 vs ++ (List.replicate 8 0 ++ [0]) := by rw [encG, List.append_assoc]
    have hpn : ∀ (A B : List Int), A.length = 8 → (List.range 4).map (pairN (A ++ B)) = (List.range 4).map (pairN A) := by
      intro A B hA
      refine List.map_congr_left fun j hj => ?_
      have := List.mem_range.1 hj
      unfold pairN
      rw [List.getD_eq_getElem?_getD, List.getD_eq_getElem?_getD, List.getD_eq_getElem?_getD, List.getD_eq_getElem?_getD, List.getElem?_append_left (by omega), List.getElem?_append_left (by omega)]
    rw [attV, ← h8, List.drop_left]
    rw [h2, hpn _ _ (by rw [nums1_len, hv])] at h1
    rw [h1]
    exact hV
structure HS where
  tick : Int
  gs : List Lg
  fg : List Lg
  ov : Ov
  al : List Ak
  since : Int
  is : Bool
  oa : Ov
  bk : List Bg
  oh : Ov
  had : List Lg
  ow : Ov
  wh : List Int
def HS.m (z : HS) : FM := ⟨lgs z.fg, z.al, z.since, z.is⟩
def HS.L (z : HS) (bs bf bg : Nat) : Lst := FL bf bg z.fg z.ov z.al z.since z.is ++ (SetL bs z.gs ++ (blkL 22 z.oa (fl Bg.v z.bk) ++ (BsL z.bk ++ (blkL 39 z.oh (fl Lg.w z.had) ++ (LsL z.had ++ blkL 3 z.ow (iis z.wh))))))
structure HS.ok (z : HS) (i : Nat) : Prop where
  t0 : 0 ≤ z.tick
  t1 : z.tick ≤ 9 * i
  g : GOk z.gs
  lo : LOk (lgs z.gs)
  f : FOk z.fg z.ov z.al z.since
  oa : OvOk 1 z.oa z.bk.length (fl Bg.v z.bk)
  bk : ∀ g ∈ z.bk, g.ok ∧ AskB g.xs
  bl : z.bk.length ≤ i
  oh : OvOk 1 z.oh z.had.length (fl Lg.w z.had)
  hd : ∀ g ∈ z.had, g.ok ∧ g.xs.length ≤ 1024
  hl : z.had.length = i
  ow : OvOk 1 z.ow z.wh.length (iis z.wh)
  inv : HInv z.tick (lgs z.gs) z.m (z.had.map Lg.xs) z.wh
theorem HS.ok.wl {z : HS} {i : Nat} (h : z.ok i) : z.wh.length = i := by
  have := h.inv.len
  rw [List.length_map, h.hl] at this
  exact this.symm
def hS (p : Option Addr) (n cap bs bf : Nat) (i : Nat) (z : HS) : Env := [(0, .slice p n cap), (3, .pointer (some ⟨bs, 0, none⟩)), (4, .pointer (some ⟨bf, 0, none⟩)), (5, slV z.oa z.bk.length), (6, slV z.oh z.had.length), (7, slV z.ow z.wh.length), (8, .int .i64 z.tick), (9, .int .i64 i)]
theorem blkL_sF (e b j : Nat) (junk xs : List Value) : blkL e (some (b, j, junk)) xs = [(b, .cells ⟨xs ++ junk⟩ e (0, 0))] := rfl
theorem slV_sF (b j n : Nat) (junk : List Value) : slV (some (b, j, junk)) n = .slice (some ⟨b, 0, none⟩) n (n + j) := rfl
theorem ask_eq (m : FM) (a t : Int) (d : List Int) : m.ask a t d = ⟨m.ls, (m.ask a t d).al, m.since, m.is⟩ := by
  unfold FM.ask
  split
  · rfl
  · split <;> rfl
theorem att_body {ls : List (List Int)} {xs : List Int} {room : Int} (h4 : ls.length = 4) (hlo : LOk ls) (hv : VR (lensI ls)) (ha : AskB xs) (hr : 40 ≤ room ∧ room ≤ 360) :
    attE xs room = 0 ∧ ∃ B, attB ls xs room = B ∧ B.take 8 = xs.take 8 ∧ attV B = lensI ls ∧ tprs B = (attD ls xs room, 0) ∧ Byt (B.drop 8) ∧ 40 ≤ B.length ∧ B.length ≤ 1000 ∧ (attD ls xs room).length = 4 ∧ (∀ (i : Nat) (d : Int × List Int) (s : List Int), (attD ls xs room)[i]? = some d → ls[i]? = some s → ∃ n, d.2 = (s.drop d.1.toNat).take n) := by
  obtain ⟨h16, hb8, hV⟩ := ha
  have hE : attE xs room = 0 := by rw [attE, if_neg (fun h => h h16), if_neg (fun h => h hV), if_neg (by omega)]
  have hl4 : (lensI ls).length = 4 := by rw [lensI, List.length_map, h4]
  have hD4 : (attD ls xs room).length = 4 := by rw [attD, cutD_len]; simp [sinD, minV, h4, attV_len]
  have hDR : DR (attD ls xs room) := cut_dr9 hlo hV _
  have hcn : cntL (attD ls xs room) ≤ 160 := by
    have := cutD_cnt (sinD ls (minV ls (attV xs))) ((room - 40) / 2).toNat
    rw [attD]; omega
  have h8 : (xs.take 8).length = 8 := by rw [List.length_take]; omega
  have hB : attB ls xs room = xs.take 8 ++ (encG (lensI ls) (p8I ls) ++ encD (attD ls xs room)) := by rw [attB, if_pos hE]
  obtain ⟨r1, r2, r3, r4⟩ := att_read h8 hl4 (p8I_len ls) hv hD4 hDR
  refine ⟨hE, _, hB, r1, r3, r4, ?_, r2, ?_, hD4, fun i d s h1 h2 => cut_sin _ h1 h2⟩
  · have h9 := List.drop_left (l₁ := xs.take 8) (l₂ := encG (lensI ls) (p8I ls) ++ encD (attD ls xs room))
    rw [h8] at h9
    rw [h9]
    exact Byt.app (encG_byt (p8I_byt _)) (encD_byt _)
  · rw [List.length_append, List.length_append, encG_len hl4 (p8I_len ls), encD_cnt, h8, hD4]; omega
section
variable {X : Cx} {σ : Env} {L : Lst} {ty t ty2 : TypeId} {pos : String} {af : Array Edge} {x y : Operand} {d : Option Nat} {g : Option (Nat × Bool)} {k : IntKind} {i j : Int}
theorem Ok1.remF {c : Nat} (hx : ev σ x = some (.int k i)) (hy : ev σ y = some (.int k j)) (h0 : 0 ≤ i) (h1 : 0 < j) (hc : i % j = c) : Ok1 X ⟨d, .binOp .rem t x y ty2, ty, pos, af, g⟩ σ L (.int k c) := by
  rw [← hc]; exact Ok1.remN hx hy h0 h1
end
theorem mem_lcat {gs : List Lg} {x : Int} : (x ∈ lcat gs) ↔ ∃ l ∈ lgs gs, x ∈ l := by
  constructor
  · intro h
    obtain ⟨g, hg, hx⟩ := List.mem_flatMap.1 h
    exact ⟨g.xs, List.mem_map.2 ⟨g, hg, rfl⟩, hx⟩
  · rintro ⟨l, hl, hx⟩
    obtain ⟨g, hg, rfl⟩ := List.mem_map.1 hl
    exact List.mem_flatMap.2 ⟨g, hg, hx⟩
theorem freshHolds_ok (p : Option Addr) (cap : Nat) (rs : List FAct) (w : World) (hp : RdSl w p FAct.v rs) (hok : ∀ x ∈ rs, x.okR w) :
    CallW Tryz.prog 5 [.slice p rs.length cap] w fun v _ => v = .bool true := by
  have hnw := fun w1 => fnew_ok w1
  have hrn := fun w1 => rnew_ok w1
  have hkn := fun w1 => known17_ok w1
  refine enterW (tb := tb) Tryz.func5 rfl Tryz.ntmps5 rfl ?_
  repeat' (first | (apply R.is1; first | (apply R.isBin; (apply R.pure; exact rfl; (apply Ok1.eqlP; (iterate 5 exact rfl)))) | (apply R.isCall; first | (apply R.callE (vs := []); (iterate 3 exact rfl); exact Ext.none _; intro w1 hw1; exact hrn w1; rintro v Lo ⟨bs, rfl, rfl⟩) | (apply R.callE (vs := [.pointer none]); (iterate 3 exact rfl); exact Ext.none _; intro w1 hw1; exact hnw w1; rintro v Lo ⟨bf, bg, fg, rfl, hg, hfo, rfl⟩)) | (apply R.pure; exact rfl; first | (apply Ok1.move; exact rfl) | (apply Ok1.assign; exact rfl) | (apply Ok1.pick_f; exact rfl; exact rfl))) | (apply R.isG; (apply R.guard_run; exact rfl; exact rfl)) | apply R.nil | (apply T.is; first | apply T.seq | apply T.region | apply T.block | apply T.skip | (apply T.cond_f; exact rfl)))
  apply T.loopK (α := Nat × HS) (I := fun y => y.1 ≤ rs.length ∧ y.1 ≤ 40 ∧ y.2.ok y.1) (σi := fun y => hS p rs.length cap bs bf y.1 y.2) (Li := fun y => y.2.L bs bf bg) (μ := fun y => rs.length - y.1) (i0 := (0, ⟨0, [lg0, lg0, lg0, lg0], fg, none, [], 0, false, none, [], none, [], none, []⟩))
  · refine ⟨Nat.zero_le _, Nat.zero_le _, ⟨Int.le_refl _, (show (0 : Int) ≤ 9 * ((0 : Nat) : Int) by decide), GOk.new, ls0_ok, hfo, ⟨rfl, rfl⟩, by simp, Nat.le_refl _, ⟨rfl, rfl⟩, by simp, rfl, ⟨rfl, rfl⟩, ⟨?_, by simp [HS.m], by simp [HS.m], rfl, by simp, by simp [HS.m]⟩⟩⟩
    rw [HS.m, hg]
    exact Pre.refl _
  · exact ⟨rfl, rfl, rfl, rfl, rfl, rfl, rfl, rfl, trivial⟩
  · simp only [HS.L, blkL, BsL, LsL, List.flatMap_nil, List.append_nil]
    (focus (repeat' first | exact Keep.nil _ | exact Ext.one _ _ | exact Ext.here _ _ | apply Keep.cons | apply Keep.app); done)
  · rintro ⟨i, z⟩ ⟨hi, hi40, hz⟩
    simp only at hi hi40 hz ⊢
    by_cases hgo : i < rs.length ∧ i < 40
    · obtain ⟨hlt, hlt40⟩ := hgo
      obtain ⟨x, hx⟩ : ∃ x, rs[i]? = some x := ⟨_, List.getElem?_eq_getElem (by omega)⟩
      obtain ⟨bb, o, hpe, H⟩ := hp.at hx
      replace H := H 13 FAct.v_len
      obtain ⟨hu0, hu1⟩ := u64_rangeM x.tick
      have hall := fun w1 hs => rall_ok bs z.gs hz.g w1 hs
      have hgg := hz.g
      have hoh := hz.oh
      have how := hz.ow
      have hhl := hz.hl
      have hwl := hz.wl
      have hbl := hz.bl
      have ht0 := hz.t0
      have ht1 := hz.t1
      simp only [hS, HS.L]
      have hsr := @SetR.of bs z.gs hgg
      generalize hF0 : FL bf bg z.fg z.ov z.al z.since z.is = F0 at *
      generalize hS0 : SetL bs z.gs = S0 at *
      generalize hB0 : BsL z.bk = B0 at *
      generalize hH0 : LsL z.had = H0 at *
      repeat' (first | (apply R.is1; first | (apply R.isBin; (apply R.pure; exact rfl; first | (apply Ok1.add64; exact rfl; exact rfl; omega; omega) | (apply Ok1.lss_t; exact rfl; exact rfl; omega) | (apply Ok1.remN; exact rfl; exact rfl; omega; omega))) | (apply R.isCall; first | (apply R.callE (vs := [.pointer (some ⟨bs, 0, none⟩)]); (iterate 3 exact rfl); exact Ext.none _; intro w1 hw1; exact hall w1 (hsr hw1 (Ext.mem (by (focus (repeat' first | exact Ext.here _ _ | apply Ext.app); done)))); rintro v Lo ⟨ovx, hovx, rfl, rfl⟩; rw [slV_eq hovx]) | (apply R.append1; (iterate 12 exact rfl); (focus (repeat' first | exact OwnAt.mid hoh | apply OwnAt.tail | apply OwnAt.right); done); exact At.head; exact rfl; exact rfl; omega; omega; intro bh jh kh hjh) | (apply R.append1; (iterate 12 exact rfl); (focus (repeat' first | exact OwnAt.base how | apply OwnAt.tail | apply OwnAt.right); done); exact At.head; exact rfl; exact rfl; omega; omega; intro bw jw kw hjw) | (apply R.pure; exact rfl; (apply Ok1.lenS; (iterate 3 exact rfl)))) | (apply R.pure; exact rfl; first | (apply Ok1.indexAddrP; (iterate 4 exact rfl); exact hpe; exact rfl; omega; omega) | (apply Ok1.load; exact rfl; (apply Ld.row1 (f := 2) H; exact rfl; exact List.not_mem_nil; (iterate 3 exact rfl))) | (apply Ok1.move; exact rfl) | (apply Ok1.fieldAddr; (iterate 5 exact rfl)) | (apply Ok1.assign; exact rfl) | (apply Ok1.pick_t; exact rfl; exact rfl) | (apply Ok1.convI64; (iterate 5 exact rfl); omega; omega) | (apply Ok1.conv; (iterate 5 exact rfl))) | (apply R.buildSlice; (iterate 12 exact rfl); intro)) | (apply R.isG; (apply R.guard_run; exact rfl; exact rfl)) | apply R.nil | (apply T.is; first | (apply T.stop 13) | apply T.seq | apply T.region | apply T.block | apply T.skip | (apply T.cond_t; exact rfl)))
      all_goals refine ⟨?_⟩
      have hov1 := hoh.some (b := bh) (ys := [.slice (ovp ovx) (uniq (lcat z.gs)).length (ovc ovx (uniq (lcat z.gs)).length)]) (m := 1) rfl hjh
      have how1 := how.some (b := bw) (ys := [.int .i64 (z.tick + IntKind.u64.wrap x.tick % 9)]) (m := 1) rfl hjw
      have hfl : fl Lg.w (z.had ++ [⟨ovx, uniq (lcat z.gs)⟩]) = fl Lg.w z.had ++ [.slice (ovp ovx) (uniq (lcat z.gs)).length (ovc ovx (uniq (lcat z.gs)).length)] := by
        rw [fl_app, ← slV_eq hovx]; rfl
      have hfw : iis (z.wh ++ [z.tick + IntKind.u64.wrap x.tick % 9]) = iis z.wh ++ [.int .i64 (z.tick + IntKind.u64.wrap x.tick % 9)] := by rw [iis_app]; rfl
      have hl1 : (z.had ++ [(⟨ovx, uniq (lcat z.gs)⟩ : Lg)]).length = z.had.length + 1 := by simp
      have hl2 : (z.wh ++ [z.tick + IntKind.u64.wrap x.tick % 9]).length = z.wh.length + 1 := by simp
      have hcl := hgg.cat 4
      rw [List.take_of_length_le (by rw [hgg.len]; omega)] at hcl
      have hul := uniq_le (lcat z.gs)
      have hz1 : HS.ok ⟨z.tick + IntKind.u64.wrap x.tick % 9, z.gs, z.fg, z.ov, z.al, z.since, z.is, z.oa, z.bk, some (bh, jh, kh), z.had ++ [⟨ovx, uniq (lcat z.gs)⟩], some (bw, jw, kw), z.wh ++ [z.tick + IntKind.u64.wrap x.tick % 9]⟩ (i + 1) := by
        refine ⟨by simp only; omega, by simp only; omega, hgg, hz.lo, hz.f, hz.oa, hz.bk, by simp only; omega, ?_, ?_, by simp only; omega, ?_, ?_⟩
        · simp only
          rw [hl1, hfl]; exact hov1
        · intro g hg
          rcases List.mem_append.1 hg with h1 | h1
          · exact hz.hd g h1
          · rw [List.mem_singleton.1 h1]; exact ⟨hovx, by simp only; omega⟩
        · simp only
          rw [hl2, hfw]; exact how1
        · simp only [List.map_append, List.map_cons, List.map_nil]
          refine hz.inv.next (by omega) fun y hy => mem_lcat.1 ((uniq_mem _ _).1 hy)
      refine T.weakK (σ' := hS p rs.length cap bs bf i ⟨z.tick + IntKind.u64.wrap x.tick % 9, z.gs, z.fg, z.ov, z.al, z.since, z.is, z.oa, z.bk, some (bh, jh, kh), z.had ++ [⟨ovx, uniq (lcat z.gs)⟩], some (bw, jw, kw), z.wh ++ [z.tick + IntKind.u64.wrap x.tick % 9]⟩) (L' := HS.L ⟨z.tick + IntKind.u64.wrap x.tick % 9, z.gs, z.fg, z.ov, z.al, z.since, z.is, z.oa, z.bk, some (bh, jh, kh), z.had ++ [⟨ovx, uniq (lcat z.gs)⟩], some (bw, jw, kw), z.wh ++ [z.tick + IntKind.u64.wrap x.tick % 9]⟩ bs bf bg) ?_ ?_ ?_
      rotate_left 1
      · simp only [HS.L, hfl, hfw, LsL_snoc, Lg.L, List.append_assoc, blkL_sF, hF0, hS0, hB0, hH0]
        (focus (repeat' first | exact Keep.nil _ | exact Ext.one _ _ | exact Ext.here _ _ | exact Ext.all _ | apply Keep.cons | apply Keep.app | apply Ext.cons | apply Ext.app); done)
      · simp only [hS, hl1, hl2]
        exact ⟨rfl, rfl, rfl, rfl, rfl, rfl, rfl, rfl, trivial⟩
      have hbl9 : (HS.bk ⟨z.tick + IntKind.u64.wrap x.tick % 9, z.gs, z.fg, z.ov, z.al, z.since, z.is, z.oa, z.bk, some (bh, jh, kh), z.had ++ [⟨ovx, uniq (lcat z.gs)⟩], some (bw, jw, kw), z.wh ++ [z.tick + IntKind.u64.wrap x.tick % 9]⟩).length ≤ i := hbl
      generalize (⟨z.tick + IntKind.u64.wrap x.tick % 9, z.gs, z.fg, z.ov, z.al, z.since, z.is, z.oa, z.bk, some (bh, jh, kh), z.had ++ [⟨ovx, uniq (lcat z.gs)⟩], some (bw, jw, kw), z.wh ++ [z.tick + IntKind.u64.wrap x.tick % 9]⟩ : HS) = z1 at *
      clear hsr hF0 hS0 hB0 hH0
      clear hz hov1 how1 hfl hfw hl1 hl2 hcl hul hall hoh how hhl hwl hbl ht0 ht1 hovx hgg
      clear z
      refine T.meetK (α := HS) (I := fun z2 => z2.ok (i + 1)) (σi := fun z2 => hS p rs.length cap bs bf i z2) (Li := fun z2 => z2.L bs bf bg) ?_ ?_
      · obtain ⟨tk1, gs1, fg1, ov1, al1, si1, is1, oa1, bk1, oh1, had1, ow1, wh1⟩ := z1
        obtain ⟨hk0, hk1⟩ := u64_rangeM x.kind
        have hoa := hz1.oa
        have hfo := hz1.f
        have hgg := hz1.g
        have hlo := hz1.lo
        have hbk := hz1.bk
        have ht0 := hz1.t0
        have ht1 := hz1.t1
        have hinv := hz1.inv
        simp only [HS.m] at hoa hfo hgg hlo hbk ht0 ht1 hinv hbl9
        have hkd : IntKind.u64.wrap x.kind % 3 = 0 ∨ IntKind.u64.wrap x.kind % 3 = 1 ∨ IntKind.u64.wrap x.kind % 3 = 2 := by omega
        simp only [hS, HS.L]
        rcases hkd with hk | hk | hk
        · have hask := fun w1 => fask_ok bf bg fg1 ov1 al1 si1 is1 hfo 1 tk1 x.dr rfl w1
          have hiA := hinv.ask 1 x.dr
          rw [ask_eq] at hiA
          have hBE : FM.askE ⟨lgs fg1, al1, si1, is1⟩ 1 tk1 x.dr = 0 → AskB (FM.askB ⟨lgs fg1, al1, si1, is1⟩ 1 tk1 x.dr) := fun h => by
            rw [FM.askB, if_pos h]; exact askB_of rfl hfo.g.l4 hfo.g.vr
          simp only at hiA
          generalize FM.askE ⟨lgs fg1, al1, si1, is1⟩ 1 tk1 x.dr = E at *
          generalize FM.askB ⟨lgs fg1, al1, si1, is1⟩ 1 tk1 x.dr = B at *
          generalize (FM.ask ⟨lgs fg1, al1, si1, is1⟩ 1 tk1 x.dr).al = al2 at *
          generalize hF0 : FL bf bg fg1 ov1 al1 si1 is1 = F0 at *
          generalize hS0 : SetL bs gs1 = S0 at *
          generalize hB0 : BsL bk1 = B0 at *
          generalize hH0 : LsL had1 = H0 at *
          by_cases hE : E = 0
          · subst hE
            repeat' (first | (apply R.is1; first | (apply R.isBin; (apply R.pure; exact rfl; first | (apply Ok1.eql_t; exact rfl; exact rfl; omega) | (apply Ok1.remN; exact rfl; exact rfl; omega; omega))) | (apply R.isCall; first | (apply R.callE (Li := F0) (vs := [.pointer (some ⟨bf, 0, none⟩), .int .i64 1, .int .i64 tk1, .agg ⟨u8s x.dr⟩]); (iterate 3 exact rfl); (focus ((repeat' (exact Ext.here _ _)); done)); intro w1 hw1; exact hask w1; rintro v Lo ⟨ov2, ovb, rfl, hovb, hfo2, rfl⟩; generalize hF2 : FL bf bg fg1 ov2 al2 si1 is1 = F2; rw [slV_eq hovb, List.append_assoc]) | (apply R.append1; (iterate 12 exact rfl); (focus (repeat' first | exact OwnAt.mid hoa | apply OwnAt.tail | apply OwnAt.right); done); exact At.head; exact rfl; exact rfl; omega; omega; intro ba ja ka hja)) | (apply R.pure; exact rfl; first | (apply Ok1.indexAddrP; (iterate 4 exact rfl); exact hpe; exact rfl; omega; omega) | (apply Ok1.load; exact rfl; first | (apply Ld.row1 (f := 0) H; exact rfl; exact List.not_mem_nil; (iterate 3 exact rfl)) | (apply Ld.rowk (f := 4) H; exact rfl; exact List.not_mem_nil; (iterate 3 exact rfl))) | (apply Ok1.move; exact rfl) | (apply Ok1.fieldAddr; (iterate 5 exact rfl)) | (apply Ok1.assign; exact rfl) | (apply Ok1.extract; exact rfl; exact rfl) | (apply Ok1.conv; (iterate 5 exact rfl))) | (apply R.buildSlice; (iterate 12 exact rfl); intro)) | apply R.nil | (apply T.is; first | apply T.seq | apply T.region | apply T.block | (apply T.cond_t; exact rfl)))
            all_goals skip
            have hoa2 := hoa.some (b := ba) (ys := [.slice (ovp ovb) B.length (ovc ovb B.length)]) (m := 1) rfl hja
            have hfl : fl Bg.v (bk1 ++ [⟨ovb, B⟩]) = fl Bg.v bk1 ++ [.slice (ovp ovb) B.length (ovc ovb B.length)] := by
              rw [fl_app, ← slV_eq hovb]; rfl
            have hl1 : (bk1 ++ [(⟨ovb, B⟩ : Bg)]).length = bk1.length + 1 := by simp
            refine ⟨⟨tk1, gs1, fg1, ov2, al2, si1, is1, some (ba, ja, ka), bk1 ++ [⟨ovb, B⟩], oh1, had1, ow1, wh1⟩, ⟨ht0, ht1, hgg, hlo, hfo2, ?_, ?_, ?_, hz1.oh, hz1.hd, hz1.hl, hz1.ow, hiA⟩, ?_, ?_⟩
            · simp only
              rw [hl1, hfl]; exact hoa2
            · intro g hg
              rcases List.mem_append.1 hg with h1 | h1
              · exact hbk g h1
              · rw [List.mem_singleton.1 h1]; exact ⟨hovb, hBE rfl⟩
            · simp only
              omega
            · simp only [hl1]
              exact ⟨rfl, rfl, rfl, rfl, rfl, rfl, rfl, rfl, trivial⟩
            · simp only [hfl, BsL_snoc, Bg.L, List.append_assoc, List.cons_append, List.nil_append, blkL_sF, hF2, hS0, hB0, hH0]
              generalize blkL 5 ovb (u8s B) = X5
              generalize blkL 39 oh1 (fl Lg.w had1) = X3
              generalize blkL 3 ow1 (iis wh1) = X4
              (focus (repeat' first | exact Ext.one _ _ | exact Ext.here _ _ | exact Ext.all _ | apply Keep.cons | apply Keep.app | apply Keep.last | apply Ext.cons | apply Ext.app); done)
          · repeat' (first | (apply R.is1; first | (apply R.isBin; (apply R.pure; exact rfl; first | (apply Ok1.eql_t; exact rfl; exact rfl; omega) | (apply Ok1.eql_f; exact rfl; exact rfl; omega) | (apply Ok1.remN; exact rfl; exact rfl; omega; omega))) | (apply R.isCall; (apply R.callE (Li := F0) (vs := [.pointer (some ⟨bf, 0, none⟩), .int .i64 1, .int .i64 tk1, .agg ⟨u8s x.dr⟩]); (iterate 3 exact rfl); (focus ((repeat' (exact Ext.here _ _)); done)); intro w1 hw1; exact hask w1; rintro v Lo ⟨ov2, ovb, rfl, hovb, hfo2, rfl⟩; generalize hF2 : FL bf bg fg1 ov2 al2 si1 is1 = F2; rw [slV_eq hovb, List.append_assoc])) | (apply R.pure; exact rfl; first | (apply Ok1.indexAddrP; (iterate 4 exact rfl); exact hpe; exact rfl; omega; omega) | (apply Ok1.load; exact rfl; first | (apply Ld.row1 (f := 0) H; exact rfl; exact List.not_mem_nil; (iterate 3 exact rfl)) | (apply Ld.rowk (f := 4) H; exact rfl; exact List.not_mem_nil; (iterate 3 exact rfl))) | (apply Ok1.move; exact rfl) | (apply Ok1.fieldAddr; (iterate 5 exact rfl)) | (apply Ok1.assign; exact rfl) | (apply Ok1.extract; exact rfl; exact rfl) | (apply Ok1.conv; (iterate 5 exact rfl)))) | apply R.nil | (apply T.is; first | apply T.seq | apply T.region | apply T.block | apply T.skip | (apply T.cond_t; exact rfl) | (apply T.cond_f; exact rfl)))
            all_goals skip
            refine ⟨⟨tk1, gs1, fg1, ov2, al2, si1, is1, oa1, bk1, oh1, had1, ow1, wh1⟩, ⟨ht0, ht1, hgg, hlo, hfo2, hoa, hbk, hz1.bl, hz1.oh, hz1.hd, hz1.hl, hz1.ow, hiA⟩, ⟨rfl, rfl, rfl, rfl, rfl, rfl, rfl, rfl, trivial⟩, ?_⟩
            simp only [hF2, hS0, hB0, hH0]
            (focus (repeat' first | exact Ext.here _ _ | exact Ext.all _ | apply Keep.app | apply Keep.last | apply Ext.app); done)
        · obtain ⟨hq0, hq1⟩ := u64_rangeM x.seed
          obtain ⟨hr0, hr1⟩ := u64_rangeM x.room
          by_cases hb0 : bk1.length = 0
          · generalize hF0 : FL bf bg fg1 ov1 al1 si1 is1 = F0 at *
            generalize hS0 : SetL bs gs1 = S0 at *
            generalize hB0 : BsL bk1 = B0 at *
            generalize hH0 : LsL had1 = H0 at *
            repeat' (first | (apply R.is1; first | (apply R.isBin; (apply R.pure; exact rfl; first | (apply Ok1.gtr_f; exact rfl; exact rfl; omega) | (apply Ok1.eql_t; exact rfl; exact rfl; omega) | (apply Ok1.eql_f; exact rfl; exact rfl; omega) | (apply Ok1.remN; exact rfl; exact rfl; omega; omega))) | (apply R.pure; exact rfl; first | (apply Ok1.indexAddrP; (iterate 4 exact rfl); exact hpe; exact rfl; omega; omega) | (apply Ok1.load; exact rfl; (apply Ld.row1 (f := 0) H; exact rfl; exact List.not_mem_nil; (iterate 3 exact rfl))) | (apply Ok1.lenOv; (iterate 3 exact rfl); exact hoa) | (apply Ok1.move; exact rfl) | (apply Ok1.fieldAddr; (iterate 5 exact rfl)) | (apply Ok1.assign; exact rfl) | (apply Ok1.conv; (iterate 5 exact rfl)))) | apply R.nil | (apply T.is; first | apply T.seq | apply T.region | apply T.block | apply T.skip | (apply T.cond_t; exact rfl) | (apply T.cond_f; exact rfl)))
            all_goals skip
            all_goals refine ⟨⟨tk1, gs1, fg1, ov1, al1, si1, is1, oa1, bk1, oh1, had1, ow1, wh1⟩, hz1, ⟨rfl, rfl, rfl, rfl, rfl, rfl, rfl, rfl, trivial⟩, ?_⟩
            all_goals simp only [hF0, hS0, hB0, hH0]
            all_goals (focus (repeat' first | exact Ext.here _ _ | exact Ext.all _ | apply Keep.app | apply Keep.last); done)
          · obtain ⟨ba, ja, ka, rfl⟩ : ∃ b j k, oa1 = some (b, j, k) := by
              cases oa1 with
              | none => exact absurd hoa.2 hb0
              | some q => exact ⟨_, _, _, rfl⟩
            obtain ⟨jn, hjn⟩ : ∃ jn : Nat, IntKind.u64.wrap x.seed % (bk1.length : Int) = (jn : Int) := ⟨(IntKind.u64.wrap x.seed % (bk1.length : Int)).toNat, by rw [Int.toNat_of_nonneg (Int.emod_nonneg _ (by omega))]⟩
            have hjl : jn < bk1.length := by
              have := Int.emod_lt_of_pos (IntKind.u64.wrap x.seed) (show (0 : Int) < (bk1.length : Int) by omega)
              omega
            have hbl40 : bk1.length ≤ 41 := by have := hz1.bl; simp only at this; omega
            obtain ⟨g, hgk⟩ : ∃ g, bk1[jn]? = some g := ⟨_, List.getElem?_eq_getElem hjl⟩
            have hgm := List.mem_of_getElem? hgk
            obtain ⟨hgo, hga⟩ := hbk g hgm
            have hbat : (fl Bg.v bk1 ++ ka)[0 + jn * 1]? = some (.slice (ovp g.ov) g.xs.length (ovc g.ov g.xs.length)) := by
              rw [Nat.zero_add, List.getElem?_append_left (by rw [fl_len Bg.v_len]; omega), show jn * 1 = jn * 1 + 0 from rfl, fl_get Bg.v_len hgk (by decide), ← slV_eq hgo]
              rfl
            obtain ⟨hE, B, hBe, c1, c2, c3, c4, c5, c6, c7, c8⟩ := att_body (by rw [lgs, List.length_map, hgg.len]) hlo hgg.vr hga (room := 40 + IntKind.u64.wrap x.room % 40) (by omega)
            have hatt := fun w1 hs hp => fattest_ok bs gs1 hgg hlo (ovp g.ov) g.xs.length (ovc g.ov g.xs.length) g.xs rfl (ovc_le hgo) (by have := hga.1; omega) hga.2.1 (40 + IntKind.u64.wrap x.room % 40) (by omega) w1 hs hp
            rw [hBe, hE] at hatt
            have hC : tkxC 1 tk1 B = 0 := by
              rw [tkxC, if_neg (fun h => h ⟨by decide, by decide, ht0, by omega⟩), if_neg (by omega), c2, if_neg (fun h => h hgg.vr), c3]
            have htk := fun p cap w1 h1 h2 h3 => ftake_good bf bg fg1 ov1 al1 si1 is1 hfo 1 tk1 p cap B h1 c6 c4 w1 h2 h3 hC
            have hiT := hinv.take 1 (g.xs.take 8) (dd := attD (lgs gs1) g.xs (40 + IntKind.u64.wrap x.room % 40)) (by rw [c7, lgs, List.length_map, hfo.g.len]) c8
            rw [c1, c2, c3] at htk
            simp only at htk
            have hsr := @SetR.of bs gs1 hgg
            have hrg : ∀ {w0 w1 : World} {S : List Nat} {L : Lst}, Hp w0 S L w1 → (∀ z ∈ BsL bk1, z ∈ L) → RdSl w1 (ovp g.ov) u8V g.xs := fun h hin => rdown hgo h fun z hz => hin z (mem_BsL hgm hz)
            generalize FM.takeY ⟨lgs fg1, al1, si1, is1⟩ 1 tk1 (g.xs.take 8) (lensI (lgs gs1)) (attD (lgs gs1) g.xs (40 + IntKind.u64.wrap x.room % 40)) = Y at *
            generalize FM.takeE ⟨lgs fg1, al1, si1, is1⟩ 1 tk1 (g.xs.take 8) (attD (lgs gs1) g.xs (40 + IntKind.u64.wrap x.room % 40)) = E at *
            generalize FM.take ⟨lgs fg1, al1, si1, is1⟩ 1 tk1 (g.xs.take 8) (lensI (lgs gs1)) (attD (lgs gs1) g.xs (40 + IntKind.u64.wrap x.room % 40)) = M2 at *
            generalize hF0 : FL bf bg fg1 ov1 al1 si1 is1 = F0 at *
            generalize hS0 : SetL bs gs1 = S0 at *
            generalize hB0 : BsL bk1 = B0 at *
            generalize hH0 : LsL had1 = H0 at *
            simp only [slV_sF, blkL_sF, List.cons_append, List.nil_append]
            repeat' (first | (apply R.is1; first | (apply R.isBin; (apply R.pure; exact rfl; first | (apply Ok1.gtr_t; exact rfl; exact rfl; omega) | (apply Ok1.eql_t; exact rfl; exact rfl; omega) | (apply Ok1.eql_f; exact rfl; exact rfl; omega) | (apply Ok1.remN; exact rfl; exact rfl; omega; omega))) | (apply R.isCall; (apply R.pure; exact rfl; (apply Ok1.lenS; (iterate 3 exact rfl)))) | (apply R.pure; exact rfl; first | (apply Ok1.indexAddrP; (iterate 4 exact rfl); exact hpe; exact rfl; omega; omega) | (apply Ok1.load; exact rfl; (apply Ld.row1 (f := 0) H; exact rfl; exact List.not_mem_nil; (iterate 3 exact rfl))) | (apply Ok1.move; exact rfl) | (apply Ok1.fieldAddr; (iterate 5 exact rfl)) | (apply Ok1.assign; exact rfl) | (apply Ok1.conv; (iterate 5 exact rfl)))) | apply R.nil | (apply T.is; first | apply T.seq | apply T.region | apply T.block | (apply T.cond_t; exact rfl) | (apply T.cond_f; exact rfl)))
            all_goals skip
            refine T.weakK (σ' := [(0, .slice p rs.length cap), (3, .pointer (some ⟨bs, 0, none⟩)), (4, .pointer (some ⟨bf, 0, none⟩)), (5, .slice (some ⟨ba, 0, none⟩) bk1.length (bk1.length + ja)), (6, slV oh1 had1.length), (7, slV ow1 wh1.length), (8, .int .i64 tk1), (9, .int .i64 i)]) (L' := (ba, .cells ⟨fl Bg.v bk1 ++ ka⟩ 22 (0, 0)) :: (F0 ++ (S0 ++ (B0 ++ (blkL 39 oh1 (fl Lg.w had1) ++ (H0 ++ blkL 3 ow1 (iis wh1))))))) ?_ (by (focus (repeat' first | exact Ext.one _ _ | exact Ext.here _ _ | exact Ext.all _ | apply Keep.cons | apply Keep.app | apply Keep.last | apply Ext.app); done)) ⟨rfl, rfl, rfl, rfl, rfl, rfl, rfl, rfl, trivial⟩
            repeat' (first | (apply R.is1; first | (apply R.isBin; (apply R.pure; exact rfl; (apply Ok1.neq_f; exact rfl; exact rfl; omega))) | (apply R.isCall; (apply R.callE (Li := F0) (vs := [.pointer (some ⟨bf, 0, none⟩), .int .i64 1, .int .i64 tk1, .slice (ovp oc) B.length (ovc oc B.length)]); (iterate 3 exact rfl); (focus (repeat' first | exact Ext.here _ _ | apply Ext.cons | apply Ext.app); done); intro w1 hw1; exact htk (ovp oc) (ovc oc B.length) w1 (ovc_le hoc) (rdown hoc hw1 (Ext.mem (by (focus ((repeat' (exact Ext.here _ _)); done))))) (fun _ => ovoff hw1 (by (focus (repeat' first | exact Ext.here _ _ | apply Ext.cons | apply Ext.app); done)) (Ext.mem (by (focus ((repeat' (exact Ext.here _ _)); done))))); rintro v Lo ⟨fg2, ov2, rfl, hl2, hfo2, rfl⟩)) | (apply R.pure; exact rfl; (apply Ok1.move; exact rfl))) | apply R.nil | (apply T.is; first | (apply T.drawC (id := 21) [0] (by decide); (((apply A.tk 0; exact rfl; kernel_rfl; (apply Ok1.move; exact rfl)); refine A.cast (listed' := #[true, false, false, false, false, false, false, false, false, false, false, false, false, false, false, false, false, false, false, false, false, false, false, false, false, false, false, false, false, false]) (by kernel_rfl) ?_) <;> ((apply A.tk 1; exact rfl; kernel_rfl; (apply Ok1.move; exact rfl)); refine A.cast (listed' := #[true, true, false, false, false, false, false, false, false, false, false, false, false, false, false, false, false, false, false, false, false, false, false, false, false, false, false, false, false, false]) (by kernel_rfl) ?_) <;> ((apply A.tk 2; exact rfl; kernel_rfl; (apply Ok1.move; exact rfl)); refine A.cast (listed' := #[true, true, true, false, false, false, false, false, false, false, false, false, false, false, false, false, false, false, false, false, false, false, false, false, false, false, false, false, false, false]) (by kernel_rfl) ?_) <;> ((apply A.tk 3; exact rfl; kernel_rfl; (apply Ok1.move; exact rfl)); refine A.cast (listed' := #[true, true, true, true, false, false, false, false, false, false, false, false, false, false, false, false, false, false, false, false, false, false, false, false, false, false, false, false, false, false]) (by kernel_rfl) ?_) <;> ((apply A.tk 4; exact rfl; kernel_rfl; (apply Ok1.indexAddrP; (iterate 4 exact rfl); exact hpe; exact rfl; omega; omega)); refine A.cast (listed' := #[true, true, true, true, true, false, false, false, false, false, false, false, false, false, false, false, false, false, false, false, false, false, false, false, false, false, false, false, false, false]) (by kernel_rfl) ?_) <;> ((apply A.tk 5; exact rfl; kernel_rfl; (apply Ok1.fieldAddr; (iterate 5 exact rfl))); refine A.cast (listed' := #[true, true, true, true, true, true, false, false, false, false, false, false, false, false, false, false, false, false, false, false, false, false, false, false, false, false, false, false, false, false]) (by kernel_rfl) ?_) <;> ((apply A.tk 6; exact rfl; kernel_rfl; (apply Ok1.load; exact rfl; (apply Ld.row1 (f := 1) H; exact rfl; exact List.not_mem_nil; (iterate 3 exact rfl)))); refine A.cast (listed' := #[true, true, true, true, true, true, true, false, false, false, false, false, false, false, false, false, false, false, false, false, false, false, false, false, false, false, false, false, false, false]) (by kernel_rfl) ?_) <;> ((apply A.tk 7; exact rfl; kernel_rfl; (apply Ok1.conv; (iterate 5 exact rfl))); refine A.cast (listed' := #[true, true, true, true, true, true, true, true, false, false, false, false, false, false, false, false, false, false, false, false, false, false, false, false, false, false, false, false, false, false]) (by kernel_rfl) ?_) <;> ((apply A.tk 8; exact rfl; kernel_rfl; (apply Ok1.move; exact rfl)); refine A.cast (listed' := #[true, true, true, true, true, true, true, true, true, false, false, false, false, false, false, false, false, false, false, false, false, false, false, false, false, false, false, false, false, false]) (by kernel_rfl) ?_) <;> ((apply A.tk 9; exact rfl; kernel_rfl; (apply Ok1.lenS; (iterate 3 exact rfl))); refine A.cast (listed' := #[true, true, true, true, true, true, true, true, true, true, false, false, false, false, false, false, false, false, false, false, false, false, false, false, false, false, false, false, false, false]) (by kernel_rfl) ?_) <;> ((apply A.tk 10; exact rfl; kernel_rfl; (apply Ok1.convU64; (iterate 5 exact rfl); omega; omega)); refine A.cast (listed' := #[true, true, true, true, true, true, true, true, true, true, true, false, false, false, false, false, false, false, false, false, false, false, false, false, false, false, false, false, false, false]) (by kernel_rfl) ?_) <;> ((apply A.tk 11; exact rfl; kernel_rfl; (apply Ok1.remF (c := jn); exact rfl; exact rfl; omega; omega; exact hjn)); refine A.cast (listed' := #[true, true, true, true, true, true, true, true, true, true, true, true, false, false, false, false, false, false, false, false, false, false, false, false, false, false, false, false, false, false]) (by kernel_rfl) ?_) <;> ((apply A.tk 12; exact rfl; kernel_rfl; (apply Ok1.convI64; (iterate 5 exact rfl); omega; omega)); refine A.cast (listed' := #[true, true, true, true, true, true, true, true, true, true, true, true, true, false, false, false, false, false, false, false, false, false, false, false, false, false, false, false, false, false]) (by kernel_rfl) ?_) <;> ((apply A.tk 13; exact rfl; kernel_rfl; (apply Ok1.indexAddr; (iterate 5 exact rfl); omega; omega)); refine A.cast (listed' := #[true, true, true, true, true, true, true, true, true, true, true, true, true, true, false, false, false, false, false, false, false, false, false, false, false, false, false, false, false, false]) (by kernel_rfl) ?_) <;> ((apply A.tk 14; exact rfl; kernel_rfl; (apply Ok1.load; exact rfl; (apply Ld.own1; exact rfl; exact rfl; exact At.head; exact hbat))); refine A.cast (listed' := #[true, true, true, true, true, true, true, true, true, true, true, true, true, true, true, false, false, false, false, false, false, false, false, false, false, false, false, false, false, false]) (by kernel_rfl) ?_) <;> ((apply A.tk 15; exact rfl; kernel_rfl; (apply Ok1.move; exact rfl)); refine A.cast (listed' := #[true, true, true, true, true, true, true, true, true, true, true, true, true, true, true, true, false, false, false, false, false, false, false, false, false, false, false, false, false, false]) (by kernel_rfl) ?_) <;> ((apply A.tk 16; exact rfl; kernel_rfl; (apply Ok1.move; exact rfl)); refine A.cast (listed' := #[true, true, true, true, true, true, true, true, true, true, true, true, true, true, true, true, true, false, false, false, false, false, false, false, false, false, false, false, false, false]) (by kernel_rfl) ?_) <;> ((apply A.tk 17; exact rfl; kernel_rfl; (apply Ok1.indexAddrP; (iterate 4 exact rfl); exact hpe; exact rfl; omega; omega)); refine A.cast (listed' := #[true, true, true, true, true, true, true, true, true, true, true, true, true, true, true, true, true, true, false, false, false, false, false, false, false, false, false, false, false, false]) (by kernel_rfl) ?_) <;> ((apply A.tk 18; exact rfl; kernel_rfl; (apply Ok1.fieldAddr; (iterate 5 exact rfl))); refine A.cast (listed' := #[true, true, true, true, true, true, true, true, true, true, true, true, true, true, true, true, true, true, true, false, false, false, false, false, false, false, false, false, false, false]) (by kernel_rfl) ?_) <;> ((apply A.tk 19; exact rfl; kernel_rfl; (apply Ok1.load; exact rfl; (apply Ld.row1 (f := 3) H; exact rfl; exact List.not_mem_nil; (iterate 3 exact rfl)))); refine A.cast (listed' := #[true, true, true, true, true, true, true, true, true, true, true, true, true, true, true, true, true, true, true, true, false, false, false, false, false, false, false, false, false, false]) (by kernel_rfl) ?_) <;> ((apply A.tk 20; exact rfl; kernel_rfl; (apply Ok1.conv; (iterate 5 exact rfl))); refine A.cast (listed' := #[true, true, true, true, true, true, true, true, true, true, true, true, true, true, true, true, true, true, true, true, true, false, false, false, false, false, false, false, false, false]) (by kernel_rfl) ?_) <;> ((apply A.tk 21; exact rfl; kernel_rfl; (apply Ok1.remN; exact rfl; exact rfl; omega; omega)); refine A.cast (listed' := #[true, true, true, true, true, true, true, true, true, true, true, true, true, true, true, true, true, true, true, true, true, true, false, false, false, false, false, false, false, false]) (by kernel_rfl) ?_) <;> ((apply A.tk 22; exact rfl; kernel_rfl; (apply Ok1.convI64; (iterate 5 exact rfl); omega; omega)); refine A.cast (listed' := #[true, true, true, true, true, true, true, true, true, true, true, true, true, true, true, true, true, true, true, true, true, true, true, false, false, false, false, false, false, false]) (by kernel_rfl) ?_) <;> ((apply A.tk 23; exact rfl; kernel_rfl; (apply Ok1.add64; exact rfl; exact rfl; omega; omega)); refine A.cast (listed' := #[true, true, true, true, true, true, true, true, true, true, true, true, true, true, true, true, true, true, true, true, true, true, true, true, false, false, false, false, false, false]) (by kernel_rfl) ?_) <;> (apply A.one 24; kernel_rfl; exact rfl; (((apply R.callE (vs := [.pointer (some ⟨bs, 0, none⟩), .slice (ovp g.ov) g.xs.length (ovc g.ov g.xs.length), .int .i64 (40 + IntKind.u64.wrap x.room % 40)]); (iterate 3 exact rfl); exact Ext.none _; intro w1 hw1; exact hatt w1 (hsr hw1 (Ext.mem (by (focus (repeat' first | exact Ext.here _ _ | apply Ext.cons | apply Ext.app); done)))) (hrg hw1 (Ext.mem (by (focus (repeat' first | exact Ext.here _ _ | apply Ext.cons | apply Ext.app); done)))); rintro v Lo ⟨oc, hoc, rfl, rfl⟩; rw [slV_eq hoc]))); apply R.nil; refine ⟨?_, ?_⟩; (focus (repeat' first | exact trivial | exact At.head | apply At.right | refine ⟨?_, ?_⟩))) <;> ((apply A.tk 25; exact rfl; kernel_rfl; (apply Ok1.move; exact rfl)); refine A.cast (listed' := #[true, true, true, true, true, true, true, true, true, true, true, true, true, true, true, true, true, true, true, true, true, true, true, true, true, true, false, false, false, false]) (by kernel_rfl) ?_) <;> ((apply A.tk 26; exact rfl; kernel_rfl; (apply Ok1.extract; exact rfl; exact rfl)); refine A.cast (listed' := #[true, true, true, true, true, true, true, true, true, true, true, true, true, true, true, true, true, true, true, true, true, true, true, true, true, true, true, false, false, false]) (by kernel_rfl) ?_) <;> ((apply A.tk 27; exact rfl; kernel_rfl; (apply Ok1.extract; exact rfl; exact rfl)); refine A.cast (listed' := #[true, true, true, true, true, true, true, true, true, true, true, true, true, true, true, true, true, true, true, true, true, true, true, true, true, true, true, true, false, false]) (by kernel_rfl) ?_) <;> ((apply A.tk 28; exact rfl; kernel_rfl; (apply Ok1.assign; exact rfl)); refine A.cast (listed' := #[true, true, true, true, true, true, true, true, true, true, true, true, true, true, true, true, true, true, true, true, true, true, true, true, true, true, true, true, true, false]) (by kernel_rfl) ?_) <;> ((apply A.tk 29; exact rfl; kernel_rfl; (apply Ok1.assign; exact rfl)); refine A.cast (listed' := #[true, true, true, true, true, true, true, true, true, true, true, true, true, true, true, true, true, true, true, true, true, true, true, true, true, true, true, true, true, true]) (by kernel_rfl) ?_) <;> (apply A.done; kernel_rfl))) | apply T.seq | apply T.region | apply T.skip | (apply T.cond_f; exact rfl)))
            all_goals skip
            have hiT2 : HInv tk1 (lgs gs1) ⟨lgs fg2, M2.al, M2.since, M2.is⟩ (had1.map Lg.xs) wh1 := by rw [hl2]; exact hiT
            refine ⟨⟨tk1, gs1, fg2, ov2, M2.al, M2.since, M2.is, some (ba, ja, ka), bk1, oh1, had1, ow1, wh1⟩, ⟨ht0, ht1, hgg, hlo, hfo2, hoa, hbk, hz1.bl, hz1.oh, hz1.hd, hz1.hl, hz1.ow, hiT2⟩, ⟨rfl, rfl, rfl, rfl, rfl, rfl, rfl, rfl, trivial⟩, ?_⟩
            simp only [hS0, hB0, hH0, blkL_sF, List.cons_append, List.nil_append]
            generalize FL bf bg fg2 ov2 M2.al M2.since M2.is = F2
            (focus (repeat' first | exact Ext.one _ _ | exact Ext.here _ _ | exact Ext.all _ | apply Keep.cons | apply Keep.app | apply Keep.last | apply Ext.cons | apply Ext.app); done)
        · obtain ⟨hq0, hq1⟩ := u64_rangeM x.seed
          obtain ⟨hr0, hr1⟩ := u64_rangeM x.room
          have hrev := fun p w1 h1 h2 => revoke_ok bs gs1 hgg (IntKind.u64.wrap x.seed % 4) p 1 1 [1 + IntKind.u64.wrap x.room % 100] rfl (by decide) w1 h1 h2
          have hiR := hinv.rev (IntKind.u64.wrap x.seed % 4) [1 + IntKind.u64.wrap x.room % 100]
          generalize hF0 : FL bf bg fg1 ov1 al1 si1 is1 = F0 at *
          generalize hS0 : SetL bs gs1 = S0 at *
          generalize hB0 : BsL bk1 = B0 at *
          generalize hH0 : LsL had1 = H0 at *
          repeat' (first | (apply R.is1; first | (apply R.isBin; (apply R.pure; exact rfl; first | (apply Ok1.eql_f; exact rfl; exact rfl; omega) | (apply Ok1.remN; exact rfl; exact rfl; omega; omega))) | (apply R.pure; exact rfl; first | (apply Ok1.indexAddrP; (iterate 4 exact rfl); exact hpe; exact rfl; omega; omega) | (apply Ok1.load; exact rfl; (apply Ld.row1 (f := 0) H; exact rfl; exact List.not_mem_nil; (iterate 3 exact rfl))) | (apply Ok1.move; exact rfl) | (apply Ok1.fieldAddr; (iterate 5 exact rfl)) | (apply Ok1.assign; exact rfl) | (apply Ok1.conv; (iterate 5 exact rfl)))) | apply R.nil | (apply T.is; first | (apply T.drawC (id := 14) [] (by decide); ((apply A.tk 0; exact rfl; kernel_rfl; (apply Ok1.move; exact rfl)) <;> (apply A.tk 1; exact rfl; kernel_rfl; (apply Ok1.move; exact rfl)) <;> (apply A.tk 2; exact rfl; kernel_rfl; (apply Ok1.move; exact rfl)) <;> (apply A.tk 3; exact rfl; kernel_rfl; (apply Ok1.indexAddrP; (iterate 4 exact rfl); exact hpe; exact rfl; omega; omega)) <;> (apply A.tk 4; exact rfl; kernel_rfl; (apply Ok1.fieldAddr; (iterate 5 exact rfl))) <;> (apply A.tk 5; exact rfl; kernel_rfl; (apply Ok1.load; exact rfl; (apply Ld.row1 (f := 1) H; exact rfl; exact List.not_mem_nil; (iterate 3 exact rfl)))) <;> (apply A.tk 6; exact rfl; kernel_rfl; (apply Ok1.conv; (iterate 5 exact rfl))) <;> (apply A.tk 7; exact rfl; kernel_rfl; (apply Ok1.remN; exact rfl; exact rfl; omega; omega)) <;> (apply A.tk 8; exact rfl; kernel_rfl; (apply Ok1.convI64; (iterate 5 exact rfl); omega; omega)) <;> (apply A.tk 9; exact rfl; kernel_rfl; (apply Ok1.move; exact rfl)) <;> (apply A.tk 10; exact rfl; kernel_rfl; (apply Ok1.move; exact rfl)) <;> (apply A.tk 11; exact rfl; kernel_rfl; (apply Ok1.indexAddrP; (iterate 4 exact rfl); exact hpe; exact rfl; omega; omega)) <;> (apply A.tk 12; exact rfl; kernel_rfl; (apply Ok1.fieldAddr; (iterate 5 exact rfl))) <;> (apply A.tk 13; exact rfl; kernel_rfl; (apply Ok1.load; exact rfl; (apply Ld.row1 (f := 3) H; exact rfl; exact List.not_mem_nil; (iterate 3 exact rfl)))) <;> (apply A.tk 14; exact rfl; kernel_rfl; (apply Ok1.conv; (iterate 5 exact rfl))) <;> (apply A.tk 15; exact rfl; kernel_rfl; (apply Ok1.remN; exact rfl; exact rfl; omega; omega)) <;> (apply A.tk 16; exact rfl; kernel_rfl; (apply Ok1.convI64; (iterate 5 exact rfl); omega; omega)) <;> (apply A.tk 17; exact rfl; kernel_rfl; (apply Ok1.add64; exact rfl; exact rfl; omega; omega)) <;> (apply A.one 18; kernel_rfl; exact rfl; (((apply R.buildSlice; (iterate 12 exact rfl); intro))); apply R.nil; refine ⟨?_, ?_⟩; (focus ((repeat' (exact trivial))))) <;> (apply A.one 19; kernel_rfl; exact rfl; (((apply R.callE (Li := S0) (vs := [.pointer (some ⟨bs, 0, none⟩), .int .i64 (IntKind.u64.wrap x.seed % 4), .slice (some ⟨_, 0, none⟩) 1 1]); (iterate 3 exact rfl); (focus (repeat' first | exact Ext.here _ _ | apply Ext.cons | apply Ext.app); done); intro w1 hw1; exact hrev _ w1 (RdSl.of (junk := []) hw1 (by exact At.head) rfl) (fun _ => Off.of hw1 (by (focus (repeat' first | exact Ext.here _ _ | apply Ext.cons | apply Ext.app); done)) (by exact At.head)); rintro v Lo ⟨gs2, rfl, hl2, hg2, rfl⟩))); apply R.nil; refine ⟨?_, ?_⟩; (focus ((repeat' (exact trivial))))) <;> (apply A.done; kernel_rfl))) | apply T.seq | apply T.region | apply T.block | (apply T.cond_f; exact rfl)))
          all_goals skip
          all_goals refine ⟨⟨tk1, gs2, fg1, ov1, al1, si1, is1, oa1, bk1, oh1, had1, ow1, wh1⟩, ⟨ht0, ht1, hg2, (by simp only [hl2]; exact hlo.rev _ _), hfo, hoa, hbk, hz1.bl, hz1.oh, hz1.hd, hz1.hl, hz1.ow, (by simp only [hl2, HS.m]; exact hiR)⟩, ⟨rfl, rfl, rfl, rfl, rfl, rfl, rfl, rfl, trivial⟩, ?_⟩
          all_goals simp only [hF0, hB0, hH0]
          all_goals (focus (repeat' first | exact Ext.one _ _ | exact Ext.here _ _ | exact Ext.all _ | apply Keep.cons | apply Keep.app | apply Keep.last | apply Ext.cons | apply Ext.app); done)
      · intro z2 hz2
        obtain ⟨tk2, gs2, fg2, ov2, al2, si2, is2, oa2, bk2, oh2, had2, ow2, wh2⟩ := z2
        have hwl := hz2.wl
        have hhl := hz2.hl
        have hgf := hz2.f.g
        have hinv := hz2.inv
        have hdg := hz2.hd
        have how9 := hz2.ow
        have hoh9 := hz2.oh
        simp only [HS.m] at hwl hhl hgf hinv hdg how9 hoh9
        obtain ⟨bw, jw, kw, rfl⟩ : ∃ b j k, ow2 = some (b, j, k) := by
          cases ow2 with
          | none => exact absurd how9.2 (by omega)
          | some q => exact ⟨_, _, _, rfl⟩
        obtain ⟨bh, jh, kh, rfl⟩ : ∃ b j k, oh2 = some (b, j, k) := by
          cases oh2 with
          | none => exact absurd hoh9.2 (by omega)
          | some q => exact ⟨_, _, _, rfl⟩
        have hsi := fun w1 hb => fsince_ok bf bg ov2 al2.length si2 is2 w1 hb
        have hst := fun w1 hb hs => fset_ok bf bg fg2 hgf ov2 al2.length si2 is2 w1 hb hs
        have hwk : ∀ (k : Nat) (t : Int), wh2[k]? = some t → (iis wh2 ++ kw)[0 + k * 1]? = some (.int .i64 t) := by
          intro k t hk
          have hlt := (List.getElem?_eq_some_iff.1 hk).1
          rw [Nat.zero_add, Nat.mul_one, List.getElem?_append_left (by rw [iis_len]; exact hlt), iis, List.getElem?_map, hk]; rfl
        have hhk : ∀ (k : Nat) (g : Lg), had2[k]? = some g → (fl Lg.w had2 ++ kh)[0 + k * 1]? = some (.slice (ovp g.ov) g.xs.length (ovc g.ov g.xs.length)) := by
          intro k g hk
          have hlt := (List.getElem?_eq_some_iff.1 hk).1
          rw [Nat.zero_add, List.getElem?_append_left (by rw [fl_len Lg.w_len]; omega), show k * 1 = k * 1 + 0 from rfl, fl_get Lg.w_len hk (by decide), ← Lg.v_eq (hdg g (List.mem_of_getElem? hk)).1]
          rfl
        have hok1 : HS.ok ⟨tk2, gs2, fg2, ov2, al2, si2, is2, oa2, bk2, some (bh, jh, kh), had2, some (bw, jw, kw), wh2⟩ (i + 1) := hz2
        clear hz2
        simp only [hS, HS.L, FL, blkL_sF, slV_sF, List.cons_append, List.nil_append, List.append_assoc]
        repeat' (first | (apply R.is1; first | (apply R.isCall; (apply R.callV (vs := [.pointer (some ⟨bf, 0, none⟩)]); (iterate 3 exact rfl); intro w1 hw1; exact hsi w1 (hw1.get _ _ (At.mem (by exact At.head))))) | (apply R.pure; exact rfl; first | (apply Ok1.move; exact rfl) | (apply Ok1.assign; exact rfl) | (apply Ok1.extract; exact rfl; exact rfl))) | apply R.nil | (apply T.is; first | apply T.seq | apply T.region | apply T.block))
        apply T.loopK (α := Nat) (I := fun k => k ≤ i + 1) (σi := fun k => [(0, .slice p rs.length cap), (3, .pointer (some ⟨bs, 0, none⟩)), (4, .pointer (some ⟨bf, 0, none⟩)), (5, slV oa2 bk2.length), (6, .slice (some ⟨bh, 0, none⟩) had2.length (had2.length + jh)), (7, .slice (some ⟨bw, 0, none⟩) wh2.length (wh2.length + jw)), (8, .int .i64 tk2), (9, .int .i64 i), (14, .int .i64 si2), (15, .bool is2), (16, .int .i64 k)]) (Li := fun k => (bf, .cells ⟨FrC bg ov2 al2.length si2 is2⟩ 166 (0, 0)) :: (bh, .cells ⟨fl Lg.w had2 ++ kh⟩ 39 (0, 0)) :: (bw, .cells ⟨iis wh2 ++ kw⟩ 3 (0, 0)) :: (blkL 164 ov2 (fl Ak.v al2) ++ (SetL bg fg2 ++ (SetL bs gs2 ++ (blkL 22 oa2 (fl Bg.v bk2) ++ (BsL bk2 ++ LsL had2)))))) (μ := fun k => i + 1 - k) (i0 := 0)
        · exact Nat.zero_le _
        · exact ⟨rfl, rfl, rfl, rfl, rfl, rfl, rfl, rfl, rfl, rfl, rfl, trivial⟩
        · (focus (repeat' first | exact Ext.one _ _ | exact Ext.here _ _ | apply Keep.cons | apply Keep.app | apply Keep.last | apply Ext.cons | apply Ext.app); done)
        · intro k hk
          by_cases hex : is2 = true ∧ k < i + 1
          · obtain ⟨rfl, hk1⟩ := hex
            obtain ⟨t, hkt⟩ : ∃ t, wh2[k]? = some t := ⟨_, List.getElem?_eq_getElem (by omega)⟩
            obtain ⟨g, hkg⟩ : ∃ g, had2[k]? = some g := ⟨_, List.getElem?_eq_getElem (by omega)⟩
            obtain ⟨hgo, hgl⟩ := hdg g (List.mem_of_getElem? hkg)
            have hall : t < si2 → ∀ y ∈ g.xs, y ∈ lcat fg2 := fun hlt y hy => mem_lcat.2 (hinv.is rfl k g.xs t (by rw [List.getElem?_map, hkg]; rfl) hkt hlt y hy)
            repeat' (first | (apply R.is1; first | (apply R.isBin; (apply R.pure; exact rfl; (apply Ok1.lss_t; exact rfl; exact rfl; omega))) | (apply R.isCall; (apply R.pure; exact rfl; (apply Ok1.lenS; (iterate 3 exact rfl)))) | (apply R.pure; exact rfl; first | (apply Ok1.move; exact rfl) | (apply Ok1.assign; exact rfl) | (apply Ok1.pick_t; exact rfl; exact rfl))) | (apply R.isG; (apply R.guard_run; exact rfl; exact rfl)) | apply R.nil | (apply T.is; first | apply T.seq | apply T.region | apply T.block | apply T.skip | (apply T.cond_t; exact rfl)))
            all_goals skip
            apply T.loopK (α := Nat) (I := fun j => j ≤ g.xs.length) (σi := fun j => [(0, .slice p rs.length cap), (3, .pointer (some ⟨bs, 0, none⟩)), (4, .pointer (some ⟨bf, 0, none⟩)), (5, slV oa2 bk2.length), (6, .slice (some ⟨bh, 0, none⟩) had2.length (had2.length + jh)), (7, .slice (some ⟨bw, 0, none⟩) wh2.length (wh2.length + jw)), (8, .int .i64 tk2), (9, .int .i64 i), (14, .int .i64 si2), (15, .bool true), (16, .int .i64 k), (17, .int .i64 j)]) (Li := fun j => (bf, .cells ⟨FrC bg ov2 al2.length si2 true⟩ 166 (0, 0)) :: (bh, .cells ⟨fl Lg.w had2 ++ kh⟩ 39 (0, 0)) :: (bw, .cells ⟨iis wh2 ++ kw⟩ 3 (0, 0)) :: (blkL 164 ov2 (fl Ak.v al2) ++ (SetL bg fg2 ++ (SetL bs gs2 ++ (blkL 22 oa2 (fl Bg.v bk2) ++ (BsL bk2 ++ LsL had2)))))) (μ := fun j => g.xs.length - j) (i0 := 0)
            · exact Nat.zero_le _
            · exact ⟨rfl, rfl, rfl, rfl, rfl, rfl, rfl, rfl, rfl, rfl, rfl, rfl, trivial⟩
            · (focus (repeat' first | exact Ext.one _ _ | exact Ext.here _ _ | exact Ext.all _ | apply Keep.cons | apply Keep.app | apply Keep.last); done)
            · intro j hj
              by_cases hin : t < si2 ∧ j < g.xs.length
              · obtain ⟨hts, hjl⟩ := hin
                obtain ⟨y, hy⟩ : ∃ y, g.xs[j]? = some y := ⟨_, List.getElem?_eq_getElem hjl⟩
                have hym := hall hts y (List.mem_of_getElem? hy)
                obtain ⟨b9, j9, k9, hgov⟩ : ∃ b j k, g.ov = some (b, j, k) := by
                  cases ho : g.ov with
                  | none => rw [Lg.ok, ho] at hgo; exact absurd hgo.2 (by omega)
                  | some q => exact ⟨_, _, _, rfl⟩
                have hhk2 := hhk k g hkg
                rw [hgov] at hhk2
                have hgy : (iis g.xs ++ k9)[0 + j * 1]? = some (.int .i64 y) := by
                  rw [Nat.zero_add, Nat.mul_one, List.getElem?_append_left (by rw [iis_len]; exact hjl), iis, List.getElem?_map, hy]; rfl
                have hhas := fun bc gs' hg' (hl : lgs gs' = lgs fg2) w1 hs => has_ok bc gs' hg' y w1 hs
                have hdec : ∀ gs', lgs gs' = lgs fg2 → decide (y ∈ lcat gs') = true := fun gs' hl => decide_eq_true (mem_lcat.2 (by rw [hl]; exact mem_lcat.1 hym))
                repeat' (first | (apply R.is1; first | (apply R.isBin; (apply R.pure; exact rfl; (apply Ok1.lss_t; exact rfl; exact rfl; omega))) | (apply R.isCall; (apply R.pure; exact rfl; (apply Ok1.lenS; (iterate 3 exact rfl)))) | (apply R.pure; exact rfl; first | (apply Ok1.load; exact rfl; first | (apply Ld.own1; exact rfl; exact rfl; (focus (repeat' first | exact At.head | apply At.tail); done); exact hwk k t hkt) | (apply Ld.own1; exact rfl; exact rfl; (focus (repeat' first | exact At.head | apply At.tail); done); exact hhk2)) | (apply Ok1.move; exact rfl) | (apply Ok1.indexAddr; (iterate 5 exact rfl); omega; omega) | (apply Ok1.pick_t; exact rfl; exact rfl))) | (apply R.isG; (apply R.guard_run; exact rfl; exact rfl)) | apply R.nil | (apply T.is; first | apply T.seq | apply T.region | apply T.block | apply T.skip | (apply T.cond_t; exact rfl)))
                all_goals skip
                refine T.weakK (σ' := [(0, .slice p rs.length cap), (3, .pointer (some ⟨bs, 0, none⟩)), (4, .pointer (some ⟨bf, 0, none⟩)), (5, slV oa2 bk2.length), (6, .slice (some ⟨bh, 0, none⟩) had2.length (had2.length + jh)), (7, .slice (some ⟨bw, 0, none⟩) wh2.length (wh2.length + jw)), (8, .int .i64 tk2), (9, .int .i64 i), (14, .int .i64 si2), (15, .bool true), (16, .int .i64 k), (17, .int .i64 j)]) (L' := (bh, .cells ⟨fl Lg.w had2 ++ kh⟩ 39 (0, 0)) :: (b9, .cells ⟨iis g.xs ++ k9⟩ 3 (0, 0)) :: (bf, .cells ⟨FrC bg ov2 al2.length si2 true⟩ 166 (0, 0)) :: (bw, .cells ⟨iis wh2 ++ kw⟩ 3 (0, 0)) :: (SetL bg fg2 ++ (blkL 164 ov2 (fl Ak.v al2) ++ (SetL bs gs2 ++ (blkL 22 oa2 (fl Bg.v bk2) ++ (BsL bk2 ++ (LsL (had2.take k) ++ LsL (had2.drop (k + 1))))))))) ?_ ?_ ⟨rfl, rfl, rfl, rfl, rfl, rfl, rfl, rfl, rfl, rfl, rfl, rfl, trivial⟩
                rotate_left 1
                · rw [LsL_at hkg]
                  simp only [Lg.L, hgov, blkL_sF, List.cons_append, List.nil_append]
                  (focus (repeat' first | exact Ext.one _ _ | exact Ext.here _ _ | exact Ext.all _ | apply Keep.cons | apply Keep.app | apply Keep.last | apply Ext.cons | apply Ext.app); done)
                generalize hH1 : LsL (had2.take k) = H1
                generalize hH2 : LsL (had2.drop (k + 1)) = H2
                repeat' (first | (apply R.is1; first | (apply R.isBin; (apply R.pure; exact rfl; (apply Ok1.add64; exact rfl; exact rfl; omega; omega))) | (apply R.pure; exact rfl; first | (apply Ok1.move; exact rfl) | (apply Ok1.assign; exact rfl))) | apply R.nil | (apply T.is; first | (apply T.drawC (id := 32) [0,1,2] (by decide); ((apply A.tk 0; exact rfl; kernel_rfl; (apply Ok1.move; exact rfl)) <;> (apply A.tk 2; exact rfl; kernel_rfl; (apply Ok1.move; exact rfl)) <;> (apply A.tk 3; exact rfl; kernel_rfl; (apply Ok1.move; exact rfl)) <;> (apply A.tk 4; exact rfl; kernel_rfl; (apply Ok1.indexAddr; (iterate 5 exact rfl); omega; omega)) <;> (apply A.tk 5; exact rfl; kernel_rfl; (apply Ok1.load; exact rfl; (apply Ld.own1; exact rfl; exact rfl; exact At.head; exact hhk2))) <;> (apply A.tk 6; exact rfl; kernel_rfl; (apply Ok1.move; exact rfl)) <;> (apply A.tk 7; exact rfl; kernel_rfl; (apply Ok1.indexAddr; (iterate 5 exact rfl); omega; omega)) <;> (apply A.tk 8; exact rfl; kernel_rfl; (apply Ok1.load; exact rfl; (apply Ld.own1; exact rfl; exact rfl; (focus (repeat' first | exact At.head | apply At.tail); done); exact hgy))) <;> (apply A.one 1; kernel_rfl; exact rfl; (((apply R.callE (vs := [.pointer (some ⟨bf, 0, none⟩)]); (iterate 3 exact rfl); exact Ext.none _; intro w1 hw1; exact hst w1 (hw1.get _ _ (At.mem (by (focus (repeat' first | exact At.head | apply At.tail); done)))) (SetR.of hgf hw1 (Ext.mem (by (focus (repeat' first | exact Ext.here _ _ | apply Ext.cons); done)))); rintro v Lo ⟨bc, gs', rfl, hl', hg', rfl⟩))); apply R.nil; refine ⟨?_, ?_⟩; (focus (repeat' first | exact trivial | exact At.head | apply At.tail | apply At.right | refine ⟨?_, ?_⟩))) <;> (apply A.one 9; kernel_rfl; exact rfl; (((apply R.callE (vs := [.pointer (some ⟨bc, 0, none⟩), .int .i64 y]); (iterate 3 exact rfl); exact Ext.none _; intro w1 hw1; exact hhas bc gs' hg' hl' w1 (SetR.of hg' hw1 (Ext.mem (by (focus ((repeat' (exact Ext.here _ _)); done))))); rintro v Lo ⟨rfl, rfl⟩; rw [hdec gs' hl']))); apply R.nil; refine ⟨?_, ?_⟩; (focus (repeat' first | exact trivial | exact At.head | apply At.tail | apply At.right | refine ⟨?_, ?_⟩))) <;> (apply A.tk 10; exact rfl; kernel_rfl; (apply Ok1.not_t; exact rfl)) <;> (apply A.done; kernel_rfl))) | apply T.region | apply T.skip | (apply T.cond_f; exact rfl)))
                all_goals skip
                all_goals refine ⟨j + 1, by omega, by omega, ⟨rfl, rfl, rfl, rfl, rfl, rfl, rfl, rfl, rfl, rfl, rfl, rfl, trivial⟩, ?_⟩
                all_goals rw [LsL_at hkg]
                all_goals simp only [Lg.L, hgov, blkL_sF, List.cons_append, List.nil_append, hH1, hH2]
                all_goals (focus (repeat' first | exact Ext.one _ _ | exact Ext.here _ _ | exact Ext.all _ | apply Keep.cons | apply Keep.app | apply Keep.last | apply Ext.cons | apply Ext.app); done)
              · repeat' (first | (apply R.is1; first | (apply R.isBin; first | (apply R.pure; exact rfl; first | (apply Ok1.add64; exact rfl; exact rfl; omega; omega) | (apply Ok1.lss_f; exact rfl; exact rfl; omega)) | (apply R.lss rfl rfl rfl <;> intro)) | (apply R.isCall; (apply R.pure; exact rfl; (apply Ok1.lenS; (iterate 3 exact rfl)))) | (apply R.pure; exact rfl; first | (apply Ok1.load; exact rfl; first | (apply Ld.own1; exact rfl; exact rfl; (focus (repeat' first | exact At.head | apply At.tail); done); exact hwk k t hkt) | (apply Ld.own1; exact rfl; exact rfl; (focus (repeat' first | exact At.head | apply At.tail); done); exact hhk k g hkg)) | (apply Ok1.move; exact rfl) | (apply Ok1.assign; exact rfl) | (apply Ok1.indexAddr; (iterate 5 exact rfl); omega; omega) | (apply Ok1.pick_t; exact rfl; exact rfl) | (apply Ok1.pick_f; exact rfl; exact rfl))) | (apply R.isG; first | (apply R.guard_run; exact rfl; exact rfl) | (apply R.guard_not; (iterate 3 exact rfl))) | apply R.nil | (apply T.is; first | apply T.seq | apply T.region | apply T.exit | (apply T.cond_f; exact rfl)))
                all_goals skip
                all_goals exact ⟨k + 1, by omega, by omega, ⟨rfl, rfl, rfl, rfl, rfl, rfl, rfl, rfl, rfl, rfl, rfl, trivial⟩, by (focus (repeat' first | exact Ext.one _ _ | exact Ext.here _ _ | exact Ext.all _ | apply Keep.cons | apply Keep.app | apply Keep.last); done)⟩
          · cases is2 with
            | false =>
              repeat' (first | (apply R.is1; first | (apply R.isBin; (apply R.pure; exact rfl; (apply Ok1.add64; exact rfl; exact rfl; omega; omega))) | (apply R.pure; exact rfl; first | (apply Ok1.move; exact rfl) | (apply Ok1.assign; exact rfl) | (apply Ok1.pick_f; exact rfl; exact rfl))) | (apply R.isG; (apply R.guard_not; (iterate 3 exact rfl))) | apply R.nil | (apply T.is; first | apply T.seq | apply T.region | apply T.exit | (apply T.cond_f; exact rfl)))
              all_goals skip
              all_goals refine ⟨(i + 1, ⟨tk2, gs2, fg2, ov2, al2, si2, false, oa2, bk2, some (bh, jh, kh), had2, some (bw, jw, kw), wh2⟩), ⟨by simp only; omega, by simp only; omega, hok1⟩, by simp only; omega, ⟨rfl, rfl, rfl, rfl, rfl, rfl, rfl, rfl, trivial⟩, ?_⟩
              all_goals simp only [HS.L, FL, blkL_sF, List.cons_append, List.nil_append, List.append_assoc]
              all_goals (focus (repeat' first | exact Keep.nil _ | exact Ext.one _ _ | exact Ext.here _ _ | exact Ext.all _ | apply Keep.cons | apply Keep.app | apply Ext.cons); done)
            | true =>
              have hk9 : ¬ k < i + 1 := fun h => hex ⟨rfl, h⟩
              repeat' (first | (apply R.is1; first | (apply R.isBin; (apply R.pure; exact rfl; first | (apply Ok1.add64; exact rfl; exact rfl; omega; omega) | (apply Ok1.lss_f; exact rfl; exact rfl; omega))) | (apply R.isCall; (apply R.pure; exact rfl; (apply Ok1.lenS; (iterate 3 exact rfl)))) | (apply R.pure; exact rfl; first | (apply Ok1.move; exact rfl) | (apply Ok1.assign; exact rfl) | (apply Ok1.pick_t; exact rfl; exact rfl))) | (apply R.isG; (apply R.guard_run; exact rfl; exact rfl)) | apply R.nil | (apply T.is; first | apply T.seq | apply T.region | apply T.exit | (apply T.cond_f; exact rfl)))
              all_goals skip
              all_goals refine ⟨(i + 1, ⟨tk2, gs2, fg2, ov2, al2, si2, true, oa2, bk2, some (bh, jh, kh), had2, some (bw, jw, kw), wh2⟩), ⟨by simp only; omega, by simp only; omega, hok1⟩, by simp only; omega, ⟨rfl, rfl, rfl, rfl, rfl, rfl, rfl, rfl, trivial⟩, ?_⟩
              all_goals simp only [HS.L, FL, blkL_sF, List.cons_append, List.nil_append, List.append_assoc]
              all_goals (focus (repeat' first | exact Keep.nil _ | exact Ext.one _ _ | exact Ext.here _ _ | exact Ext.all _ | apply Keep.cons | apply Keep.app | apply Ext.cons); done)
    · simp only [hS]
      repeat' (first | (apply R.is1; first | (apply R.isBin; first | (apply R.pure; exact rfl; (apply Ok1.lss_f; exact rfl; exact rfl; omega)) | (apply R.lss rfl rfl rfl <;> intro)) | (apply R.isCall; first | (apply R.callV (vs := []); (iterate 3 exact rfl); intro w1 hw1; exact hkn w1) | (apply R.pure; exact rfl; (apply Ok1.lenS; (iterate 3 exact rfl)))) | (apply R.pure; exact rfl; first | (apply Ok1.move; exact rfl) | (apply Ok1.assign; exact rfl) | (apply Ok1.pick_t; exact rfl; exact rfl) | (apply Ok1.pick_f; exact rfl; exact rfl))) | (apply R.isG; first | (apply R.guard_run; exact rfl; exact rfl) | (apply R.guard_not; (iterate 3 exact rfl))) | apply R.nil | (apply T.is; first | apply T.seq | apply T.region | apply T.exit | apply T.ret | (apply T.cond_f; exact rfl)))
      all_goals skip
      all_goals (apply RetOk.t; exact rfl)
      all_goals rfl
end Go.Proofs.YtolnagbahceebaaGreat
