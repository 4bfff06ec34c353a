/- Texts of the proof: Cw1, Pd1, Rf10, Pd2, Pd3, Mk1, Jn1, Jn2, Cw2, Lcw, Jn3, Jp3, Jn4. -/
import Derived.Test.YtolnagbahceebaaGreatL18yb5
set_option linter.unusedSimpArgs false
set_option linter.unusedVariables false
namespace Go.Proofs.YtolnagbahceebaaGreat
open Go.RowKit Go.Shelf
set_option maxRecDepth 100000
theorem to_off (br : Nat) (c : Cl) (s : List Int) (hs : s.length = 32) (m1 m2 : Nat) (e : TypeId) (n : Int) (h : n < 1 ∨ n > 65535) (w : World) (hb : w.heap[br]? = some (.cells ⟨ringC c s m1 m2⟩ e (0, 0))) :
    CallM Tryz.prog 178 [.pointer (some ⟨br, 0, none⟩), .int .i64 n] [] w fun v L => v = .tuple #[.pointer none, .int .i64 10] ∧ L = [] := by
  refine enterK (tb := tb) Tryz.func178 rfl Tryz.ntmps178 rfl ?_
  repeat' (first | (apply R.is1; first | (apply R.isBin; (apply R.pure; exact rfl; (apply Ok1.eqlP; (iterate 5 exact rfl)))) | (apply R.isCall; first | (apply R.callE (vs := [.agg ⟨tkC c s⟩]); (iterate 3 exact rfl); exact Ext.none _; intro w1 hw1; exact key_ok c s hs w1; rintro v Lo ⟨bk2, ov2, rfl, hov2, rfl⟩) | apply R.callP rfl rfl rfl (sender_off _ n h)) | (apply R.pure; exact rfl; first | (apply Ok1.load; exact rfl; apply Ld.blkk; exact rfl; exact rfl; exact hb; exact List.not_mem_nil; exact ring_tk c hs m1 m2) | (apply Ok1.move; exact rfl) | (apply Ok1.fieldAddr; (iterate 5 exact rfl)) | (apply Ok1.assign; exact rfl) | (apply Ok1.extract; exact rfl; exact rfl) | (apply Ok1.nilCheck; exact rfl))) | apply R.nil | (apply T.is; first | apply T.seq | apply T.region | apply T.skip | apply T.ret | (apply T.cond_f; exact rfl)))
  all_goals (apply RetOk.tt; exact rfl; exact rfl)
  all_goals exact ⟨_, by (focus ((repeat' (exact Keep.nil _)); done)), rfl, rfl⟩
theorem rseed_off (br : Nat) (c : Cl) (s : List Int) (hs : s.length = 32) (m1 m2 : Nat) (e : TypeId) (n : Int) (h : n < 0 ∨ n > 3) (w : World) (hb : w.heap[br]? = some (.cells ⟨ringC c s m1 m2⟩ e (0, 0))) :
    CallM Tryz.prog 177 [.pointer (some ⟨br, 0, none⟩), .int .i64 n] [] w fun v L => v = .tuple #[.pointer none, .int .i64 10] ∧ L = [] := by
  refine enterK (tb := tb) Tryz.func177 rfl Tryz.ntmps177 rfl ?_
  repeat' (first | (apply R.is1; first | (apply R.isBin; (apply R.pure; exact rfl; (apply Ok1.eqlP; (iterate 5 exact rfl)))) | (apply R.isCall; first | (apply R.callE (vs := [.agg ⟨tkC c s⟩]); (iterate 3 exact rfl); exact Ext.none _; intro w1 hw1; exact key_ok c s hs w1; rintro v Lo ⟨bk2, ov2, rfl, hov2, rfl⟩) | apply R.callP rfl rfl rfl (seed_off _ n h)) | (apply R.pure; exact rfl; first | (apply Ok1.load; exact rfl; apply Ld.blkk; exact rfl; exact rfl; exact hb; exact List.not_mem_nil; exact ring_tk c hs m1 m2) | (apply Ok1.move; exact rfl) | (apply Ok1.fieldAddr; (iterate 5 exact rfl)) | (apply Ok1.assign; exact rfl) | (apply Ok1.extract; exact rfl; exact rfl) | (apply Ok1.nilCheck; exact rfl))) | apply R.nil | (apply T.is; first | apply T.seq | apply T.region | apply T.skip | apply T.ret | (apply T.cond_f; exact rfl)))
  all_goals (apply RetOk.tt; exact rfl; exact rfl)
  all_goals exact ⟨_, by (focus ((repeat' (exact Keep.nil _)); done)), rfl, rfl⟩
theorem rseed_ok (br : Nat) (c : Cl) (s : List Int) (hs : s.length = 32) (hsb : Byt s) (m1 m2 : Nat) (e : TypeId) (n : Int) (h1 : 0 ≤ n) (h2 : n ≤ 3) (w : World) (hb : w.heap[br]? = some (.cells ⟨ringC c s m1 m2⟩ e (0, 0))) :
    CallM Tryz.prog 177 [.pointer (some ⟨br, 0, none⟩), .int .i64 n] [] w fun v L => ∃ bk' ov, v = .tuple #[.pointer (some ⟨bk', 0, none⟩), .int .i64 0] ∧ OvOk 1 ov 32 (u8s (seedI s n)) ∧ L = KL bk' ov (seedI s n) := by
  refine enterK (tb := tb) Tryz.func177 rfl Tryz.ntmps177 rfl ?_
  repeat' (first | (apply R.is1; first | (apply R.isBin; (apply R.pure; exact rfl; (apply Ok1.eqlP; (iterate 5 exact rfl)))) | (apply R.isCall; first | (apply R.callE (vs := [.agg ⟨tkC c s⟩]); (iterate 3 exact rfl); exact Ext.none _; intro w1 hw1; exact key_ok c s hs w1; rintro v Lo ⟨bk2, ov2, rfl, hov2, rfl⟩) | (apply R.callE (vs := [.pointer (some ⟨bk2, 0, none⟩), .int .i64 n]); (iterate 3 exact rfl); exact Ext.none _; intro w1 hw1; exact seed_ok bk2 s (by rw [hs]; decide) hsb n h1 h2 w1 (KeyR.of (by rw [hs]; exact hov2) hw1 (Ext.mem (by (focus ((repeat' (exact Ext.here _ _)); done))))); rintro v Lo ⟨bk3, ov3, rfl, hov3, rfl⟩)) | (apply R.pure; exact rfl; first | (apply Ok1.load; exact rfl; apply Ld.blkk; exact rfl; exact rfl; exact hb; exact List.not_mem_nil; exact ring_tk c hs m1 m2) | (apply Ok1.move; exact rfl) | (apply Ok1.fieldAddr; (iterate 5 exact rfl)) | (apply Ok1.assign; exact rfl) | (apply Ok1.extract; exact rfl; exact rfl) | (apply Ok1.nilCheck; exact rfl))) | apply R.nil | (apply T.is; first | apply T.seq | apply T.region | apply T.skip | apply T.ret | (apply T.cond_f; exact rfl)))
  all_goals (apply RetOk.tt; exact rfl; exact rfl)
  all_goals refine ⟨_, ?_, bk3, ov3, rfl, hov3, rfl⟩
  all_goals (focus (repeat' first | exact Ext.one _ _ | exact Ext.here _ _ | apply Keep.cons | apply Keep.last); done)
/-- What is wrong with a kind and its place; the key for it. -/
def chE (k to : Int) : Int := if wayI k = 1 then (if 0 ≤ to ∧ to ≤ 3 then 0 else 10) else if wayI k = 3 then (if 1 ≤ to ∧ to ≤ 65535 then 0 else 10) else 13
def chK (s : List Int) (k to : Int) : List Int := if wayI k = 1 then seedI s to else senderI s to
theorem chK_len (s : List Int) (k to : Int) : (chK s k to).length = 32 := by
  unfold chK
  split <;> exact derive_len _ _ _
theorem chK_byt (s : List Int) (k to : Int) : Byt (chK s k to) := by
  unfold chK
  split <;> exact derive_byt _ _ _
def ChKey (s : List Int) (k to : Int) (v : Value) (L : Lst) : Prop := (chE k to ≠ 0 ∧ v = .tuple #[.pointer none, .int .i64 (chE k to)] ∧ L = []) ∨ (chE k to = 0 ∧ ∃ bk' ov, v = .tuple #[.pointer (some ⟨bk', 0, none⟩), .int .i64 0] ∧ OvOk 1 ov 32 (u8s (chK s k to)) ∧ L = KL bk' ov (chK s k to))
theorem chkeyG (bc bn br bb bd : Nat) (sd : List Value) (e1 : TypeId) (f1 : Nat × Nat) (c : Cl) (s : List Int) (hs : s.length = 32) (hsb : Byt s) (m1 m2 : Nat) (e : TypeId) (k to : Int) (w : World) (hc : w.heap[bc]? = some (.cells ⟨chC bn br bb bd sd⟩ e1 f1)) (hb : w.heap[br]? = some (.cells ⟨ringC c s m1 m2⟩ e (0, 0))) :
    CallM Tryz.prog 120 [.pointer (some ⟨bc, 0, none⟩), .int .i64 k, .int .i64 to] [] w (ChKey s k to) := by
  have hw := way_ok k
  unfold chC at hc
  by_cases h1 : wayI k = 1
  · rw [h1] at hw
    by_cases ht : 0 ≤ to ∧ to ≤ 3
    · have hE : chE k to = 0 := by unfold chE; rw [if_pos h1, if_pos ht]
      have hK : chK s k to = seedI s to := by unfold chK; rw [if_pos h1]
      unfold ChKey
      rw [hK]
      have hto := fun w1 (h : Chg [] w w1) => rseed_ok br c s hs hsb m1 m2 e to ht.1 ht.2 w1 (h.heap hb List.not_mem_nil)
      refine enterK (tb := tb) Tryz.func120 rfl Tryz.ntmps120 rfl ?_
      repeat' (first | (apply R.is1; first | (apply R.isBin; (apply R.pure; exact rfl; (apply Ok1.eql_t; exact rfl; exact rfl; omega))) | (apply R.isCall; first | apply R.callP rfl rfl rfl hw | (apply R.callE (vs := [.pointer (some ⟨br, 0, none⟩), .int .i64 to]); (iterate 3 exact rfl); exact Ext.none _; intro w1 hw1; exact hto w1 hw1.chg; rintro x Lo ⟨bk, ov, rfl, hov, rfl⟩)) | (apply R.pure; exact rfl; first | (apply Ok1.load; exact rfl; (apply Ld.blk1; exact rfl; exact rfl; exact hc; exact List.not_mem_nil; exact rfl)) | (apply Ok1.move; exact rfl) | (apply Ok1.fieldAddr; (iterate 5 exact rfl)) | (apply Ok1.assign; exact rfl) | (apply Ok1.extract; exact rfl; exact rfl) | (apply Ok1.nilCheck; exact rfl))) | apply R.nil | (apply T.is; first | apply T.seq | apply T.region | apply T.block | apply T.ret | (apply T.cond_t; exact rfl)))
      (apply RetOk.tt; exact rfl; exact rfl)
      exact ⟨_, by (focus (repeat' first | exact Ext.one _ _ | exact Ext.here _ _ | apply Keep.cons | apply Keep.last); done), .inr ⟨hE, bk, ov, rfl, hov, rfl⟩⟩
    · have hE : chE k to = 10 := by unfold chE; rw [if_pos h1, if_neg ht]
      have hto := fun w1 (h : Chg [] w w1) => rseed_off br c s hs m1 m2 e to (by omega) w1 (h.heap hb List.not_mem_nil)
      refine enterK (tb := tb) Tryz.func120 rfl Tryz.ntmps120 rfl ?_
      repeat' (first | (apply R.is1; first | (apply R.isBin; (apply R.pure; exact rfl; (apply Ok1.eql_t; exact rfl; exact rfl; omega))) | (apply R.isCall; first | apply R.callP rfl rfl rfl hw | (apply R.callE (vs := [.pointer (some ⟨br, 0, none⟩), .int .i64 to]); (iterate 3 exact rfl); exact Ext.none _; intro w1 hw1; exact hto w1 hw1.chg; rintro x Lo ⟨rfl, rfl⟩)) | (apply R.pure; exact rfl; first | (apply Ok1.load; exact rfl; (apply Ld.blk1; exact rfl; exact rfl; exact hc; exact List.not_mem_nil; exact rfl)) | (apply Ok1.move; exact rfl) | (apply Ok1.fieldAddr; (iterate 5 exact rfl)) | (apply Ok1.assign; exact rfl) | (apply Ok1.extract; exact rfl; exact rfl) | (apply Ok1.nilCheck; exact rfl))) | apply R.nil | (apply T.is; first | apply T.seq | apply T.region | apply T.block | apply T.ret | (apply T.cond_t; exact rfl)))
      (apply RetOk.tt; exact rfl; exact rfl)
      exact ⟨_, by (focus ((repeat' (exact Keep.nil _)); done)), .inl ⟨by rw [hE]; decide, by rw [hE], rfl⟩⟩
  by_cases h3 : wayI k = 3
  · rw [h3] at hw
    by_cases ht : 1 ≤ to ∧ to ≤ 65535
    · have hE : chE k to = 0 := by unfold chE; rw [if_neg h1, if_pos h3, if_pos ht]
      have hK : chK s k to = senderI s to := by unfold chK; rw [if_neg h1]
      unfold ChKey
      rw [hK]
      have hto := fun w1 (h : Chg [] w w1) => to_ok br c s hs hsb m1 m2 e to ht.1 ht.2 w1 (h.heap hb List.not_mem_nil)
      refine enterK (tb := tb) Tryz.func120 rfl Tryz.ntmps120 rfl ?_
      repeat' (first | (apply R.is1; first | (apply R.isBin; (apply R.pure; exact rfl; first | (apply Ok1.eql_t; exact rfl; exact rfl; omega) | (apply Ok1.eql_f; exact rfl; exact rfl; omega))) | (apply R.isCall; first | apply R.callP rfl rfl rfl hw | (apply R.callE (vs := [.pointer (some ⟨br, 0, none⟩), .int .i64 to]); (iterate 3 exact rfl); exact Ext.none _; intro w1 hw1; exact hto w1 hw1.chg; rintro x Lo ⟨bk, ov, rfl, hov, rfl⟩)) | (apply R.pure; exact rfl; first | (apply Ok1.load; exact rfl; (apply Ld.blk1; exact rfl; exact rfl; exact hc; exact List.not_mem_nil; exact rfl)) | (apply Ok1.move; exact rfl) | (apply Ok1.fieldAddr; (iterate 5 exact rfl)) | (apply Ok1.assign; exact rfl) | (apply Ok1.extract; exact rfl; exact rfl) | (apply Ok1.nilCheck; exact rfl))) | apply R.nil | (apply T.is; first | apply T.seq | apply T.region | apply T.block | apply T.ret | (apply T.cond_t; exact rfl) | (apply T.cond_f; exact rfl)))
      (apply RetOk.tt; exact rfl; exact rfl)
      exact ⟨_, by (focus (repeat' first | exact Ext.one _ _ | exact Ext.here _ _ | apply Keep.cons | apply Keep.last); done), .inr ⟨hE, bk, ov, rfl, hov, rfl⟩⟩
    · have hE : chE k to = 10 := by unfold chE; rw [if_neg h1, if_pos h3, if_neg ht]
      have hto := fun w1 (h : Chg [] w w1) => to_off br c s hs m1 m2 e to (by omega) w1 (h.heap hb List.not_mem_nil)
      refine enterK (tb := tb) Tryz.func120 rfl Tryz.ntmps120 rfl ?_
      repeat' (first | (apply R.is1; first | (apply R.isBin; (apply R.pure; exact rfl; first | (apply Ok1.eql_t; exact rfl; exact rfl; omega) | (apply Ok1.eql_f; exact rfl; exact rfl; omega))) | (apply R.isCall; first | apply R.callP rfl rfl rfl hw | (apply R.callE (vs := [.pointer (some ⟨br, 0, none⟩), .int .i64 to]); (iterate 3 exact rfl); exact Ext.none _; intro w1 hw1; exact hto w1 hw1.chg; rintro x Lo ⟨rfl, rfl⟩)) | (apply R.pure; exact rfl; first | (apply Ok1.load; exact rfl; (apply Ld.blk1; exact rfl; exact rfl; exact hc; exact List.not_mem_nil; exact rfl)) | (apply Ok1.move; exact rfl) | (apply Ok1.fieldAddr; (iterate 5 exact rfl)) | (apply Ok1.assign; exact rfl) | (apply Ok1.extract; exact rfl; exact rfl) | (apply Ok1.nilCheck; exact rfl))) | apply R.nil | (apply T.is; first | apply T.seq | apply T.region | apply T.block | apply T.ret | (apply T.cond_t; exact rfl) | (apply T.cond_f; exact rfl)))
      (apply RetOk.tt; exact rfl; exact rfl)
      exact ⟨_, by (focus ((repeat' (exact Keep.nil _)); done)), .inl ⟨by rw [hE]; decide, by rw [hE], rfl⟩⟩
  · have hE : chE k to = 13 := by unfold chE; rw [if_neg h1, if_neg h3]
    generalize wayI k = wk at *
    refine enterK (tb := tb) Tryz.func120 rfl Tryz.ntmps120 rfl ?_
    repeat' (first | (apply R.is1; first | (apply R.isBin; (apply R.pure; exact rfl; (apply Ok1.eql_f; exact rfl; exact rfl; omega))) | (apply R.isCall; apply R.callP rfl rfl rfl hw) | (apply R.pure; exact rfl; first | (apply Ok1.move; exact rfl) | (apply Ok1.assign; exact rfl))) | apply R.nil | (apply T.is; first | apply T.seq | apply T.region | apply T.block | apply T.skip | apply T.ret | (apply T.cond_f; exact rfl)))
    all_goals (apply RetOk.tt; exact rfl; exact rfl)
    all_goals exact ⟨_, by (focus ((repeat' (exact Keep.nil _)); done)), .inl ⟨by rw [hE]; decide, by rw [hE], rfl⟩⟩
/-- What is wrong with what is to be written; its bytes. -/
def wrE (k to : Int) (n : Nat) : Int := if chE k to ≠ 0 then chE k to else if 512 < n then 2 else 0
def wrT (s : List Int) (k : Int) (c : Cl) (to boot n : Int) (body : List Int) : List Int := if k = 1 then zI 32 else pkT (chK s k to) k c to boot n body
def wrG (c : Cl) (s : List Int) (k to boot n : Int) (body : List Int) : List Int := pkB k c to boot n body (wrT s k c to boot n body)
theorem wrT_len (s : List Int) (k : Int) (c : Cl) (to boot n : Int) (body : List Int) : (wrT s k c to boot n body).length = 32 := by
  unfold wrT
  split
  · rfl
  · unfold pkT; exact hmac_len _ _
theorem way_kind {k : Int} (h : wayI k = 1 ∨ wayI k = 3) : 0 < k ∧ k < 15 ∧ k ≠ 2 := by
  unfold wayI at h
  (repeat' split at h) <;> omega
theorem chE_zero {k to : Int} (h : chE k to = 0) : (0 < k ∧ k < 15 ∧ k ≠ 2) ∧ 0 ≤ to ∧ to ≤ 65535 := by
  unfold chE at h
  by_cases h1 : wayI k = 1
  · rw [if_pos h1] at h
    by_cases ht : 0 ≤ to ∧ to ≤ 3
    · exact ⟨way_kind (.inl h1), by omega, by omega⟩
    · rw [if_neg ht] at h; exact absurd h (by decide)
  · rw [if_neg h1] at h
    by_cases h3 : wayI k = 3
    · rw [if_pos h3] at h
      by_cases ht : 1 ≤ to ∧ to ≤ 65535
      · exact ⟨way_kind (.inr h3), by omega, by omega⟩
      · rw [if_neg ht] at h; exact absurd h (by decide)
    · rw [if_neg h3] at h; exact absurd h (by decide)
theorem wr_check {k to : Int} {n : Nat} (h : wrE k to n = 0) {c : Cl} (hr : c.right) {boot cnt : Int} (hn : NR boot cnt) (s body : List Int) : pckE k c to boot cnt n (wrT s k c to boot cnt body) = 0 := by
  unfold wrE at h
  by_cases h0 : chE k to = 0
  · rw [if_neg (fun g => g h0)] at h
    by_cases h5 : 512 < n
    · rw [if_pos h5] at h; exact absurd h (by decide)
    obtain ⟨hk, ht⟩ := chE_zero h0
    unfold pckE
    rw [if_neg (fun g => g ⟨hk.1, hk.2.1⟩), if_neg (fun g => g ⟨hr, ht.1, ht.2, hn⟩), if_neg h5]
    by_cases h1 : k = 1
    · have : wrT s k c to boot cnt body = zI 32 := by unfold wrT; rw [if_pos h1]
      rw [this, if_neg (fun g => g.2 rfl)]
    · rw [if_neg (fun g => by have := g.1; omega)]
  · rw [if_pos h0] at h; exact absurd h h0
def ChWr (bn : Nat) (c : Cl) (s : List Int) (k to boot cnt : Int) (n : Nat) (body : List Int) (v : Value) (L : Lst) : Prop := (wrE k to n ≠ 0 ∧ v = .tuple #[.slice none 0 0, .int .i64 (wrE k to n)] ∧ L = [(bn, .cells ⟨[.int .i64 boot, .int .i64 cnt]⟩ 324 (0, 0))]) ∨ (wrE k to n = 0 ∧ ∃ ov, OvOk 1 ov (wrG c s k to boot (cnt + 1) body).length (u8s (wrG c s k to boot (cnt + 1) body)) ∧ v = .tuple #[slV ov (wrG c s k to boot (cnt + 1) body).length, .int .i64 0] ∧ L = (bn, .cells ⟨[.int .i64 boot, .int .i64 (cnt + 1)]⟩ 324 (0, 0)) :: blkL 5 ov (u8s (wrG c s k to boot (cnt + 1) body)))
theorem chwriteG (bc bn br bb bd : Nat) (sd : List Value) (e1 : TypeId) (f1 : Nat × Nat) (c : Cl) (hr : c.right) (s : List Int) (hs : s.length = 32) (hsb : Byt s) (m1 m2 : Nat) (e : TypeId) (k to : Int) (boot cnt : Int) (hnr : NR boot (cnt + 1)) (h0 : 0 ≤ cnt) (p : Option Addr) (n cap : Nat) (body : List Int) (hn : n = body.length) (hbb : Byt body) (w : World) (hc : w.heap[bc]? = some (.cells ⟨chC bn br bb bd sd⟩ e1 f1)) (hb : w.heap[br]? = some (.cells ⟨ringC c s m1 m2⟩ e (0, 0))) (hne1 : bc ≠ bn) (hne2 : br ≠ bn) (hbd : RdSl w p u8V body) (hq : body ≠ [] → Off p [bn]) :
    CallM Tryz.prog 43 [.pointer (some ⟨bc, 0, none⟩), .int .i64 k, .int .i64 to, .slice p n cap] [(bn, .cells ⟨[.int .i64 boot, .int .i64 cnt]⟩ 324 (0, 0))] w (ChWr bn c s k to boot cnt n body) := by
  have h3 : cnt < 2147483647 := by unfold NR at hnr; omega
  have hm1 : bc ∉ [bn] := by simpa using hne1
  have hm2 : br ∉ [bn] := by simpa using hne2
  have hky := fun w1 (h : Chg [bn] w w1) => chkeyG bc bn br bb bd sd e1 f1 c s hs hsb m1 m2 e k to w1 (h.heap hc hm1) (h.heap hb hm2)
  by_cases hE0 : chE k to = 0
  case neg =>
    have hw : wrE k to n = chE k to := by unfold wrE; rw [if_pos hE0]
    have hky2 := fun w1 h => (hky w1 h).imp (R' := fun v L => v = .tuple #[.pointer none, .int .i64 (chE k to)] ∧ L = []) (by rintro v L (⟨_, g⟩ | ⟨g, _⟩); exact g; exact absurd g hE0)
    clear hky
    unfold ChWr
    rw [hw]
    generalize chE k to = E at *
    refine enterK (tb := tb) Tryz.func43 rfl Tryz.ntmps43 rfl ?_
    repeat' (first | (apply R.is1; first | (apply R.isBin; (apply R.pure; exact rfl; first | (apply Ok1.eqlP; (iterate 5 exact rfl)) | (apply Ok1.neq_t; exact rfl; exact rfl; omega))) | (apply R.isCall; (apply R.callE (vs := [.pointer (some ⟨bc, 0, none⟩), .int .i64 k, .int .i64 to]); (iterate 3 exact rfl); exact Ext.none _; intro w1 hw1; exact hky2 w1 hw1.chg; rintro x Lo ⟨rfl, rfl⟩)) | (apply R.pure; exact rfl; first | (apply Ok1.move; exact rfl) | (apply Ok1.assign; exact rfl) | (apply Ok1.extract; exact rfl; exact rfl))) | apply R.nil | (apply T.is; first | apply T.seq | apply T.region | apply T.block | apply T.skip | apply T.ret | (apply T.cond_t; exact rfl) | (apply T.cond_f; exact rfl)))
    all_goals (apply RetOk.tt; exact rfl; exact rfl)
    all_goals exact ⟨_, by (focus (repeat' first | exact Keep.nil _ | exact Ext.one _ _ | apply Keep.cons); done), .inl ⟨hE0, rfl, rfl⟩⟩
  have hky2 := fun w1 h => (hky w1 h).imp (R' := fun v L => ∃ bk' ov, v = .tuple #[.pointer (some ⟨bk', 0, none⟩), .int .i64 0] ∧ OvOk 1 ov 32 (u8s (chK s k to)) ∧ L = KL bk' ov (chK s k to)) (by rintro v L (⟨g, _⟩ | ⟨_, g⟩); exact absurd hE0 g; exact g)
  clear hky
  have hKl := chK_len s k to
  have hKb := chK_byt s k to
  by_cases h5 : 512 < n
  · have hw : wrE k to n = 2 := by unfold wrE; rw [if_neg (fun g => g hE0), if_pos h5]
    unfold ChWr
    rw [hw]
    generalize chK s k to = SD at *
    refine enterK (tb := tb) Tryz.func43 rfl Tryz.ntmps43 rfl ?_
    repeat' (first | (apply R.is1; first | (apply R.isBin; (apply R.pure; exact rfl; first | (apply Ok1.eqlP; (iterate 5 exact rfl)) | (apply Ok1.gtr_t; exact rfl; exact rfl; omega) | (apply Ok1.neq_f; exact rfl; exact rfl; omega))) | (apply R.isCall; first | (apply R.callE (vs := [.pointer (some ⟨bc, 0, none⟩), .int .i64 k, .int .i64 to]); (iterate 3 exact rfl); exact Ext.none _; intro w1 hw1; exact hky2 w1 hw1.chg; rintro x Lo ⟨bk, ovk, rfl, hovk, rfl⟩) | (apply R.pure; exact rfl; (apply Ok1.lenS; (iterate 3 exact rfl)))) | (apply R.pure; exact rfl; first | (apply Ok1.move; exact rfl) | (apply Ok1.assign; exact rfl) | (apply Ok1.extract; exact rfl; exact rfl))) | apply R.nil | (apply T.is; first | apply T.seq | apply T.region | apply T.block | apply T.skip | apply T.ret | (apply T.cond_t; exact rfl) | (apply T.cond_f; exact rfl)))
    all_goals (apply RetOk.tt; exact rfl; exact rfl)
    all_goals exact ⟨_, by (focus (repeat' first | exact Keep.nil _ | exact Ext.one _ _ | apply Keep.cons | apply Ext.cons | apply Ext.app); done), .inl ⟨by decide, rfl, rfl⟩⟩
  have hw : wrE k to n = 0 := by unfold wrE; rw [if_neg (fun g => g hE0), if_neg h5]
  have hck := wr_check hw hr hnr s body
  have hwl := wrT_len s k c to boot (cnt + 1) body
  obtain ⟨hkk, htt⟩ := chE_zero hE0
  have hz : (zI 32).length = 32 := rfl
  have how := fun w1 (h : Chg [bn] w w1) => chown_ok bc bn br bb bd sd e1 f1 c s hs m1 m2 e w1 (h.heap hc hm1) (h.heap hb hm2)
  have hpl := pplain_ok k
  unfold ChWr
  rw [hw]
  unfold wrG
  by_cases h1 : k = 1
  · have hT : wrT s k c to boot (cnt + 1) body = zI 32 := by unfold wrT; rw [if_pos h1]
    rw [hT] at hck ⊢
    rw [decide_eq_true (.inl h1)] at hpl
    have hby := fun w1 (h : Chg [bn] w w1) => pbytes_ok k c to boot (cnt + 1) p n cap (zI 32) body hz hck hn w1 (hbd.chg' h hq)
    have hl1 := pk_len k c to boot (cnt + 1) p n cap hz
    have ho1 := pk_one k c to boot (cnt + 1) p n cap (zI 32)
    generalize pkB k c to boot (cnt + 1) body (zI 32) = PB at *
    generalize chK s k to = SD at *
    refine enterK (tb := tb) Tryz.func43 rfl Tryz.ntmps43 rfl ?_
    simp only [pkC] at hl1 ho1 hby
    repeat' (first | (apply R.is1; first | (apply R.isBin; (apply R.pure; exact rfl; first | (apply Ok1.eqlP; (iterate 5 exact rfl)) | (apply Ok1.gtr_f; exact rfl; exact rfl; omega) | (apply Ok1.neq_f; exact rfl; exact rfl; omega))) | (apply R.isCall; first | (apply R.callE (vs := [.pointer (some ⟨bc, 0, none⟩), .int .i64 k, .int .i64 to]); (iterate 3 exact rfl); exact Ext.none _; intro w1 hw1; exact hky2 w1 hw1.chg; rintro x Lo ⟨bk, ovk, rfl, hovk, rfl⟩) | (apply R.pure; exact rfl; (apply Ok1.lenS; (iterate 3 exact rfl)))) | (apply R.pure; exact rfl; first | (apply Ok1.load; exact rfl; (apply Ld.blk1; exact rfl; exact rfl; exact hc; exact hm1; exact rfl)) | (apply Ok1.move; exact rfl) | (apply Ok1.fieldAddr; (iterate 5 exact rfl)) | (apply Ok1.assign; exact rfl) | (apply Ok1.extract; exact rfl; exact rfl) | (apply Ok1.nilCheck; exact rfl))) | apply R.nil | (apply T.is; first | apply T.seq | apply T.region | apply T.block | apply T.skip | (apply T.cond_f; exact rfl)))
    generalize KL bk ovk SD = KK at *
    repeat' (first | (apply R.is1; first | (apply R.isBin; (apply R.pure; exact rfl; (apply Ok1.neq_f; exact rfl; exact rfl; omega))) | (apply R.isCall; (apply R.callE (Li := [(bn, .cells ⟨[.int .i64 boot, .int .i64 cnt]⟩ 324 (0, 0))]) (vs := [.pointer (some ⟨bn, 0, none⟩)]); (iterate 3 exact rfl); (focus (repeat' first | exact Ext.one _ _ | apply Ext.app); done); intro w1 hw1; exact wnext_ok bn boot cnt h0 h3 w1; rintro x Lo ⟨rfl, rfl⟩)) | (apply R.pure; exact rfl; first | (apply Ok1.move; exact rfl) | (apply Ok1.assign; exact rfl) | (apply Ok1.extract; exact rfl; exact rfl)) | (apply R.alloc; (iterate 3 exact rfl); intro)) | (apply R.is0; (apply R.store; (iterate 6 exact rfl); exact Upd.head; exact rfl)) | apply R.nil | (apply T.is; first | (apply T.drawC (id := 11) [0] (by decide); ((apply A.tk 0; exact rfl; kernel_rfl; (apply Ok1.move; exact rfl)) <;> (apply A.tk 1; exact rfl; kernel_rfl; (apply Ok1.move; exact rfl)) <;> (apply A.tk 3; exact rfl; kernel_rfl; (apply Ok1.move; exact rfl)) <;> (apply A.tk 4; exact rfl; kernel_rfl; (apply Ok1.load; exact rfl; (apply Ld.ownk; exact rfl; exact rfl; exact At.head; exact rfl))) <;> (apply A.tk 5; exact rfl; kernel_rfl; (apply Ok1.move; exact rfl)) <;> (apply A.two 2 7; kernel_rfl; exact rfl; exact rfl; rotate_left 1; (focus (((((apply R.alloc; (iterate 3 exact rfl); intro))); apply R.nil; refine ⟨?_, ?_⟩; (focus (repeat' first | exact trivial | exact At.head | apply At.tail | refine ⟨?_, ?_⟩))) <;> (apply A.one 2; kernel_rfl; exact rfl; (((apply R.callE (vs := [.pointer (some ⟨bc, 0, none⟩)]); (iterate 3 exact rfl); exact Ext.none _; intro w1 hw1; exact how w1 hw1.chg; rintro x Lo ⟨rfl, rfl⟩))); apply R.nil; refine ⟨?_, ?_⟩; (focus (repeat' first | exact trivial | exact At.head | apply At.tail | refine ⟨?_, ?_⟩))) <;> (apply A.tk 6; exact rfl; kernel_rfl; (apply Ok1.build; (iterate 5 exact rfl))) <;> (apply A.one 8; kernel_rfl; exact rfl; (((apply R.store; (iterate 6 exact rfl); exact Upd.head; exact rfl))); apply R.nil; refine ⟨?_, ?_⟩; (focus (repeat' first | exact trivial | exact At.head | apply At.tail | refine ⟨?_, ?_⟩))) <;> (apply A.done; kernel_rfl))); rotate_right 1; (focus (((((apply R.callE (vs := [.pointer (some ⟨bc, 0, none⟩)]); (iterate 3 exact rfl); exact Ext.none _; intro w1 hw1; exact how w1 hw1.chg; rintro x Lo ⟨rfl, rfl⟩))); apply R.nil; refine ⟨?_, ?_⟩; (focus ((repeat' (first | exact trivial | (refine ⟨?_, ?_⟩; exact At.head)))))) <;> (apply A.tk 6; exact rfl; kernel_rfl; (apply Ok1.build; (iterate 5 exact rfl))) <;> (apply A.one 7; kernel_rfl; exact rfl; (((apply R.alloc; (iterate 3 exact rfl); intro))); apply R.nil; refine ⟨?_, ?_⟩; (focus (repeat' first | exact trivial | exact At.head | apply At.tail | refine ⟨?_, ?_⟩))) <;> (apply A.one 8; kernel_rfl; exact rfl; (((apply R.store; (iterate 6 exact rfl); exact Upd.head; exact rfl))); apply R.nil; refine ⟨?_, ?_⟩; (focus (repeat' first | exact trivial | exact At.head | apply At.tail | refine ⟨?_, ?_⟩))) <;> (apply A.done; kernel_rfl)))))) | apply T.seq | apply T.region | apply T.skip | (apply T.cond_f; exact rfl)))
    all_goals repeat' (first | (apply R.is1; first | (apply R.isCall; first | apply R.callP rfl rfl rfl hpl | (apply R.callE (vs := [.agg _]); (iterate 3 exact rfl); exact Ext.none _; intro w1 hw1; exact hby w1 hw1.chg; rintro x Lo ⟨ovb, hovb, rfl, rfl⟩)) | (apply R.pure; exact rfl; first | (apply Ok1.load; exact rfl; (apply Ld.ownk; exact rfl; exact rfl; exact At.head; exact rfl)) | (apply Ok1.assign; exact rfl) | (apply Ok1.extract; exact rfl; exact rfl) | (apply Ok1.not_t; exact rfl))) | apply R.nil | (apply T.is; first | apply T.seq | apply T.region | apply T.skip | apply T.ret | (apply T.cond_f; exact rfl)))
    all_goals (apply RetOk.tt; exact rfl; exact rfl)
    all_goals exact ⟨_, by (focus (repeat' first | exact Ext.one _ _ | exact Ext.here _ _ | apply Keep.cons | apply Keep.last | apply Ext.cons | apply Ext.app); done), .inr ⟨rfl, ovb, hovb, rfl, rfl⟩⟩
  · have hT : wrT s k c to boot (cnt + 1) body = pkT (chK s k to) k c to boot (cnt + 1) body := by unfold wrT; rw [if_neg h1]
    have hnp : ¬ (k = 1 ∨ k = 2) := by omega
    have hE : pckE k c to boot (cnt + 1) n (zI 32) = 0 := by rw [pckE_np _ (wrT s k c to boot (cnt + 1) body) hnp]; exact hck
    rw [hT] at hck hwl ⊢
    rw [decide_eq_false hnp] at hpl
    have htg := fun bk w1 (h : Chg [bn] w w1) hK => ptagged_ok k c to boot (cnt + 1) p n cap (zI 32) body hz hnp hE hn hbb bk (chK s k to) (by rw [hKl]; decide) hKb w1 hK (hbd.chg' h hq)
    have hby := fun p2 cap2 w1 h => pbytes_ok k c to boot (cnt + 1) p2 n cap2 (pkT (chK s k to) k c to boot (cnt + 1) body) body hwl hck hn w1 h
    have hl1 := fun p2 cap2 => pk_len k c to boot (cnt + 1) p2 n cap2 hwl
    have ho1 := fun p2 cap2 => pk_one k c to boot (cnt + 1) p2 n cap2 (pkT (chK s k to) k c to boot (cnt + 1) body)
    generalize pkT (chK s k to) k c to boot (cnt + 1) body = TG at *
    generalize pkB k c to boot (cnt + 1) body TG = PB at *
    generalize hSD : chK s k to = SD at *
    refine enterK (tb := tb) Tryz.func43 rfl Tryz.ntmps43 rfl ?_
    simp only [pkC] at hl1 ho1 htg hby
    repeat' (first | (apply R.is1; first | (apply R.isBin; (apply R.pure; exact rfl; first | (apply Ok1.eqlP; (iterate 5 exact rfl)) | (apply Ok1.gtr_f; exact rfl; exact rfl; omega) | (apply Ok1.neq_f; exact rfl; exact rfl; omega))) | (apply R.isCall; first | (apply R.callE (vs := [.pointer (some ⟨bc, 0, none⟩), .int .i64 k, .int .i64 to]); (iterate 3 exact rfl); exact Ext.none _; intro w1 hw1; exact hky2 w1 hw1.chg; rintro x Lo ⟨bk, ovk, rfl, hovk, rfl⟩) | (apply R.pure; exact rfl; (apply Ok1.lenS; (iterate 3 exact rfl)))) | (apply R.pure; exact rfl; first | (apply Ok1.load; exact rfl; (apply Ld.blk1; exact rfl; exact rfl; exact hc; exact hm1; exact rfl)) | (apply Ok1.move; exact rfl) | (apply Ok1.fieldAddr; (iterate 5 exact rfl)) | (apply Ok1.assign; exact rfl) | (apply Ok1.extract; exact rfl; exact rfl) | (apply Ok1.nilCheck; exact rfl))) | apply R.nil | (apply T.is; first | apply T.seq | apply T.region | apply T.block | apply T.skip | (apply T.cond_f; exact rfl)))
    have hovk2 : OvOk 1 ovk SD.length (u8s SD) := by rw [hKl]; exact hovk
    have hkr : ∀ L w1, Hp w [bn] L w1 → (∀ z ∈ KL bk ovk SD, z ∈ L) → KeyR w1 bk SD := fun L w1 h4 h5 => KeyR.of hovk2 h4 h5
    generalize KL bk ovk SD = KK at hkr ⊢
    repeat' (first | (apply R.is1; first | (apply R.isBin; (apply R.pure; exact rfl; (apply Ok1.neq_f; exact rfl; exact rfl; omega))) | (apply R.isCall; (apply R.callE (Li := [(bn, .cells ⟨[.int .i64 boot, .int .i64 cnt]⟩ 324 (0, 0))]) (vs := [.pointer (some ⟨bn, 0, none⟩)]); (iterate 3 exact rfl); (focus (repeat' first | exact Ext.one _ _ | apply Ext.app); done); intro w1 hw1; exact wnext_ok bn boot cnt h0 h3 w1; rintro x Lo ⟨rfl, rfl⟩)) | (apply R.pure; exact rfl; first | (apply Ok1.move; exact rfl) | (apply Ok1.assign; exact rfl) | (apply Ok1.extract; exact rfl; exact rfl)) | (apply R.alloc; (iterate 3 exact rfl); intro)) | (apply R.is0; (apply R.store; (iterate 6 exact rfl); exact Upd.head; exact rfl)) | apply R.nil | (apply T.is; first | (apply T.drawC (id := 11) [0] (by decide); ((apply A.tk 0; exact rfl; kernel_rfl; (apply Ok1.move; exact rfl)) <;> (apply A.tk 1; exact rfl; kernel_rfl; (apply Ok1.move; exact rfl)) <;> (apply A.tk 3; exact rfl; kernel_rfl; (apply Ok1.move; exact rfl)) <;> (apply A.tk 4; exact rfl; kernel_rfl; (apply Ok1.load; exact rfl; (apply Ld.ownk; exact rfl; exact rfl; exact At.head; exact rfl))) <;> (apply A.tk 5; exact rfl; kernel_rfl; (apply Ok1.move; exact rfl)) <;> (apply A.two 2 7; kernel_rfl; exact rfl; exact rfl; rotate_left 1; (focus (((((apply R.alloc; (iterate 3 exact rfl); intro))); apply R.nil; refine ⟨?_, ?_⟩; (focus (repeat' first | exact trivial | exact At.head | apply At.tail | refine ⟨?_, ?_⟩))) <;> (apply A.one 2; kernel_rfl; exact rfl; (((apply R.callE (vs := [.pointer (some ⟨bc, 0, none⟩)]); (iterate 3 exact rfl); exact Ext.none _; intro w1 hw1; exact how w1 hw1.chg; rintro x Lo ⟨rfl, rfl⟩))); apply R.nil; refine ⟨?_, ?_⟩; (focus (repeat' first | exact trivial | exact At.head | apply At.tail | refine ⟨?_, ?_⟩))) <;> (apply A.tk 6; exact rfl; kernel_rfl; (apply Ok1.build; (iterate 5 exact rfl))) <;> (apply A.one 8; kernel_rfl; exact rfl; (((apply R.store; (iterate 6 exact rfl); exact Upd.head; exact rfl))); apply R.nil; refine ⟨?_, ?_⟩; (focus (repeat' first | exact trivial | exact At.head | apply At.tail | refine ⟨?_, ?_⟩))) <;> (apply A.done; kernel_rfl))); rotate_right 1; (focus (((((apply R.callE (vs := [.pointer (some ⟨bc, 0, none⟩)]); (iterate 3 exact rfl); exact Ext.none _; intro w1 hw1; exact how w1 hw1.chg; rintro x Lo ⟨rfl, rfl⟩))); apply R.nil; refine ⟨?_, ?_⟩; (focus ((repeat' (first | exact trivial | (refine ⟨?_, ?_⟩; exact At.head)))))) <;> (apply A.tk 6; exact rfl; kernel_rfl; (apply Ok1.build; (iterate 5 exact rfl))) <;> (apply A.one 7; kernel_rfl; exact rfl; (((apply R.alloc; (iterate 3 exact rfl); intro))); apply R.nil; refine ⟨?_, ?_⟩; (focus (repeat' first | exact trivial | exact At.head | apply At.tail | refine ⟨?_, ?_⟩))) <;> (apply A.one 8; kernel_rfl; exact rfl; (((apply R.store; (iterate 6 exact rfl); exact Upd.head; exact rfl))); apply R.nil; refine ⟨?_, ?_⟩; (focus (repeat' first | exact trivial | exact At.head | apply At.tail | refine ⟨?_, ?_⟩))) <;> (apply A.done; kernel_rfl)))))) | apply T.seq | apply T.region | apply T.skip | (apply T.cond_f; exact rfl)))
    all_goals repeat' (first | (apply R.is1; first | (apply R.isBin; (apply R.pure; exact rfl; (apply Ok1.neq_f; exact rfl; exact rfl; omega))) | (apply R.isCall; first | apply R.callP rfl rfl rfl hpl | (apply R.callE (vs := [.agg _, .pointer (some ⟨bk, 0, none⟩)]); (iterate 3 exact rfl); exact Ext.none _; intro w1 hw1; exact htg bk w1 hw1.chg (hkr _ w1 hw1 (Ext.mem (by (focus (repeat' first | exact Ext.here _ _ | apply Ext.cons | apply Ext.app); done)))); rintro x Lo ⟨ovt, hovt, rfl, rfl⟩) | (apply R.callE (vs := [.agg _]); (iterate 3 exact rfl); exact Ext.none _; intro w1 hw1; exact hby (ovp ovt) (ovc ovt n) w1 (RdSl.own' hw1 (Ext.mem (by rw [fl_u8]; (focus ((repeat' (exact Ext.here _ _)); done)))) (by rw [fl_u8, ← hn]; exact hovt) u8V_len); rintro x Lo ⟨ovb, hovb, rfl, rfl⟩)) | (apply R.pure; exact rfl; first | (apply Ok1.load; exact rfl; first | (apply Ld.ownk; exact rfl; exact rfl; (focus (repeat' first | exact At.head | apply At.right); done); exact rfl) | (apply Ld.ownk; exact rfl; exact rfl; (focus (repeat' first | exact At.head | apply At.right); done); exact subE_all (hl1 _ _))) | (apply Ok1.move; exact rfl) | (apply Ok1.assign; exact rfl) | (apply Ok1.extract; exact rfl; exact rfl) | (apply Ok1.not_f; exact rfl))) | (apply R.is0; (apply R.store; (iterate 4 exact rfl); exact (hl1 _ _); exact (ho1 _ _); (focus (repeat' first | exact Upd.head | apply Upd.right); done); exact setE_all (hl1 _ _))) | apply R.nil | (apply T.is; first | apply T.seq | apply T.region | apply T.skip | apply T.ret | (apply T.cond_t; exact rfl) | (apply T.cond_f; exact rfl)))
    all_goals (apply RetOk.tt; exact rfl; exact rfl)
    all_goals exact ⟨_, by (focus (repeat' first | exact Ext.one _ _ | exact Ext.here _ _ | apply Keep.cons | apply Keep.last | apply Ext.cons | apply Ext.app); done), .inr ⟨rfl, ovb, hovb, rfl, rfl⟩⟩
theorem vtwo_ok (n : Int) (h0 : 0 ≤ n) (h1 : n ≤ 65535) (w : World) : CallM Tryz.prog 265 [.int .i64 n] [] w fun v L => ∃ ov, OvOk 1 ov 2 (u8s (numI 1 n)) ∧ v = slV ov 2 ∧ L = blkL 5 ov (u8s (numI 1 n)) := by
  have o1 := fun w1 => vout_ok 1 (by decide) n h0 (by omega) w1
  rw [show beI (2 ^ 1) n [] = numI 1 n from rfl] at o1
  generalize numI 1 n = N at *
  refine enterK (tb := tb) Tryz.func265 rfl Tryz.ntmps265 rfl ?_
  repeat' (first | (apply R.is1; first | (apply R.isCall; (apply R.callE (vs := [.agg ⟨[.int .i64 1, .int .i64 n, .slice none 0 0]⟩]); (iterate 3 exact rfl); exact Ext.none _; intro w1 hw1; exact o1 w1; rintro v Lo ⟨ova, hova, rfl, rfl⟩)) | (apply R.pure; exact rfl; first | (apply Ok1.move; exact rfl) | (apply Ok1.assign; exact rfl) | (apply Ok1.build; (iterate 5 exact rfl)))) | apply R.nil | (apply T.is; first | apply T.seq | apply T.region | apply T.ret))
  (apply RetOk.t; exact rfl)
  exact ⟨_, by (focus (repeat' first | exact Ext.here _ _ | apply Keep.last); done), ova, hova, rfl, rfl⟩
theorem vfour_ok (n : Int) (h0 : 0 ≤ n) (h1 : n ≤ 4294967295) (w : World) : CallM Tryz.prog 266 [.int .i64 n] [] w fun v L => ∃ ov, OvOk 1 ov 4 (u8s (numI 2 n)) ∧ v = slV ov 4 ∧ L = blkL 5 ov (u8s (numI 2 n)) := by
  have o1 := fun w1 => vout_ok 2 (by decide) n h0 (by omega) w1
  rw [show beI (2 ^ 2) n [] = numI 2 n from be4 n] at o1
  generalize numI 2 n = N at *
  refine enterK (tb := tb) Tryz.func266 rfl Tryz.ntmps266 rfl ?_
  repeat' (first | (apply R.is1; first | (apply R.isCall; (apply R.callE (vs := [.agg ⟨[.int .i64 2, .int .i64 n, .slice none 0 0]⟩]); (iterate 3 exact rfl); exact Ext.none _; intro w1 hw1; exact o1 w1; rintro v Lo ⟨ova, hova, rfl, rfl⟩)) | (apply R.pure; exact rfl; first | (apply Ok1.move; exact rfl) | (apply Ok1.assign; exact rfl) | (apply Ok1.build; (iterate 5 exact rfl)))) | apply R.nil | (apply T.is; first | apply T.seq | apply T.region | apply T.ret))
  (apply RetOk.t; exact rfl)
  exact ⟨_, by (focus (repeat' first | exact Ext.here _ _ | apply Keep.last); done), ova, hova, rfl, rfl⟩
theorem pkH_form (k : Int) (c : Cl) (to a b : Int) (body : List Int) (h0 : 0 ≤ k) (h1 : k ≤ 255) : u8s (pkH k c to a b body) = ((((((u8s [k] ++ u8s (clI c)) ++ u8s (numI 1 to)) ++ u8s (numI 1 a)) ++ u8s (numI 2 b)) ++ u8s (numI 1 body.length)) ++ u8s body) := by
  have e : numI 0 k = [k] := by
    show [k % 256] = [k]
    rw [Int.emod_eq_of_lt h0 (by omega)]
  have hn : nbI a b = numI 1 a ++ numI 2 b := rfl
  unfold pkH
  rw [e, hn]
  simp only [u8s_app, List.append_assoc]
theorem ov_some9 {sz n : Nat} {ov : Ov} {xs : List Value} (h : OvOk sz ov n xs) (hn : 0 < n) : ov.isSome = true := by
  cases ov with
  | some _ => rfl
  | none =>
    have h2 : n = 0 := h.2
    omega
theorem vhead14_ok (k : Int) (c : Cl) (to a b : Int) (p : Option Addr) (n cap : Nat) (t : List Int) (body : List Int) (ht : t.length = 32) (h0 : 0 ≤ k) (h1 : k ≤ 255) (hr : c.right) (ht0 : 0 ≤ to) (ht1 : to ≤ 65535) (hnr : NR a b) (hn : n = body.length) (hl : n ≤ 512) (w : World) (hb : RdSl w p u8V body) :
    CallM Tryz.prog 244 [.agg ⟨pkC k c to a b p n cap t⟩] [] w fun v L => ∃ ov, OvOk 1 ov (20 + n) (u8s (pkH k c to a b body)) ∧ ov.isSome = true ∧ v = slV ov (20 + n) ∧ L = blkL 5 ov (u8s (pkH k c to a b body)) := by
  unfold NR at hnr
  have hf := pkH_form k c to a b body h0 h1
  rw [← hn] at hf
  rw [hf]
  have o0 := fun w1 => vcbytes_ok c hr w1
  have o1 := fun w1 => vtwo_ok to ht0 ht1 w1
  have o2 := fun w1 => vtwo_ok a (by omega) (by omega) w1
  have o3 := fun w1 => vfour_ok b (by omega) (by omega) w1
  have o4 := fun w1 => vtwo_ok n (by omega) (by omega) w1
  have hrd := fun w1 (hc : Chg [] w w1) => hb.chg' hc (fun _ => Off.nil _)
  clear hf
  generalize numI 1 to = N1 at *
  generalize numI 1 a = N2 at *
  generalize numI 2 b = N3 at *
  generalize numI 1 (n : Int) = N4 at *
  refine enterK (tb := tb) Tryz.func244 rfl Tryz.ntmps244 rfl ?_
  simp only [kvC] at o0
  repeat' (first | (apply R.is1; first | (apply R.pure; exact rfl; (apply Ok1.assign; exact rfl)) | (apply R.box; (iterate 3 exact rfl); intro)) | apply R.nil | (apply T.is; first | (apply T.stop1 1) | apply T.seq | apply T.region))
  rename_i b1
  refine ⟨?_⟩
  generalize clI c = CI at *
  generalize hPK : (⟨pkC k c to a b p n cap t⟩ : Array Value) = PK at *
  subst hPK
  repeat' ((apply T.is; first | (apply T.stop1 2) | (apply T.drawC (id := 1) [0] (by decide); ((apply A.tk 0; exact rfl; kernel_rfl; (apply Ok1.fieldAddr; (iterate 5 exact rfl))) <;> (apply A.tk 1; exact rfl; kernel_rfl; (apply Ok1.load; exact rfl; (apply Ld.own1; exact rfl; exact rfl; exact At.head; exact rfl))) <;> (apply A.tk 2; exact rfl; kernel_rfl; (apply Ok1.convU8; (iterate 5 exact rfl); omega; omega)) <;> (apply A.tk 4; exact rfl; kernel_rfl; (apply Ok1.fieldAddr; (iterate 5 exact rfl))) <;> (apply A.tk 5; exact rfl; kernel_rfl; (apply Ok1.load; exact rfl; (apply Ld.ownk; exact rfl; exact rfl; exact At.head; exact rfl))) <;> (apply A.two 3 6; kernel_rfl; exact rfl; exact rfl; rotate_left 1; (focus (((((apply R.callE (vs := [.agg _]); (iterate 3 exact rfl); exact Ext.none _; intro w1 hw1; exact o0 w1; rintro v Lo ⟨ovq, hovq, rfl, rfl⟩))); apply R.nil; refine ⟨?_, ?_⟩; (focus (repeat' first | exact trivial | exact At.head | apply At.right | refine ⟨?_, ?_⟩))) <;> (apply A.one 3; kernel_rfl; exact rfl; (((apply R.buildSlice; (iterate 12 exact rfl); intro))); apply R.nil; refine ⟨?_, ?_⟩; (focus (repeat' first | exact trivial | exact At.head | apply At.tail | apply At.right | refine ⟨?_, ?_⟩))) <;> (apply A.one 7; kernel_rfl; exact rfl; (((apply R.appendSl (ov := some (_, 0, [])) (n := 1) (old := u8s [k]) (ov2 := ovq) (m := 9) (news := u8s CI) (e3 := 5); (iterate 12 exact rfl); exact ⟨rfl, rfl⟩; exact hovq; (focus ((repeat' (exact Ext.one _ _)); done)); exact Ext.mem (by (focus (repeat' first | exact Ext.here _ _ | apply Ext.cons); done)); exact u8s_one _; omega; intro ov1 hov1))); apply R.nil; refine ⟨?_, ?_⟩; (focus (repeat' first | exact trivial | exact At.head | apply At.right | refine ⟨?_, ?_⟩))) <;> (apply A.tk 8; exact rfl; kernel_rfl; (apply Ok1.assign; exact rfl)) <;> (apply A.done; kernel_rfl))); rotate_right 1; (focus (((((apply R.buildSlice; (iterate 12 exact rfl); intro))); apply R.nil; refine ⟨?_, ?_⟩; (focus (repeat' first | exact trivial | exact At.head | apply At.tail | refine ⟨?_, ?_⟩))) <;> (apply A.one 6; kernel_rfl; exact rfl; (((apply R.callE (vs := [.agg _]); (iterate 3 exact rfl); exact Ext.none _; intro w1 hw1; exact o0 w1; rintro v Lo ⟨ovq, hovq, rfl, rfl⟩))); apply R.nil; refine ⟨?_, ?_⟩; (focus (repeat' first | exact trivial | exact At.head | apply At.tail | apply At.right | refine ⟨?_, ?_⟩))) <;> (apply A.one 7; kernel_rfl; exact rfl; (((apply R.appendSl (ov := some (_, 0, [])) (n := 1) (old := u8s [k]) (ov2 := ovq) (m := 9) (news := u8s CI) (e3 := 5); (iterate 12 exact rfl); exact ⟨rfl, rfl⟩; exact hovq; (focus (repeat' first | exact Ext.one _ _ | apply Ext.app); done); exact Ext.mem (by (focus ((repeat' (exact Ext.here _ _)); done))); exact u8s_one _; omega; intro ov1 hov1))); apply R.nil; refine ⟨?_, ?_⟩; (focus (repeat' first | exact trivial | exact At.head | apply At.right | refine ⟨?_, ?_⟩))) <;> (apply A.tk 8; exact rfl; kernel_rfl; (apply Ok1.assign; exact rfl)) <;> (apply A.done; kernel_rfl)))))) | apply T.seq))
  all_goals refine ⟨?_⟩
  all_goals refine T.weakK (σ' := [(1, .pointer (some ⟨b1, 0, none⟩)), (3, slV ov1 (1 + 9))]) (L' := (b1, .cells ⟨pkC k c to a b p n cap t⟩ 142 (0, 0)) :: blkL 5 ov1 (u8s [k] ++ u8s CI)) ?_ (by (focus (repeat' first | exact Ext.one _ _ | exact Ext.here _ _ | apply Keep.cons | apply Keep.last | apply Ext.app); done)) ⟨rfl, rfl, trivial⟩
  all_goals generalize hA1 : u8s [k] ++ u8s CI = A1 at *
  all_goals repeat' ((apply T.is; first | (apply T.stop1 3) | (apply T.drawC (id := 2) [0] (by decide); ((apply A.tk 0; exact rfl; kernel_rfl; (apply Ok1.move; exact rfl)) <;> (apply A.tk 1; exact rfl; kernel_rfl; (apply Ok1.fieldAddr; (iterate 5 exact rfl))) <;> (apply A.tk 2; exact rfl; kernel_rfl; (apply Ok1.load; exact rfl; (apply Ld.own1; exact rfl; exact rfl; exact At.head; exact rfl))) <;> (apply A.tk 5; exact rfl; kernel_rfl; (apply Ok1.fieldAddr; (iterate 5 exact rfl))) <;> (apply A.tk 6; exact rfl; kernel_rfl; (apply Ok1.fieldAddr; (iterate 5 exact rfl))) <;> (apply A.tk 7; exact rfl; kernel_rfl; (apply Ok1.load; exact rfl; (apply Ld.own1; exact rfl; exact rfl; exact At.head; exact rfl))) <;> (apply A.one 3; kernel_rfl; exact rfl; (((apply R.callE (vs := [.int .i64 to]); (iterate 3 exact rfl); exact Ext.none _; intro w1 hw1; exact o1 w1; rintro v Lo ⟨ovq, hovq, rfl, rfl⟩))); apply R.nil; refine ⟨?_, ?_⟩; (focus (repeat' first | exact trivial | exact At.head | apply At.right | refine ⟨?_, ?_⟩))) <;> (apply A.one 4; kernel_rfl; exact rfl; (((apply R.appendSl (ov := ov1) (n := 1 + 9) (old := A1) (ov2 := ovq) (m := 2) (news := u8s N1) (e3 := 5); (iterate 12 exact rfl); exact hov1; exact hovq; (focus (repeat' first | exact Ext.all _ | apply Ext.cons | apply Ext.app); done); exact Ext.mem (by (focus ((repeat' (exact Ext.here _ _)); done))); exact u8s_one _; omega; intro ov2 hov2))); apply R.nil; refine ⟨?_, ?_⟩; (focus (repeat' first | exact trivial | exact At.head | apply At.right | refine ⟨?_, ?_⟩))) <;> (apply A.one 8; kernel_rfl; exact rfl; (((apply R.callE (vs := [.int .i64 a]); (iterate 3 exact rfl); exact Ext.none _; intro w1 hw1; exact o2 w1; rintro v Lo ⟨ovr, hovr, rfl, rfl⟩))); apply R.nil; refine ⟨?_, ?_⟩; (focus (repeat' first | exact trivial | exact At.head | apply At.right | refine ⟨?_, ?_⟩))) <;> (apply A.one 9; kernel_rfl; exact rfl; (((apply R.appendSl (ov := ov2) (n := 1 + 9 + 2) (old := A1 ++ u8s N1) (ov2 := ovr) (m := 2) (news := u8s N2) (e3 := 5); (iterate 12 exact rfl); exact hov2; exact hovr; (focus (repeat' first | exact Ext.here _ _ | apply Ext.app); done); exact Ext.mem (by (focus ((repeat' (exact Ext.here _ _)); done))); exact u8s_one _; omega; intro ov3 hov3))); apply R.nil; refine ⟨?_, ?_⟩; (focus (repeat' first | exact trivial | exact At.head | apply At.right | refine ⟨?_, ?_⟩))) <;> (apply A.tk 10; exact rfl; kernel_rfl; (apply Ok1.assign; exact rfl)) <;> (apply A.done; kernel_rfl))) | apply T.seq))
  all_goals refine ⟨?_⟩
  all_goals refine T.weakK (σ' := [(1, .pointer (some ⟨b1, 0, none⟩)), (3, slV ov3 (1 + 9 + 2 + 2))]) (L' := (b1, .cells ⟨pkC k c to a b p n cap t⟩ 142 (0, 0)) :: blkL 5 ov3 (A1 ++ u8s N1 ++ u8s N2)) ?_ (by (focus (repeat' first | exact Ext.one _ _ | exact Ext.here _ _ | apply Keep.cons | apply Keep.last | apply Ext.app); done)) ⟨rfl, rfl, trivial⟩
  all_goals generalize hA2 : A1 ++ u8s N1 ++ u8s N2 = A2 at *
  all_goals repeat' ((apply T.is; first | (apply T.stop1 4) | (apply T.drawC (id := 3) [0] (by decide); ((apply A.tk 0; exact rfl; kernel_rfl; (apply Ok1.move; exact rfl)) <;> (apply A.tk 1; exact rfl; kernel_rfl; (apply Ok1.fieldAddr; (iterate 5 exact rfl))) <;> (apply A.tk 2; exact rfl; kernel_rfl; (apply Ok1.fieldAddr; (iterate 5 exact rfl))) <;> (apply A.tk 3; exact rfl; kernel_rfl; (apply Ok1.load; exact rfl; (apply Ld.own1; exact rfl; exact rfl; exact At.head; exact rfl))) <;> (apply A.tk 6; exact rfl; kernel_rfl; (apply Ok1.fieldAddr; (iterate 5 exact rfl))) <;> (apply A.tk 7; exact rfl; kernel_rfl; (apply Ok1.load; exact rfl; (apply Ld.own1; exact rfl; exact rfl; exact At.head; exact rfl))) <;> (apply A.tk 8; exact rfl; kernel_rfl; (apply Ok1.lenS; (iterate 3 exact rfl))) <;> (apply A.one 4; kernel_rfl; exact rfl; (((apply R.callE (vs := [.int .i64 b]); (iterate 3 exact rfl); exact Ext.none _; intro w1 hw1; exact o3 w1; rintro v Lo ⟨ovq, hovq, rfl, rfl⟩))); apply R.nil; refine ⟨?_, ?_⟩; (focus (repeat' first | exact trivial | exact At.head | apply At.right | refine ⟨?_, ?_⟩))) <;> (apply A.one 5; kernel_rfl; exact rfl; (((apply R.appendSl (ov := ov3) (n := 1 + 9 + 2 + 2) (old := A2) (ov2 := ovq) (m := 4) (news := u8s N3) (e3 := 5); (iterate 12 exact rfl); exact hov3; exact hovq; (focus (repeat' first | exact Ext.all _ | apply Ext.cons | apply Ext.app); done); exact Ext.mem (by (focus ((repeat' (exact Ext.here _ _)); done))); exact u8s_one _; omega; intro ov4 hov4))); apply R.nil; refine ⟨?_, ?_⟩; (focus (repeat' first | exact trivial | exact At.head | apply At.right | refine ⟨?_, ?_⟩))) <;> (apply A.one 9; kernel_rfl; exact rfl; (((apply R.callE (vs := [.int .i64 n]); (iterate 3 exact rfl); exact Ext.none _; intro w1 hw1; exact o4 w1; rintro v Lo ⟨ovr, hovr, rfl, rfl⟩))); apply R.nil; refine ⟨?_, ?_⟩; (focus (repeat' first | exact trivial | exact At.head | apply At.right | refine ⟨?_, ?_⟩))) <;> (apply A.one 10; kernel_rfl; exact rfl; (((apply R.appendSl (ov := ov4) (n := 1 + 9 + 2 + 2 + 4) (old := A2 ++ u8s N3) (ov2 := ovr) (m := 2) (news := u8s N4) (e3 := 5); (iterate 12 exact rfl); exact hov4; exact hovr; (focus (repeat' first | exact Ext.here _ _ | apply Ext.app); done); exact Ext.mem (by (focus ((repeat' (exact Ext.here _ _)); done))); exact u8s_one _; omega; intro ov5 hov5))); apply R.nil; refine ⟨?_, ?_⟩; (focus (repeat' first | exact trivial | exact At.head | apply At.right | refine ⟨?_, ?_⟩))) <;> (apply A.tk 11; exact rfl; kernel_rfl; (apply Ok1.assign; exact rfl)) <;> (apply A.done; kernel_rfl))) | apply T.seq))
  all_goals refine ⟨?_⟩
  all_goals refine T.weakK (σ' := [(1, .pointer (some ⟨b1, 0, none⟩)), (3, slV ov5 20)]) (L' := (b1, .cells ⟨pkC k c to a b p n cap t⟩ 142 (0, 0)) :: blkL 5 ov5 (A2 ++ u8s N3 ++ u8s N4)) ?_ (by (focus (repeat' first | exact Ext.one _ _ | exact Ext.here _ _ | apply Keep.cons | apply Keep.last | apply Ext.app); done)) ⟨rfl, rfl, trivial⟩
  all_goals generalize hA3 : A2 ++ u8s N3 ++ u8s N4 = A3 at *
  all_goals have hso : ov5.isSome = true := ov_some9 hov5 (by decide)
  all_goals repeat' (first | (apply R.is1; first | (apply R.isCall; (apply R.appendRd (xs := body) (v := u8V) (sz := 1) (ov := ov5) (n := 20) (m := n) (old := A3); (iterate 12 exact rfl); exact hov5; (focus (repeat' first | exact Ext.all _ | apply Ext.cons); done); exact hn; exact u8V_len; exact rfl; (intro w1 hw1; exact hrd w1 hw1.chg); (focus (rw [fl_u8]; exact u8s_one _)); omega; intro ov6 hov6 hsome; rw [fl_u8]; rw [fl_u8] at hov6)) | (apply R.pure; exact rfl; first | (apply Ok1.load; exact rfl; (apply Ld.own1; exact rfl; exact rfl; exact At.head; exact rfl)) | (apply Ok1.move; exact rfl) | (apply Ok1.fieldAddr; (iterate 5 exact rfl)) | (apply Ok1.assign; exact rfl))) | apply R.nil | (apply T.is; first | apply T.seq | apply T.region | apply T.ret))
  all_goals (apply RetOk.t; exact rfl)
  all_goals subst hA3 hA2 hA1
  all_goals exact ⟨_, by (focus (repeat' first | exact Ext.here _ _ | apply Keep.last); done), ov6, hov6, hsome hso, rfl, rfl⟩
theorem vtag14_ok (pk : Option Addr) (nk ck : Nat) (key : List Int) (hkn : nk = key.length) (hkl : nk ≤ 999999000) (hkb : Byt key) (k : Int) (c : Cl) (to a b : Int) (p : Option Addr) (n cap : Nat) (t : List Int) (body : List Int) (ht : t.length = 32) (h0 : 0 ≤ k) (h1 : k ≤ 255) (hr : c.right) (ht0 : 0 ≤ to) (ht1 : to ≤ 65535) (hnr : NR a b) (hn : n = body.length) (hl : n ≤ 512) (hbb : Byt body) (w : World) (hk : RdSl w pk u8V key) (hb : RdSl w p u8V body) :
    CallM Tryz.prog 194 [.agg ⟨tabV⟩, .slice pk nk ck, .agg ⟨pkC k c to a b p n cap t⟩] [] w fun v L => v = .agg ⟨u8s (pkT key k c to a b body)⟩ ∧ L = [] := by
  have htl := tab_len
  have hh := fun w1 (hc : Chg [] w w1) => vhead14_ok k c to a b p n cap t body ht h0 h1 hr ht0 ht1 hnr hn hl w1 (hb.chg' hc (fun _ => Off.nil _))
  have hHl := pkH_len k c to a b body
  have hHb := pkH_byt k c to a b hbb
  have htg := fun ph ch w1 (hc : Chg [] w w1) h => vtag_ok pk nk ck key hkn hkl hkb ph (20 + n) ch (pkH k c to a b body) (by rw [hHl, hn]) hHb (by omega) w1 (hk.chg' hc (fun _ => Off.nil _)) h
  have hpl := pk_len k c to a b p n cap ht
  have hmt : (u8s (pkT key k c to a b body)).length = 32 := by rw [u8s_len]; unfold pkT; exact hmac_len _ _
  replace htg : ∀ ph ch w1 (hc : Chg [] w w1) h, _ := htg
  rw [show hmacI key (pkH k c to a b body) = pkT key k c to a b body from rfl] at htg
  generalize pkT key k c to a b body = TG at *
  generalize hHH : pkH k c to a b body = HH at *
  generalize tabV = tbl at *
  generalize pkC k c to a b p n cap t = PK at *
  refine enterK (tb := tb) Tryz.func194 rfl Tryz.ntmps194 rfl ?_
  repeat' (first | (apply R.is1; first | (apply R.box; (iterate 3 exact rfl); intro) | (apply R.alloc; (iterate 3 exact rfl); intro)) | apply R.nil | (apply T.is; first | (apply T.drawC (id := 1) [1,2] (by decide); ((apply A.tk 0; exact rfl; kernel_rfl; (apply Ok1.load; exact rfl; (apply Ld.ownk; exact rfl; exact rfl; (focus (repeat' first | exact At.head | apply At.tail); done); exact subE_all htl))) <;> (apply A.tk 1; exact rfl; kernel_rfl; (apply Ok1.move; exact rfl)) <;> (apply A.tk 2; exact rfl; kernel_rfl; (apply Ok1.load; exact rfl; (apply Ld.ownk; exact rfl; exact rfl; exact At.head; exact subE_all hpl))) <;> (apply A.one 3; kernel_rfl; exact rfl; (((apply R.callE (vs := [.agg ⟨PK⟩]); (iterate 3 exact rfl); exact Ext.none _; intro w1 hw1; exact hh w1 hw1.chg; rintro v Lo ⟨ovh, hovh, hsh, rfl, rfl⟩; rw [slV_eq hovh]))); apply R.nil; refine ⟨?_, ?_⟩; (focus (repeat' first | exact trivial | exact At.head | apply At.tail | apply At.right | refine ⟨?_, ?_⟩))) <;> (apply A.one 4; kernel_rfl; exact rfl; (((apply R.callV (vs := [.agg ⟨tbl⟩, .slice pk nk ck, .slice (ovp ovh) (20 + n) (ovc ovh (20 + n))]); (iterate 3 exact rfl); intro w1 hw1; exact htg _ _ w1 hw1.chg (RdSl.own' hw1 (Ext.mem (by rw [fl_u8]; (focus ((repeat' (exact Ext.here _ _)); done)))) (by rw [fl_u8, hHl, ← hn]; exact hovh) u8V_len)))); apply R.nil; refine ⟨?_, ?_⟩; (focus (repeat' first | exact trivial | exact At.head | apply At.tail | apply At.right | refine ⟨?_, ?_⟩))) <;> (apply A.one 5; kernel_rfl; exact rfl; (((apply R.store; (iterate 4 exact rfl); exact hmt; exact u8s_one _; (focus (repeat' first | exact Upd.head | apply Upd.right); done); exact setE_all hmt))); apply R.nil; refine ⟨?_, ?_⟩; (focus (repeat' first | exact trivial | exact At.head | apply At.tail | apply At.right | refine ⟨?_, ?_⟩))) <;> (apply A.done; kernel_rfl))) | apply T.seq | apply T.region | apply T.ret))
  all_goals (apply RetOk.c; exact rfl; (apply Ld.ownk; exact rfl; exact rfl; (focus (repeat' first | exact At.head | apply At.right); done); exact subE_all hmt))
  all_goals exact ⟨_, by (focus ((repeat' (exact Keep.nil _)); done)), rfl, rfl⟩
theorem vbytes14_ok (k : Int) (c : Cl) (to a b : Int) (p : Option Addr) (n cap : Nat) (t : List Int) (body : List Int) (ht : t.length = 32) (h0 : 0 ≤ k) (h1 : k ≤ 255) (hr : c.right) (ht0 : 0 ≤ to) (ht1 : to ≤ 65535) (hnr : NR a b) (hn : n = body.length) (hl : n ≤ 512) (w : World) (hb : RdSl w p u8V body) :
    CallM Tryz.prog 195 [.agg ⟨pkC k c to a b p n cap t⟩] [] w fun v L => ∃ ov, OvOk 1 ov (pkB k c to a b body t).length (u8s (pkB k c to a b body t)) ∧ v = slV ov (pkB k c to a b body t).length ∧ L = blkL 5 ov (u8s (pkB k c to a b body t)) := by
  have hh := fun w1 (hc : Chg [] w w1) => vhead14_ok k c to a b p n cap t body ht h0 h1 hr ht0 ht1 hnr hn hl w1 (hb.chg' hc (fun _ => Off.nil _))
  have hpB : u8s (pkB k c to a b body t) = u8s (pkH k c to a b body) ++ u8s t := u8s_app _ _
  have hpBl : (pkB k c to a b body t).length = 20 + n + 32 := by rw [pkB_len _ _ _ _ _ _ ht, hn]; omega
  rw [hpB, hpBl]
  have hpl := pk_len k c to a b p n cap ht
  generalize hHH : pkH k c to a b body = HH at *
  clear hpB hpBl hHH
  refine enterK (tb := tb) Tryz.func195 rfl Tryz.ntmps195 rfl ?_
  simp only [pkC] at hh hpl ⊢
  repeat' (first | (apply R.is1; first | (apply R.pure; exact rfl; (apply Ok1.assign; exact rfl)) | (apply R.box; (iterate 3 exact rfl); intro)) | apply R.nil | (apply T.is; first | (apply T.drawC (id := 1) [0] (by decide); ((apply A.tk 0; exact rfl; kernel_rfl; (apply Ok1.load; exact rfl; (apply Ld.ownk; exact rfl; exact rfl; exact At.head; exact subE_all hpl))) <;> (apply A.tk 2; exact rfl; kernel_rfl; (apply Ok1.fieldAddr; (iterate 5 exact rfl))) <;> (apply A.tk 3; exact rfl; kernel_rfl; (apply Ok1.sliceArr; (iterate 4 exact rfl))) <;> (apply A.one 1; kernel_rfl; exact rfl; (((apply R.callE; (iterate 3 exact rfl); exact Ext.none _; intro w1 hw1; exact hh w1 hw1.chg; rintro v Lo ⟨ovh, hovh, hsh, rfl, rfl⟩))); apply R.nil; refine ⟨?_, ?_⟩; (focus (repeat' first | exact trivial | exact At.head | apply At.right | refine ⟨?_, ?_⟩))) <;> (apply A.one 4; kernel_rfl; exact rfl; (((apply R.appendRd (xs := t) (v := u8V) (sz := 1) (ov := ovh) (n := 20 + n) (m := 32) (old := u8s HH); (iterate 12 exact rfl); exact hovh; (focus ((repeat' (exact Ext.here _ _)); done)); exact ht.symm; exact u8V_len; exact rfl; (intro w1 hw1; exact RdSl.mid (pre := [.int .i64 k, .int .i64 c.id, .int .i64 c.roles, .int .i64 c.exp, .int .i64 c.ser, .int .i64 to, .int .i64 a, .int .i64 b, .slice p n cap]) (junk := []) hw1 (by rw [List.append_nil]; (focus (repeat' first | exact At.head | apply At.right); done)) rfl); (focus (rw [fl_u8]; exact u8s_one _)); omega; intro ov6 hov6 hsome; rw [fl_u8]; rw [fl_u8] at hov6))); apply R.nil; refine ⟨?_, ?_⟩; (focus (repeat' first | exact trivial | exact At.head | apply At.right | refine ⟨?_, ?_⟩))) <;> (apply A.tk 5; exact rfl; kernel_rfl; (apply Ok1.assign; exact rfl)) <;> (apply A.done; kernel_rfl))) | apply T.seq | apply T.region | apply T.ret))
  all_goals (apply RetOk.t; exact rfl)
  all_goals exact ⟨_, by (focus (repeat' first | exact Ext.here _ _ | apply Keep.last); done), ov6, hov6, rfl, rfl⟩
theorem vsender_ok (p : Option Addr) (n cap : Nat) (k : List Int) (hn : n = k.length) (hkl : n ≤ 999999000) (hkb : Byt k) (v : Int) (h1 : 1 ≤ v) (h2 : v ≤ 65535) (w : World) (hp : RdSl w p u8V k) : CallW Tryz.prog 242 [.agg ⟨tabV⟩, .slice p n cap, .int .i64 v] w fun x _ => x = .agg ⟨u8s (senderI k v)⟩ := by
  subst hn
  have hdl : (senderI k v).length = 32 := derive_len _ _ _
  have hdd : senderI k v = deriveI k sSend [lastI 2 v] := rfl
  have hcl : (lastI 2 v).length = 2 := rfl
  have hcy := last_byt 2 v
  have hce : u8s (lastI 2 v) = [.int .u8 (v / 256), .int .u8 (v % 256)] := by
    have e1 : v % 256 = v ∨ 256 ≤ v := by omega
    have e2 : v / 256 % 256 = v / 256 := by omega
    simp only [lastI, twoB, e2]
    first | rfl | (have e3 : v % 256 = v := by omega
                   simp only [e3]; rfl)
  have hfl : (frameI [strI sSend, lastI 2 v]).length = 16 := rfl
  have htl := tab_len
  have hto : tabV.all Value.oneCell' = true := rfl
  have hdv := fun pp cp pc cc w1 (hc : Chg [] w w1) h1 h2 => vderive_ok p k.length cap k rfl hkl hkb sSend (by decide) pp 1 cp [⟨pc, cc, lastI 2 v⟩] rfl (by decide) (by intro x hx; cases List.mem_singleton.1 hx; exact hcy) (by rw [List.map_cons, List.map_nil, hfl]; decide) (by intro x hx; cases List.mem_singleton.1 hx; simp only [hcl]; decide) w1 (hp.chg' hc (fun _ => Off.nil _)) h1 h2
  simp only [List.map_cons, List.map_nil] at hdv
  rw [← hdd] at hdv
  generalize senderI k v = d at *
  generalize lastI 2 v = cb at *
  generalize tabV = tv at *
  have hls : (u8s d).length = 32 := by rw [u8s_len, hdl]
  have hone := u8s_one d
  refine enterW (tb := tb) Tryz.func242 rfl Tryz.ntmps242 rfl ?_
  repeat' (first | (apply R.is1; first | (apply R.isBin; first | (apply R.pure; exact rfl; first | (apply Ok1.quo64; exact rfl; exact rfl; omega; omega; omega) | (apply Ok1.remN; exact rfl; exact rfl; omega; omega))) | (apply R.pure; exact rfl; first | (apply Ok1.load; exact rfl; apply Ld.ownk; exact rfl; exact rfl; (focus (repeat' first | exact At.head | apply At.tail | apply At.right); done); exact subE_all htl) | (apply Ok1.move; exact rfl) | (apply Ok1.load; exact rfl; first | (apply Ld.own1; exact rfl; exact rfl; (focus (repeat' first | exact At.head | apply At.tail | apply At.right); done); exact rfl) | (apply Ld.ownk; exact rfl; exact rfl; (focus (repeat' first | exact At.head | apply At.tail | apply At.right); done); exact rfl) | (apply Ld.old1; exact rfl; exact rfl; assumption; (first | exact List.not_mem_nil | assumption)) | (apply Ld.blk1; exact rfl; exact rfl; assumption; (first | exact List.not_mem_nil | assumption); exact rfl) | (apply Ld.blkk; exact rfl; exact rfl; assumption; (first | exact List.not_mem_nil | assumption); exact rfl)) | (apply Ok1.convI64; (iterate 5 exact rfl); omega; omega) | (apply Ok1.convU64; (iterate 5 exact rfl); omega; omega) | (apply Ok1.convU32; (iterate 5 exact rfl); omega; omega) | (apply Ok1.convU8; (iterate 5 exact rfl); omega; omega) | (apply Ok1.conv; (iterate 5 exact rfl))) | (apply R.box; (iterate 3 exact rfl); intro) | (apply R.alloc; (iterate 3 exact rfl); intro) | (apply R.buildSlice; (iterate 12 exact rfl); intro)) | (apply R.is0; first | (apply R.store; (iterate 6 exact rfl); (focus (repeat' first | exact Upd.head | apply Upd.tail | apply Upd.right); done); exact rfl) | fail) | (apply R.isG; first | (apply R.guard_run; exact rfl; exact rfl) | (apply R.guard_not; (iterate 3 exact rfl)) | (apply R.guard_not0; exact rfl; exact rfl) | (apply R.guard_un; (iterate 3 exact rfl)) | (apply R.guard_un0; exact rfl; exact rfl) | (apply R.guard rfl rfl ?_ (fun h => ⟨rfl, ?_⟩) <;> try intro)) | apply R.nil | (apply T.is; first | apply T.seq | apply T.region | apply T.block | apply T.scope | apply T.label | apply T.skip | apply T.exit | apply T.ret | (apply T.cond_t; exact rfl) | (apply T.cond_f; exact rfl) | (apply T.cond_h; exact rfl; assumption) | (apply T.cond_n; exact rfl; assumption) | (apply T.cond rfl <;> intro)) | apply Rnd.step)
  rename_i bT bO bv bs
  repeat' (first | (apply R.is1; first | (apply R.isBin; first | (apply R.pure; exact rfl; first | (apply Ok1.quo64; exact rfl; exact rfl; omega; omega; omega) | (apply Ok1.remN; exact rfl; exact rfl; omega; omega))) | (apply R.isCall; first | (apply R.callV (vs := [.agg ⟨tv⟩, .slice p k.length cap, .string sSend, .slice (some ⟨bs, 0, none⟩) 1 1]); (iterate 3 exact rfl); intro w1 hw1; exact hdv _ 1 (some ⟨bv, 0, none⟩) 2 w1 hw1.chg (RdSl.of (junk := []) hw1 (by (focus (repeat' first | exact At.head | apply At.tail | apply At.right); done)) (by simp only [fl, Pt.v, hcl, List.map_cons, List.map_nil, List.flatten_cons, List.flatten_nil, List.append_nil])) (by intro x hx; cases List.mem_singleton.1 hx; exact RdSl.of (junk := []) hw1 (by (focus (repeat' first | exact At.head | apply At.tail | apply At.right); done)) (by rw [fl_u8, List.append_nil, hce])))) | (apply R.pure; exact rfl; first | (apply Ok1.load; exact rfl; apply Ld.ownk; exact rfl; exact rfl; (focus (repeat' first | exact At.head | apply At.tail | apply At.right); done); exact subE_all htl) | (apply Ok1.move; exact rfl) | (apply Ok1.load; exact rfl; first | (apply Ld.own1; exact rfl; exact rfl; (focus (repeat' first | exact At.head | apply At.tail | apply At.right); done); exact rfl) | (apply Ld.ownk; exact rfl; exact rfl; (focus (repeat' first | exact At.head | apply At.tail | apply At.right); done); exact rfl) | (apply Ld.old1; exact rfl; exact rfl; assumption; (first | exact List.not_mem_nil | assumption)) | (apply Ld.blk1; exact rfl; exact rfl; assumption; (first | exact List.not_mem_nil | assumption); exact rfl) | (apply Ld.blkk; exact rfl; exact rfl; assumption; (first | exact List.not_mem_nil | assumption); exact rfl)) | (apply Ok1.convI64; (iterate 5 exact rfl); omega; omega) | (apply Ok1.convU64; (iterate 5 exact rfl); omega; omega) | (apply Ok1.convU32; (iterate 5 exact rfl); omega; omega) | (apply Ok1.convU8; (iterate 5 exact rfl); omega; omega) | (apply Ok1.conv; (iterate 5 exact rfl))) | (apply R.box; (iterate 3 exact rfl); intro) | (apply R.alloc; (iterate 3 exact rfl); intro) | (apply R.buildSlice; (iterate 12 exact rfl); intro)) | (apply R.is0; first | (apply R.store; (iterate 4 exact rfl); exact hls; exact hone; (focus (repeat' first | exact Upd.head | apply Upd.tail | apply Upd.right); done); exact setE_all hls) | (apply R.store; (iterate 6 exact rfl); (focus (repeat' first | exact Upd.head | apply Upd.tail | apply Upd.right); done); exact rfl) | fail) | (apply R.isG; first | (apply R.guard_run; exact rfl; exact rfl) | (apply R.guard_not; (iterate 3 exact rfl)) | (apply R.guard_not0; exact rfl; exact rfl) | (apply R.guard_un; (iterate 3 exact rfl)) | (apply R.guard_un0; exact rfl; exact rfl) | (apply R.guard rfl rfl ?_ (fun h => ⟨rfl, ?_⟩) <;> try intro)) | apply R.nil | (apply T.is; first | apply T.seq | apply T.region | apply T.block | apply T.scope | apply T.label | apply T.skip | apply T.exit | apply T.ret | (apply T.cond_t; exact rfl) | (apply T.cond_f; exact rfl) | (apply T.cond_h; exact rfl; assumption) | (apply T.cond_n; exact rfl; assumption) | (apply T.cond rfl <;> intro)) | apply Rnd.step)
  all_goals apply RetOk.c
  all_goals first | exact rfl | skip
  all_goals first | (apply Ld.ownk; exact rfl; exact rfl; (focus (repeat' first | exact At.head | apply At.tail | apply At.right); done); exact subE_all hls) | exact rfl
theorem vseed_ok (p : Option Addr) (n cap : Nat) (k : List Int) (hn : n = k.length) (hkl : n ≤ 999999000) (hkb : Byt k) (v : Int) (h1 : 0 ≤ v) (h2 : v ≤ 3) (w : World) (hp : RdSl w p u8V k) : CallW Tryz.prog 241 [.agg ⟨tabV⟩, .slice p n cap, .int .i64 v] w fun x _ => x = .agg ⟨u8s (seedI k v)⟩ := by
  subst hn
  have hdl : (seedI k v).length = 32 := derive_len _ _ _
  have hdd : seedI k v = deriveI k sSeed [lastI 1 v] := rfl
  have hcl : (lastI 1 v).length = 1 := rfl
  have hcy := last_byt 1 v
  have hce : u8s (lastI 1 v) = [.int .u8 v] := by
    have e1 : v % 256 = v ∨ 256 ≤ v := by omega
    have e2 : v / 256 % 256 = v / 256 := by omega
    simp only [lastI, twoB, e2]
    first | rfl | (have e3 : v % 256 = v := by omega
                   simp only [e3]; rfl)
  have hfl : (frameI [strI sSeed, lastI 1 v]).length = 13 := rfl
  have htl := tab_len
  have hto : tabV.all Value.oneCell' = true := rfl
  have hdv := fun pp cp pc cc w1 (hc : Chg [] w w1) h1 h2 => vderive_ok p k.length cap k rfl hkl hkb sSeed (by decide) pp 1 cp [⟨pc, cc, lastI 1 v⟩] rfl (by decide) (by intro x hx; cases List.mem_singleton.1 hx; exact hcy) (by rw [List.map_cons, List.map_nil, hfl]; decide) (by intro x hx; cases List.mem_singleton.1 hx; simp only [hcl]; decide) w1 (hp.chg' hc (fun _ => Off.nil _)) h1 h2
  simp only [List.map_cons, List.map_nil] at hdv
  rw [← hdd] at hdv
  generalize seedI k v = d at *
  generalize lastI 1 v = cb at *
  generalize tabV = tv at *
  have hls : (u8s d).length = 32 := by rw [u8s_len, hdl]
  have hone := u8s_one d
  refine enterW (tb := tb) Tryz.func241 rfl Tryz.ntmps241 rfl ?_
  repeat' (first | (apply R.is1; first | (apply R.pure; exact rfl; first | (apply Ok1.load; exact rfl; apply Ld.ownk; exact rfl; exact rfl; (focus (repeat' first | exact At.head | apply At.tail | apply At.right); done); exact subE_all htl) | (apply Ok1.move; exact rfl) | (apply Ok1.load; exact rfl; first | (apply Ld.own1; exact rfl; exact rfl; (focus (repeat' first | exact At.head | apply At.tail | apply At.right); done); exact rfl) | (apply Ld.ownk; exact rfl; exact rfl; (focus (repeat' first | exact At.head | apply At.tail | apply At.right); done); exact rfl) | (apply Ld.old1; exact rfl; exact rfl; assumption; (first | exact List.not_mem_nil | assumption)) | (apply Ld.blk1; exact rfl; exact rfl; assumption; (first | exact List.not_mem_nil | assumption); exact rfl) | (apply Ld.blkk; exact rfl; exact rfl; assumption; (first | exact List.not_mem_nil | assumption); exact rfl)) | (apply Ok1.convI64; (iterate 5 exact rfl); omega; omega) | (apply Ok1.convU64; (iterate 5 exact rfl); omega; omega) | (apply Ok1.convU32; (iterate 5 exact rfl); omega; omega) | (apply Ok1.convU8; (iterate 5 exact rfl); omega; omega) | (apply Ok1.conv; (iterate 5 exact rfl))) | (apply R.box; (iterate 3 exact rfl); intro) | (apply R.alloc; (iterate 3 exact rfl); intro) | (apply R.buildSlice; (iterate 12 exact rfl); intro)) | (apply R.is0; first | (apply R.store; (iterate 6 exact rfl); (focus (repeat' first | exact Upd.head | apply Upd.tail | apply Upd.right); done); exact rfl) | fail) | (apply R.isG; first | (apply R.guard_run; exact rfl; exact rfl) | (apply R.guard_not; (iterate 3 exact rfl)) | (apply R.guard_not0; exact rfl; exact rfl) | (apply R.guard_un; (iterate 3 exact rfl)) | (apply R.guard_un0; exact rfl; exact rfl) | (apply R.guard rfl rfl ?_ (fun h => ⟨rfl, ?_⟩) <;> try intro)) | apply R.nil | (apply T.is; first | apply T.seq | apply T.region | apply T.block | apply T.scope | apply T.label | apply T.skip | apply T.exit | apply T.ret | (apply T.cond_t; exact rfl) | (apply T.cond_f; exact rfl) | (apply T.cond_h; exact rfl; assumption) | (apply T.cond_n; exact rfl; assumption) | (apply T.cond rfl <;> intro)) | apply Rnd.step)
  rename_i bT bO bv bs
  repeat' (first | (apply R.is1; first | (apply R.isCall; first | (apply R.callV (vs := [.agg ⟨tv⟩, .slice p k.length cap, .string sSeed, .slice (some ⟨bs, 0, none⟩) 1 1]); (iterate 3 exact rfl); intro w1 hw1; exact hdv _ 1 (some ⟨bv, 0, none⟩) 1 w1 hw1.chg (RdSl.of (junk := []) hw1 (by (focus (repeat' first | exact At.head | apply At.tail | apply At.right); done)) (by simp only [fl, Pt.v, hcl, List.map_cons, List.map_nil, List.flatten_cons, List.flatten_nil, List.append_nil])) (by intro x hx; cases List.mem_singleton.1 hx; exact RdSl.of (junk := []) hw1 (by (focus (repeat' first | exact At.head | apply At.tail | apply At.right); done)) (by rw [fl_u8, List.append_nil, hce])))) | (apply R.pure; exact rfl; first | (apply Ok1.load; exact rfl; apply Ld.ownk; exact rfl; exact rfl; (focus (repeat' first | exact At.head | apply At.tail | apply At.right); done); exact subE_all htl) | (apply Ok1.move; exact rfl) | (apply Ok1.load; exact rfl; first | (apply Ld.own1; exact rfl; exact rfl; (focus (repeat' first | exact At.head | apply At.tail | apply At.right); done); exact rfl) | (apply Ld.ownk; exact rfl; exact rfl; (focus (repeat' first | exact At.head | apply At.tail | apply At.right); done); exact rfl) | (apply Ld.old1; exact rfl; exact rfl; assumption; (first | exact List.not_mem_nil | assumption)) | (apply Ld.blk1; exact rfl; exact rfl; assumption; (first | exact List.not_mem_nil | assumption); exact rfl) | (apply Ld.blkk; exact rfl; exact rfl; assumption; (first | exact List.not_mem_nil | assumption); exact rfl)) | (apply Ok1.convI64; (iterate 5 exact rfl); omega; omega) | (apply Ok1.convU64; (iterate 5 exact rfl); omega; omega) | (apply Ok1.convU32; (iterate 5 exact rfl); omega; omega) | (apply Ok1.convU8; (iterate 5 exact rfl); omega; omega) | (apply Ok1.conv; (iterate 5 exact rfl))) | (apply R.box; (iterate 3 exact rfl); intro) | (apply R.alloc; (iterate 3 exact rfl); intro) | (apply R.buildSlice; (iterate 12 exact rfl); intro)) | (apply R.is0; first | (apply R.store; (iterate 4 exact rfl); exact hls; exact hone; (focus (repeat' first | exact Upd.head | apply Upd.tail | apply Upd.right); done); exact setE_all hls) | (apply R.store; (iterate 6 exact rfl); (focus (repeat' first | exact Upd.head | apply Upd.tail | apply Upd.right); done); exact rfl) | fail) | (apply R.isG; first | (apply R.guard_run; exact rfl; exact rfl) | (apply R.guard_not; (iterate 3 exact rfl)) | (apply R.guard_not0; exact rfl; exact rfl) | (apply R.guard_un; (iterate 3 exact rfl)) | (apply R.guard_un0; exact rfl; exact rfl) | (apply R.guard rfl rfl ?_ (fun h => ⟨rfl, ?_⟩) <;> try intro)) | apply R.nil | (apply T.is; first | apply T.seq | apply T.region | apply T.block | apply T.scope | apply T.label | apply T.skip | apply T.exit | apply T.ret | (apply T.cond_t; exact rfl) | (apply T.cond_f; exact rfl) | (apply T.cond_h; exact rfl; assumption) | (apply T.cond_n; exact rfl; assumption) | (apply T.cond rfl <;> intro)) | apply Rnd.step)
  all_goals apply RetOk.c
  all_goals first | exact rfl | skip
  all_goals first | (apply Ld.ownk; exact rfl; exact rfl; (focus (repeat' first | exact At.head | apply At.tail | apply At.right); done); exact subE_all hls) | exact rfl
/-- The cells of the document's member. -/
def mbC (c : Cl) (s : List Int) (boot n : Int) (RR : List Value) : List Value := clC c ++ (u8s s ++ (.int .i64 boot :: .int .i64 n :: RR))
theorem mb_at {c : Cl} {s : List Int} (hs : s.length = 32) (boot n : Int) (RR : List Value) (i : Nat) : (mbC c s boot n RR)[36 + i]? = (.int .i64 boot :: .int .i64 n :: RR : List Value)[i]? := by
  unfold mbC
  rw [List.getElem?_append_right (by simp [clC]; omega), List.getElem?_append_right (by simp [clC, u8s_len, hs]; omega)]
  congr 1
  simp [clC, u8s_len, hs]; omega
theorem mb_set {c : Cl} {s : List Int} (hs : s.length = 32) (boot n m : Int) (RR : List Value) : setE (mbC c s boot n RR) 37 [.int .i64 m] = some (mbC c s boot m RR) := by
  have h := setE_off (clC c ++ (u8s s ++ [.int .i64 boot])) [Value.int .i64 m] (Value.int .i64 n :: RR) (by simp)
  have hl : (clC c ++ (u8s s ++ [Value.int .i64 boot])).length = 37 := by simp [clC, u8s_len, hs]
  rw [hl] at h
  unfold mbC
  simpa using h
theorem mb_cl (c : Cl) (s : List Int) (boot n : Int) (RR : List Value) : subE (mbC c s boot n RR) 0 4 = some (clC c) := subE_app (clC c) _ rfl
def MB (bm : Nat) (c : Cl) (s : List Int) (boot n : Int) (RR : List Value) : Nat × Obj := (bm, .cells ⟨mbC c s boot n RR⟩ 267 (0, 0))
theorem mb_key {w0 w : World} {S : List Nat} {L : Lst} {bm : Nat} {c : Cl} {s : List Int} {boot n : Int} {RR : List Value} (hw : Hp w0 S L w) (hm : MB bm c s boot n RR ∈ L) : RdSl w (some ⟨bm, 4, none⟩) u8V s := by
  right
  refine ⟨bm, 4, rfl, fun k hk => ?_⟩
  have h1 := hw.get bm _ hm
  rw [fl_u8] at hk ⊢
  simp only [World.cell?, h1]
  simp only [mbC, List.getElem?_toArray]
  rw [List.getElem?_append_right (by simp [clC]), List.getElem?_append_left (by simp [clC]; omega)]
  congr 1
  simp [clC]
theorem vway_ok (k : Int) (h0 : 1 ≤ k) (h1 : k ≤ 14) : CallP Tryz.prog 240 [.int .i64 k] (.int .i64 (wayI k)) := by
  have hk : k = 1 ∨ k = 2 ∨ k = 3 ∨ k = 4 ∨ k = 5 ∨ k = 6 ∨ k = 7 ∨ k = 8 ∨ k = 9 ∨ k = 10 ∨ k = 11 ∨ k = 12 ∨ k = 13 ∨ k = 14 := by omega
  rcases hk with rfl | rfl | rfl | rfl | rfl | rfl | rfl | rfl | rfl | rfl | rfl | rfl | rfl | rfl
  all_goals
    refine enterP (tb := tb) Tryz.func240 rfl Tryz.ntmps240 rfl fun w => ?_
    repeat' (first | (apply R.is1; (apply R.pure; exact rfl; first | (apply Ok1.move; exact rfl) | (apply Ok1.assign; exact rfl) | (apply Ok1.index1; (iterate 6 exact rfl); omega; omega; exact rfl) | (apply Ok1.buildA; (iterate 6 exact rfl)))) | apply R.nil | (apply T.is; first | apply T.seq | apply T.region | apply T.ret))
    (apply RetOk.t; exact rfl)
    rfl
def VKey (bm : Nat) (c : Cl) (s : List Int) (boot n : Int) (RR : List Value) (k to : Int) (v : Value) (L : Lst) : Prop := (chE k to ≠ 0 ∧ v = .tuple #[.slice none 0 0, .int .i64 (chE k to)] ∧ L = [MB bm c s boot n RR]) ∨ (chE k to = 0 ∧ ∃ bk, v = .tuple #[.slice (some ⟨bk, 0, none⟩) 32 32, .int .i64 0] ∧ L = [(bk, .cells ⟨u8s (chK s k to)⟩ 98 (0, 0)), MB bm c s boot n RR])
theorem vkey16_ok (bm : Nat) (c : Cl) (s : List Int) (hs : s.length = 32) (hsb : Byt s) (boot n : Int) (RR : List Value) (k to : Int) (w : World) :
    CallM Tryz.prog 193 [.agg ⟨tabV⟩, .pointer (some ⟨bm, 0, none⟩), .int .i64 k, .int .i64 to] [MB bm c s boot n RR] w (VKey bm c s boot n RR k to) := by
  have htl := tab_len
  have hKl := chK_len s k to
  by_cases hk : k < 1 ∨ 14 < k ∨ wayI k = 2
  · have hE : chE k to = 13 := by
      unfold chE
      by_cases h1 : wayI k = 1
      · have := way_kind (.inl h1); omega
      by_cases h3 : wayI k = 3
      · have := way_kind (.inr h3); omega
      rw [if_neg h1, if_neg h3]
    unfold VKey
    rw [hE]
    generalize tabV = tbl at *
    by_cases hk1 : k < 1 ∨ 14 < k
    · refine enterK (tb := tb) Tryz.func193 rfl Tryz.ntmps193 rfl ?_
      repeat' (first | (apply R.is1; first | (apply R.isBin; first | (apply R.pure; exact rfl; (apply Ok1.gtr_t; exact rfl; exact rfl; omega)) | (apply R.lss rfl rfl rfl <;> intro)) | (apply R.pure; exact rfl; first | (apply Ok1.move; exact rfl) | (apply Ok1.assign; exact rfl) | (apply Ok1.pick_t; exact rfl; exact rfl) | (apply Ok1.pick_f; exact rfl; exact rfl)) | (apply R.box; (iterate 3 exact rfl); intro)) | (apply R.isG; first | (apply R.guard_run; exact rfl; exact rfl) | (apply R.guard_not; (iterate 3 exact rfl))) | apply R.nil | (apply T.is; first | apply T.seq | apply T.region | apply T.ret | (apply T.cond_t; exact rfl)))
      all_goals (apply RetOk.tt; exact rfl; exact rfl)
      all_goals exact ⟨_, by (focus (repeat' first | exact Keep.nil _ | exact Ext.one _ _ | apply Keep.cons | apply Ext.cons); done), .inl ⟨by decide, rfl, rfl⟩⟩
    · have hw := vway_ok k (by omega) (by omega)
      rw [show wayI k = 2 by omega] at hw
      refine enterK (tb := tb) Tryz.func193 rfl Tryz.ntmps193 rfl ?_
      repeat' (first | (apply R.is1; first | (apply R.isBin; (apply R.pure; exact rfl; first | (apply Ok1.lss_f; exact rfl; exact rfl; omega) | (apply Ok1.gtr_f; exact rfl; exact rfl; omega) | (apply Ok1.eql_t; exact rfl; exact rfl; omega))) | (apply R.isCall; apply R.callP rfl rfl rfl hw) | (apply R.pure; exact rfl; first | (apply Ok1.move; exact rfl) | (apply Ok1.assign; exact rfl) | (apply Ok1.pick_f; exact rfl; exact rfl)) | (apply R.box; (iterate 3 exact rfl); intro)) | (apply R.isG; (apply R.guard_run; exact rfl; exact rfl)) | apply R.nil | (apply T.is; first | apply T.seq | apply T.region | apply T.ret | (apply T.cond_t; exact rfl)))
      all_goals (apply RetOk.tt; exact rfl; exact rfl)
      all_goals exact ⟨_, by (focus (repeat' first | exact Keep.nil _ | exact Ext.one _ _ | apply Keep.cons | apply Ext.cons); done), .inl ⟨by decide, rfl, rfl⟩⟩
  have hw := vway_ok k (by omega) (by omega)
  have hsd : ∀ w1, RdSl w1 (some ⟨bm, 4, none⟩) u8V s → 0 ≤ to → to ≤ 3 → _ := fun w1 h g1 g2 => vseed_ok (some ⟨bm, 4, none⟩) 32 32 s hs.symm (by decide) hsb to g1 g2 w1 h
  have hsn : ∀ w1, RdSl w1 (some ⟨bm, 4, none⟩) u8V s → 1 ≤ to → to ≤ 65535 → _ := fun w1 h g1 g2 => vsender_ok (some ⟨bm, 4, none⟩) 32 32 s hs.symm (by decide) hsb to g1 g2 w1 h
  have hmt : (u8s (chK s k to)).length = 32 := by rw [u8s_len, hKl]
  by_cases h1 : wayI k = 1
  · rw [h1] at hw
    have hK : chK s k to = seedI s to := by unfold chK; rw [if_pos h1]
    rw [← hK] at hsd
    clear hsn
    by_cases ht : 0 ≤ to ∧ to ≤ 3
    · have hE : chE k to = 0 := by unfold chE; rw [if_pos h1, if_pos ht]
      unfold VKey
      rw [hE]
      generalize chK s k to = CK at *
      generalize tabV = tbl at *
      unfold MB
      refine enterK (tb := tb) Tryz.func193 rfl Tryz.ntmps193 rfl ?_
      repeat' (first | (apply R.is1; first | (apply R.isBin; (apply R.pure; exact rfl; first | (apply Ok1.lss_f; exact rfl; exact rfl; omega) | (apply Ok1.gtr_f; exact rfl; exact rfl; omega) | (apply Ok1.eql_t; exact rfl; exact rfl; omega) | (apply Ok1.eql_f; exact rfl; exact rfl; omega))) | (apply R.isCall; apply R.callP rfl rfl rfl hw) | (apply R.pure; exact rfl; first | (apply Ok1.sliceArr; (iterate 4 exact rfl)) | (apply Ok1.move; exact rfl) | (apply Ok1.assign; exact rfl) | (apply Ok1.pick_f; exact rfl; exact rfl)) | (apply R.box; (iterate 3 exact rfl); intro)) | (apply R.isG; (apply R.guard_run; exact rfl; exact rfl)) | apply R.nil | (apply T.is; first | (apply T.drawC (id := 6) [0] (by decide); ((apply A.tk 0; exact rfl; kernel_rfl; (apply Ok1.load; exact rfl; (apply Ld.ownk; exact rfl; exact rfl; exact At.head; exact subE_all htl))) <;> (apply A.tk 1; exact rfl; kernel_rfl; (apply Ok1.move; exact rfl)) <;> (apply A.tk 2; exact rfl; kernel_rfl; (apply Ok1.nilCheck; exact rfl)) <;> (apply A.tk 3; exact rfl; kernel_rfl; (apply Ok1.fieldAddr; (iterate 5 exact rfl))) <;> (apply A.tk 4; exact rfl; kernel_rfl; (apply Ok1.sliceArr; (iterate 4 exact rfl))) <;> (apply A.tk 5; exact rfl; kernel_rfl; (apply Ok1.move; exact rfl)) <;> (apply A.two 6 7; kernel_rfl; exact rfl; exact rfl; rotate_left 1; (focus (((((apply R.alloc; (iterate 3 exact rfl); intro))); apply R.nil; refine ⟨?_, ?_⟩; (focus (repeat' first | exact trivial | exact At.head | apply At.tail | refine ⟨?_, ?_⟩))) <;> (apply A.one 6; kernel_rfl; exact rfl; (((apply R.callV (vs := [.agg ⟨tbl⟩, .slice (some ⟨bm, 4, none⟩) 32 32, .int .i64 to]); (iterate 3 exact rfl); intro w1 hw1; exact hsd w1 (mb_key hw1 (by unfold MB; exact At.mem (by (focus (repeat' first | exact At.head | apply At.tail); done)))) ht.1 ht.2))); apply R.nil; refine ⟨?_, ?_⟩; (focus (repeat' first | exact trivial | exact At.head | apply At.tail | refine ⟨?_, ?_⟩))) <;> (apply A.one 8; kernel_rfl; exact rfl; (((apply R.store; (iterate 4 exact rfl); exact hmt; exact u8s_one _; exact Upd.head; exact setE_all hmt))); apply R.nil; refine ⟨?_, ?_⟩; (focus (repeat' first | exact trivial | exact At.head | apply At.tail | refine ⟨?_, ?_⟩))) <;> (apply A.done; kernel_rfl))); rotate_right 1; (focus (((((apply R.callV (vs := [.agg ⟨tbl⟩, .slice (some ⟨bm, 4, none⟩) 32 32, .int .i64 to]); (iterate 3 exact rfl); intro w1 hw1; exact hsd w1 (mb_key hw1 (by unfold MB; exact At.mem (by (focus (repeat' first | exact At.head | apply At.tail); done)))) ht.1 ht.2))); apply R.nil; refine ⟨?_, ?_⟩; (focus ((repeat' (first | exact trivial | (refine ⟨?_, ?_⟩; exact At.head)))))) <;> (apply A.one 7; kernel_rfl; exact rfl; (((apply R.alloc; (iterate 3 exact rfl); intro))); apply R.nil; refine ⟨?_, ?_⟩; (focus (repeat' first | exact trivial | exact At.head | apply At.tail | refine ⟨?_, ?_⟩))) <;> (apply A.one 8; kernel_rfl; exact rfl; (((apply R.store; (iterate 4 exact rfl); exact hmt; exact u8s_one _; exact Upd.head; exact setE_all hmt))); apply R.nil; refine ⟨?_, ?_⟩; (focus (repeat' first | exact trivial | exact At.head | apply At.tail | refine ⟨?_, ?_⟩))) <;> (apply A.done; kernel_rfl)))))) | apply T.seq | apply T.region | apply T.skip | apply T.ret | (apply T.cond_t; exact rfl) | (apply T.cond_f; exact rfl)))
      all_goals (apply RetOk.tt; exact rfl; exact rfl)
      all_goals exact ⟨_, by (focus (repeat' first | exact Keep.nil _ | exact Ext.one _ _ | apply Keep.cons | apply Ext.cons); done), .inr ⟨rfl, _, rfl, rfl⟩⟩
    · have hE : chE k to = 10 := by unfold chE; rw [if_pos h1, if_neg ht]
      unfold VKey
      rw [hE]
      generalize tabV = tbl at *
      refine enterK (tb := tb) Tryz.func193 rfl Tryz.ntmps193 rfl ?_
      repeat' (first | (apply R.is1; first | (apply R.isBin; first | (apply R.pure; exact rfl; first | (apply Ok1.lss_f; exact rfl; exact rfl; omega) | (apply Ok1.gtr_t; exact rfl; exact rfl; omega) | (apply Ok1.gtr_f; exact rfl; exact rfl; omega) | (apply Ok1.eql_t; exact rfl; exact rfl; omega) | (apply Ok1.eql_f; exact rfl; exact rfl; omega)) | (apply R.lss rfl rfl rfl <;> intro)) | (apply R.isCall; apply R.callP rfl rfl rfl hw) | (apply R.pure; exact rfl; first | (apply Ok1.move; exact rfl) | (apply Ok1.assign; exact rfl) | (apply Ok1.pick_t; exact rfl; exact rfl) | (apply Ok1.pick_f; exact rfl; exact rfl)) | (apply R.box; (iterate 3 exact rfl); intro)) | (apply R.isG; first | (apply R.guard_run; exact rfl; exact rfl) | (apply R.guard_not; (iterate 3 exact rfl))) | apply R.nil | (apply T.is; first | apply T.seq | apply T.region | apply T.skip | apply T.ret | (apply T.cond_t; exact rfl) | (apply T.cond_f; exact rfl)))
      all_goals (apply RetOk.tt; exact rfl; exact rfl)
      all_goals exact ⟨_, by (focus (repeat' first | exact Keep.nil _ | exact Ext.one _ _ | apply Keep.cons | apply Ext.cons); done), .inl ⟨by decide, rfl, rfl⟩⟩
  · have h3 : wayI k = 3 := by unfold wayI at *; (repeat' split at h1) <;> (repeat' split at hk) <;> omega
    rw [h3] at hw
    have hK : chK s k to = senderI s to := by unfold chK; rw [if_neg h1]
    rw [← hK] at hsn
    clear hsd
    by_cases ht : 1 ≤ to ∧ to ≤ 65535
    · have hE : chE k to = 0 := by unfold chE; rw [if_neg h1, if_pos h3, if_pos ht]
      unfold VKey
      rw [hE]
      generalize chK s k to = CK at *
      generalize tabV = tbl at *
      unfold MB
      refine enterK (tb := tb) Tryz.func193 rfl Tryz.ntmps193 rfl ?_
      repeat' (first | (apply R.is1; first | (apply R.isBin; (apply R.pure; exact rfl; first | (apply Ok1.lss_f; exact rfl; exact rfl; omega) | (apply Ok1.gtr_f; exact rfl; exact rfl; omega) | (apply Ok1.eql_f; exact rfl; exact rfl; omega))) | (apply R.isCall; apply R.callP rfl rfl rfl hw) | (apply R.pure; exact rfl; first | (apply Ok1.sliceArr; (iterate 4 exact rfl)) | (apply Ok1.move; exact rfl) | (apply Ok1.assign; exact rfl) | (apply Ok1.pick_f; exact rfl; exact rfl)) | (apply R.box; (iterate 3 exact rfl); intro)) | (apply R.isG; (apply R.guard_run; exact rfl; exact rfl)) | apply R.nil | (apply T.is; first | (apply T.drawC (id := 10) [0] (by decide); ((apply A.tk 0; exact rfl; kernel_rfl; (apply Ok1.load; exact rfl; (apply Ld.ownk; exact rfl; exact rfl; exact At.head; exact subE_all htl))) <;> (apply A.tk 1; exact rfl; kernel_rfl; (apply Ok1.move; exact rfl)) <;> (apply A.tk 2; exact rfl; kernel_rfl; (apply Ok1.nilCheck; exact rfl)) <;> (apply A.tk 3; exact rfl; kernel_rfl; (apply Ok1.fieldAddr; (iterate 5 exact rfl))) <;> (apply A.tk 4; exact rfl; kernel_rfl; (apply Ok1.sliceArr; (iterate 4 exact rfl))) <;> (apply A.tk 5; exact rfl; kernel_rfl; (apply Ok1.move; exact rfl)) <;> (apply A.two 6 7; kernel_rfl; exact rfl; exact rfl; rotate_left 1; (focus (((((apply R.alloc; (iterate 3 exact rfl); intro))); apply R.nil; refine ⟨?_, ?_⟩; (focus (repeat' first | exact trivial | exact At.head | apply At.tail | refine ⟨?_, ?_⟩))) <;> (apply A.one 6; kernel_rfl; exact rfl; (((apply R.callV (vs := [.agg ⟨tbl⟩, .slice (some ⟨bm, 4, none⟩) 32 32, .int .i64 to]); (iterate 3 exact rfl); intro w1 hw1; exact hsn w1 (mb_key hw1 (by unfold MB; exact At.mem (by (focus (repeat' first | exact At.head | apply At.tail); done)))) ht.1 ht.2))); apply R.nil; refine ⟨?_, ?_⟩; (focus (repeat' first | exact trivial | exact At.head | apply At.tail | refine ⟨?_, ?_⟩))) <;> (apply A.one 8; kernel_rfl; exact rfl; (((apply R.store; (iterate 4 exact rfl); exact hmt; exact u8s_one _; exact Upd.head; exact setE_all hmt))); apply R.nil; refine ⟨?_, ?_⟩; (focus (repeat' first | exact trivial | exact At.head | apply At.tail | refine ⟨?_, ?_⟩))) <;> (apply A.done; kernel_rfl))); rotate_right 1; (focus (((((apply R.callV (vs := [.agg ⟨tbl⟩, .slice (some ⟨bm, 4, none⟩) 32 32, .int .i64 to]); (iterate 3 exact rfl); intro w1 hw1; exact hsn w1 (mb_key hw1 (by unfold MB; exact At.mem (by (focus (repeat' first | exact At.head | apply At.tail); done)))) ht.1 ht.2))); apply R.nil; refine ⟨?_, ?_⟩; (focus ((repeat' (first | exact trivial | (refine ⟨?_, ?_⟩; exact At.head)))))) <;> (apply A.one 7; kernel_rfl; exact rfl; (((apply R.alloc; (iterate 3 exact rfl); intro))); apply R.nil; refine ⟨?_, ?_⟩; (focus (repeat' first | exact trivial | exact At.head | apply At.tail | refine ⟨?_, ?_⟩))) <;> (apply A.one 8; kernel_rfl; exact rfl; (((apply R.store; (iterate 4 exact rfl); exact hmt; exact u8s_one _; exact Upd.head; exact setE_all hmt))); apply R.nil; refine ⟨?_, ?_⟩; (focus (repeat' first | exact trivial | exact At.head | apply At.tail | refine ⟨?_, ?_⟩))) <;> (apply A.done; kernel_rfl)))))) | apply T.seq | apply T.region | apply T.skip | apply T.ret | (apply T.cond_f; exact rfl)))
      all_goals (apply RetOk.tt; exact rfl; exact rfl)
      all_goals exact ⟨_, by (focus (repeat' first | exact Keep.nil _ | exact Ext.one _ _ | apply Keep.cons | apply Ext.cons); done), .inr ⟨rfl, _, rfl, rfl⟩⟩
    · have hE : chE k to = 10 := by unfold chE; rw [if_neg h1, if_pos h3, if_neg ht]
      unfold VKey
      rw [hE]
      generalize tabV = tbl at *
      refine enterK (tb := tb) Tryz.func193 rfl Tryz.ntmps193 rfl ?_
      repeat' (first | (apply R.is1; first | (apply R.isBin; first | (apply R.pure; exact rfl; first | (apply Ok1.lss_f; exact rfl; exact rfl; omega) | (apply Ok1.gtr_t; exact rfl; exact rfl; omega) | (apply Ok1.gtr_f; exact rfl; exact rfl; omega) | (apply Ok1.eql_f; exact rfl; exact rfl; omega)) | (apply R.lss rfl rfl rfl <;> intro)) | (apply R.isCall; apply R.callP rfl rfl rfl hw) | (apply R.pure; exact rfl; first | (apply Ok1.move; exact rfl) | (apply Ok1.assign; exact rfl) | (apply Ok1.pick_t; exact rfl; exact rfl) | (apply Ok1.pick_f; exact rfl; exact rfl)) | (apply R.box; (iterate 3 exact rfl); intro)) | (apply R.isG; first | (apply R.guard_run; exact rfl; exact rfl) | (apply R.guard_not; (iterate 3 exact rfl))) | apply R.nil | (apply T.is; first | apply T.seq | apply T.region | apply T.skip | apply T.ret | (apply T.cond_t; exact rfl) | (apply T.cond_f; exact rfl)))
      all_goals (apply RetOk.tt; exact rfl; exact rfl)
      all_goals exact ⟨_, by (focus (repeat' first | exact Keep.nil _ | exact Ext.one _ _ | apply Keep.cons | apply Ext.cons); done), .inl ⟨by decide, rfl, rfl⟩⟩
def VWr (bm : Nat) (c : Cl) (s : List Int) (k to boot cnt : Int) (RR : List Value) (n : Nat) (body : List Int) (v : Value) (L : Lst) : Prop := (wrE k to n ≠ 0 ∧ v = .tuple #[.slice none 0 0, .int .i64 (wrE k to n)] ∧ L = [MB bm c s boot cnt RR]) ∨ (wrE k to n = 0 ∧ ∃ ov, OvOk 1 ov (wrG c s k to boot (cnt + 1) body).length (u8s (wrG c s k to boot (cnt + 1) body)) ∧ v = .tuple #[slV ov (wrG c s k to boot (cnt + 1) body).length, .int .i64 0] ∧ L = MB bm c s boot (cnt + 1) RR :: blkL 5 ov (u8s (wrG c s k to boot (cnt + 1) body)))
theorem vwrite16_ok (bm : Nat) (c : Cl) (hr : c.right) (s : List Int) (hs : s.length = 32) (hsb : Byt s) (boot cnt : Int) (hnr : NR boot (cnt + 1)) (h0 : 0 ≤ cnt) (RR : List Value) (k to : Int) (p : Option Addr) (n cap : Nat) (body : List Int) (hn : n = body.length) (hbb : Byt body) (w : World) (hbd : RdSl w p u8V body) (hq : body ≠ [] → Off p [bm]) :
    CallM Tryz.prog 137 [.agg ⟨tabV⟩, .pointer (some ⟨bm, 0, none⟩), .int .i64 k, .int .i64 to, .slice p n cap] [MB bm c s boot cnt RR] w (VWr bm c s k to boot cnt RR n body) := by
  have hcnt : cnt < 2147483647 := by unfold NR at hnr; omega
  have htl := tab_len
  have hky := fun w1 => vkey16_ok bm c s hs hsb boot cnt RR k to w1
  by_cases hE0 : chE k to = 0
  case neg =>
    have hw : wrE k to n = chE k to := by unfold wrE; rw [if_pos hE0]
    have hky2 := fun w1 => (hky w1).wk (R' := fun v L => v = .tuple #[.slice none 0 0, .int .i64 (chE k to)] ∧ L = [MB bm c s boot cnt RR]) (by rintro v L (⟨_, g⟩ | ⟨g, _⟩); exact g; exact absurd g hE0)
    clear hky
    unfold VWr
    rw [hw]
    generalize chE k to = E at *
    generalize tabV = tbl at *
    generalize MB bm c s boot cnt RR = MO at *
    refine enterK (tb := tb) Tryz.func137 rfl Tryz.ntmps137 rfl ?_
    repeat' (first | (apply R.is1; first | (apply R.isBin; (apply R.pure; exact rfl; (apply Ok1.neq_t; exact rfl; exact rfl; omega))) | (apply R.isCall; (apply R.callE (Li := [MO]) (vs := [.agg ⟨tbl⟩, .pointer (some ⟨bm, 0, none⟩), .int .i64 k, .int .i64 to]); (iterate 3 exact rfl); (focus (repeat' first | exact Ext.one _ _ | apply Ext.cons); done); intro w1 hw1; exact hky2 w1; rintro x Lo ⟨rfl, rfl⟩)) | (apply R.pure; exact rfl; first | (apply Ok1.load; exact rfl; (apply Ld.ownk; exact rfl; exact rfl; exact At.head; exact subE_all htl)) | (apply Ok1.move; exact rfl) | (apply Ok1.assign; exact rfl) | (apply Ok1.extract; exact rfl; exact rfl)) | (apply R.box; (iterate 3 exact rfl); intro)) | apply R.nil | (apply T.is; first | apply T.seq | apply T.region | apply T.ret | (apply T.cond_t; exact rfl)))
    all_goals (apply RetOk.tt; exact rfl; exact rfl)
    all_goals exact ⟨_, by (focus (repeat' first | exact Keep.nil _ | exact Ext.one _ _ | apply Keep.cons); done), .inl ⟨hE0, rfl, rfl⟩⟩
  have hky2 := fun w1 => (hky w1).wk (R' := fun v L => ∃ bk, v = .tuple #[.slice (some ⟨bk, 0, none⟩) 32 32, .int .i64 0] ∧ L = [(bk, .cells ⟨u8s (chK s k to)⟩ 98 (0, 0)), MB bm c s boot cnt RR]) (by rintro v L (⟨g, _⟩ | ⟨_, g⟩); exact absurd hE0 g; exact g)
  clear hky
  have hKl := chK_len s k to
  have hKb := chK_byt s k to
  obtain ⟨hkk, htt⟩ := chE_zero hE0
  by_cases h5 : 512 < n
  · have hw : wrE k to n = 2 := by unfold wrE; rw [if_neg (fun g => g hE0), if_pos h5]
    unfold VWr
    rw [hw]
    generalize tabV = tbl at *
    generalize MB bm c s boot cnt RR = MO at *
    refine enterK (tb := tb) Tryz.func137 rfl Tryz.ntmps137 rfl ?_
    repeat' (first | (apply R.is1; first | (apply R.isBin; (apply R.pure; exact rfl; first | (apply Ok1.gtr_t; exact rfl; exact rfl; omega) | (apply Ok1.neq_f; exact rfl; exact rfl; omega))) | (apply R.isCall; first | (apply R.callE (Li := [MO]) (vs := [.agg ⟨tbl⟩, .pointer (some ⟨bm, 0, none⟩), .int .i64 k, .int .i64 to]); (iterate 3 exact rfl); (focus (repeat' first | exact Ext.one _ _ | apply Ext.cons); done); intro w1 hw1; exact hky2 w1; rintro x Lo ⟨bk, rfl, rfl⟩) | (apply R.pure; exact rfl; (apply Ok1.lenS; (iterate 3 exact rfl)))) | (apply R.pure; exact rfl; first | (apply Ok1.load; exact rfl; (apply Ld.ownk; exact rfl; exact rfl; exact At.head; exact subE_all htl)) | (apply Ok1.move; exact rfl) | (apply Ok1.assign; exact rfl) | (apply Ok1.extract; exact rfl; exact rfl)) | (apply R.box; (iterate 3 exact rfl); intro)) | apply R.nil | (apply T.is; first | apply T.seq | apply T.region | apply T.skip | apply T.ret | (apply T.cond_t; exact rfl) | (apply T.cond_f; exact rfl)))
    all_goals (apply RetOk.tt; exact rfl; exact rfl)
    all_goals exact ⟨_, by (focus (repeat' first | exact Keep.nil _ | exact Ext.one _ _ | apply Keep.cons | apply Ext.cons); done), .inl ⟨by decide, rfl, rfl⟩⟩
  have hw : wrE k to n = 0 := by unfold wrE; rw [if_neg (fun g => g hE0), if_neg h5]
  have hz : (zI 32).length = 32 := rfl
  have hwl := wrT_len s k c to boot (cnt + 1) body
  have htg := fun bk w1 (hc : Chg [bm] w w1) (hk : RdSl w1 (some ⟨bk, 0, none⟩) u8V (chK s k to)) => vtag14_ok (some ⟨bk, 0, none⟩) 32 32 (chK s k to) hKl.symm (by decide) hKb k c to boot (cnt + 1) p n cap (zI 32) body hz (by omega) (by omega) hr htt.1 htt.2 hnr hn (by omega) hbb w1 hk (hbd.chg' hc hq)
  have hby := fun (t : List Int) (ht : t.length = 32) w1 (hc : Chg [bm] w w1) => vbytes14_ok k c to boot (cnt + 1) p n cap t body ht (by omega) (by omega) hr htt.1 htt.2 hnr hn (by omega) w1 (hbd.chg' hc hq)
  have hmb := mb_at (c := c) hs boot cnt RR 1
  have hmb0 := mb_at (c := c) hs boot (cnt + 1) RR 0
  have hmb1 := mb_at (c := c) hs boot (cnt + 1) RR 1
  have hms := mb_set (c := c) hs boot cnt (cnt + 1) RR
  have hmc := mb_cl c s boot (cnt + 1) RR
  have hpl := fun (t : List Int) (ht : t.length = 32) => pk_len k c to boot (cnt + 1) p n cap ht
  have hfill : ∀ a b e f g h, fillE (fldPl [(a, 0, 1), (b, 1, 4), (e, 5, 1), (f, 6, 2), (g, 8, 1), (h, 9, 32)]) (pkC 0 cl0 0 0 0 none 0 0 (zI 32)) [(0, .int .i64 k), (1, .agg ⟨clC c⟩), (2, .int .i64 to), (3, .agg ⟨[.int .i64 boot, .int .i64 (cnt + 1)]⟩), (4, .slice p n cap)] = some (pkC k c to boot (cnt + 1) p n cap (zI 32)) := fun _ _ _ _ _ _ => rfl
  unfold VWr
  rw [hw]
  unfold wrG
  by_cases h1 : k = 1
  · have hT : wrT s k c to boot (cnt + 1) body = zI 32 := by unfold wrT; rw [if_pos h1]
    rw [hT]
    have hby1 := hby (zI 32) hz
    clear htg hby
    have hpl1 := hpl (zI 32) hz
    generalize pkB k c to boot (cnt + 1) body (zI 32) = PB at *
    generalize chK s k to = CK at *
    generalize tabV = tbl at *
    generalize hPK : pkC k c to boot (cnt + 1) p n cap (zI 32) = PK at *
    have hPo : PK.all Value.oneCell' = true := by rw [← hPK]; exact pk_one _ _ _ _ _ _ _ _ _
    clear hPK
    unfold MB at hky2 ⊢
    generalize mbC c s boot cnt RR = MA at *
    generalize mbC c s boot (cnt + 1) RR = MA2 at *
    refine enterK (tb := tb) Tryz.func137 rfl Tryz.ntmps137 rfl ?_
    repeat' (first | (apply R.is1; first | (apply R.isBin; (apply R.pure; exact rfl; first | (apply Ok1.add64; exact rfl; exact rfl; omega; omega) | (apply Ok1.gtr_f; exact rfl; exact rfl; omega) | (apply Ok1.neq_f; exact rfl; exact rfl; omega))) | (apply R.isCall; first | (apply R.callE (Li := [(bm, .cells ⟨MA⟩ 267 (0, 0))]) (vs := [.agg ⟨tbl⟩, .pointer (some ⟨bm, 0, none⟩), .int .i64 k, .int .i64 to]); (iterate 3 exact rfl); (focus (repeat' first | exact Ext.one _ _ | apply Ext.cons); done); intro w1 hw1; exact hky2 w1; rintro x Lo ⟨bk, rfl, rfl⟩) | (apply R.pure; exact rfl; (apply Ok1.lenS; (iterate 3 exact rfl)))) | (apply R.pure; exact rfl; first | (apply Ok1.load; exact rfl; first | (apply Ld.ownk; exact rfl; exact rfl; exact At.head; exact subE_all htl) | (apply Ld.own1; exact rfl; exact rfl; (focus (repeat' first | exact At.head | apply At.tail); done); exact hmb)) | (apply Ok1.move; exact rfl) | (apply Ok1.fieldAddr; (iterate 5 exact rfl)) | (apply Ok1.assign; exact rfl) | (apply Ok1.extract; exact rfl; exact rfl) | (apply Ok1.nilCheck; exact rfl)) | (apply R.box; (iterate 3 exact rfl); intro)) | (apply R.is0; (apply R.store; (iterate 6 exact rfl); (focus (repeat' first | exact Upd.head | apply Upd.tail); done); exact hms)) | apply R.nil | (apply T.is; first | (apply T.stop1 7) | apply T.seq | apply T.region | apply T.skip | (apply T.cond_f; exact rfl)))
    rename_i b5
    refine ⟨?_⟩
    refine T.weakK (σ' := [(1, .pointer (some ⟨bm, 0, none⟩)), (2, .int .i64 k), (3, .int .i64 to), (4, .slice p n cap), (5, .pointer (some ⟨b5, 0, none⟩)), (12, .slice (some ⟨bk, 0, none⟩) 32 32)]) (L' := [(bm, .cells ⟨MA2⟩ 267 (0, 0)), (b5, .cells ⟨tbl⟩ 56 (0, 0)), (bk, .cells ⟨u8s CK⟩ 98 (0, 0))]) ?_ (by (focus (repeat' first | exact Keep.nil _ | exact Ext.one _ _ | apply Keep.cons | apply Ext.cons); done)) ⟨rfl, rfl, rfl, rfl, rfl, rfl, trivial⟩
    repeat' (first | (apply R.is1; first | (apply R.isBin; (apply R.pure; exact rfl; (apply Ok1.neq_f; exact rfl; exact rfl; omega))) | (apply R.isCall; (apply R.callE (vs := [.agg ⟨PK⟩]); (iterate 3 exact rfl); exact Ext.none _; intro w1 hw1; exact hby1 w1 hw1.chg; rintro x Lo ⟨ovb, hovb, rfl, rfl⟩)) | (apply R.pure; exact rfl; first | (apply Ok1.load; exact rfl; (apply Ld.ownk; exact rfl; exact rfl; exact At.head; exact subE_all hpl1)) | (apply Ok1.move; exact rfl) | (apply Ok1.assign; exact rfl))) | apply R.nil | (apply T.is; first | (apply T.drawC (id := 7) [0] (by decide); ((apply A.tk 0; exact rfl; kernel_rfl; (apply Ok1.move; exact rfl)) <;> (apply A.tk 1; exact rfl; kernel_rfl; (apply Ok1.move; exact rfl)) <;> (apply A.tk 2; exact rfl; kernel_rfl; (apply Ok1.nilCheck; exact rfl)) <;> (apply A.tk 3; exact rfl; kernel_rfl; (apply Ok1.fieldAddr; (iterate 5 exact rfl))) <;> (apply A.tk 4; exact rfl; kernel_rfl; (apply Ok1.load; exact rfl; (apply Ld.ownk; exact rfl; exact rfl; exact At.head; exact hmc))) <;> (apply A.tk 5; exact rfl; kernel_rfl; (apply Ok1.move; exact rfl)) <;> (apply A.tk 6; exact rfl; kernel_rfl; (apply Ok1.move; exact rfl)) <;> (apply A.tk 7; exact rfl; kernel_rfl; (apply Ok1.nilCheck; exact rfl)) <;> (apply A.tk 8; exact rfl; kernel_rfl; (apply Ok1.fieldAddr; (iterate 5 exact rfl))) <;> (apply A.tk 9; exact rfl; kernel_rfl; (apply Ok1.load; exact rfl; (apply Ld.own1; exact rfl; exact rfl; exact At.head; exact hmb0))) <;> (apply A.tk 10; exact rfl; kernel_rfl; (apply Ok1.move; exact rfl)) <;> (apply A.tk 11; exact rfl; kernel_rfl; (apply Ok1.nilCheck; exact rfl)) <;> (apply A.tk 12; exact rfl; kernel_rfl; (apply Ok1.fieldAddr; (iterate 5 exact rfl))) <;> (apply A.tk 13; exact rfl; kernel_rfl; (apply Ok1.load; exact rfl; (apply Ld.own1; exact rfl; exact rfl; exact At.head; exact hmb1))) <;> (apply A.tk 14; exact rfl; kernel_rfl; (apply Ok1.build; (iterate 5 exact rfl))) <;> (apply A.tk 15; exact rfl; kernel_rfl; (apply Ok1.move; exact rfl)) <;> (apply A.tk 16; exact rfl; kernel_rfl; (apply Ok1.build; (iterate 4 exact rfl); exact hfill _ _ _ _ _ _)) <;> (apply A.one 17; kernel_rfl; exact rfl; (((apply R.alloc; (iterate 3 exact rfl); intro))); apply R.nil; refine ⟨?_, ?_⟩; (focus (repeat' first | exact trivial | exact At.head | apply At.tail | refine ⟨?_, ?_⟩))) <;> (apply A.one 18; kernel_rfl; exact rfl; (((apply R.store; (iterate 4 exact rfl); exact hpl1; exact hPo; exact Upd.head; exact setE_all hpl1))); apply R.nil; refine ⟨?_, ?_⟩; (focus (repeat' first | exact trivial | exact At.head | apply At.tail | refine ⟨?_, ?_⟩))) <;> (apply A.done; kernel_rfl))) | apply T.seq | apply T.region | apply T.skip | apply T.ret | (apply T.cond_f; exact rfl)))
    all_goals (apply RetOk.tt; exact rfl; exact rfl)
    all_goals exact ⟨_, by (focus (repeat' first | exact Ext.one _ _ | exact Ext.here _ _ | apply Keep.cons | apply Keep.last | apply Ext.cons | apply Ext.app); done), .inr ⟨rfl, ovb, hovb, rfl, rfl⟩⟩
  · have hT : wrT s k c to boot (cnt + 1) body = pkT (chK s k to) k c to boot (cnt + 1) body := by unfold wrT; rw [if_neg h1]
    rw [hT] at hwl ⊢
    have hby1 := hby _ hwl
    clear hby
    have hpl1 := hpl (zI 32) hz
    have hpl2 := hpl _ hwl
    have hset := pk_set k c to boot (cnt + 1) p n cap hz hwl
    have hPo2 := pk_one k c to boot (cnt + 1) p n cap (pkT (chK s k to) k c to boot (cnt + 1) body)
    generalize pkT (chK s k to) k c to boot (cnt + 1) body = TG at *
    generalize pkB k c to boot (cnt + 1) body TG = PB at *
    generalize chK s k to = CK at *
    generalize tabV = tbl at *
    generalize hPK : pkC k c to boot (cnt + 1) p n cap (zI 32) = PK at *
    have hPo : PK.all Value.oneCell' = true := by rw [← hPK]; exact pk_one _ _ _ _ _ _ _ _ _
    clear hPK
    generalize pkC k c to boot (cnt + 1) p n cap TG = PK2 at *
    have hul : (u8s TG).length = 32 := by rw [u8s_len, hwl]
    unfold MB at hky2 ⊢
    generalize mbC c s boot cnt RR = MA at *
    generalize mbC c s boot (cnt + 1) RR = MA2 at *
    refine enterK (tb := tb) Tryz.func137 rfl Tryz.ntmps137 rfl ?_
    repeat' (first | (apply R.is1; first | (apply R.isBin; (apply R.pure; exact rfl; first | (apply Ok1.add64; exact rfl; exact rfl; omega; omega) | (apply Ok1.gtr_f; exact rfl; exact rfl; omega) | (apply Ok1.neq_f; exact rfl; exact rfl; omega))) | (apply R.isCall; first | (apply R.callE (Li := [(bm, .cells ⟨MA⟩ 267 (0, 0))]) (vs := [.agg ⟨tbl⟩, .pointer (some ⟨bm, 0, none⟩), .int .i64 k, .int .i64 to]); (iterate 3 exact rfl); (focus (repeat' first | exact Ext.one _ _ | apply Ext.cons); done); intro w1 hw1; exact hky2 w1; rintro x Lo ⟨bk, rfl, rfl⟩) | (apply R.pure; exact rfl; (apply Ok1.lenS; (iterate 3 exact rfl)))) | (apply R.pure; exact rfl; first | (apply Ok1.load; exact rfl; first | (apply Ld.ownk; exact rfl; exact rfl; exact At.head; exact subE_all htl) | (apply Ld.own1; exact rfl; exact rfl; (focus (repeat' first | exact At.head | apply At.tail); done); exact hmb)) | (apply Ok1.move; exact rfl) | (apply Ok1.fieldAddr; (iterate 5 exact rfl)) | (apply Ok1.assign; exact rfl) | (apply Ok1.extract; exact rfl; exact rfl) | (apply Ok1.nilCheck; exact rfl)) | (apply R.box; (iterate 3 exact rfl); intro)) | (apply R.is0; (apply R.store; (iterate 6 exact rfl); (focus (repeat' first | exact Upd.head | apply Upd.tail); done); exact hms)) | apply R.nil | (apply T.is; first | (apply T.stop1 7) | apply T.seq | apply T.region | apply T.skip | (apply T.cond_f; exact rfl)))
    rename_i b5
    refine ⟨?_⟩
    refine T.weakK (σ' := [(1, .pointer (some ⟨bm, 0, none⟩)), (2, .int .i64 k), (3, .int .i64 to), (4, .slice p n cap), (5, .pointer (some ⟨b5, 0, none⟩)), (12, .slice (some ⟨bk, 0, none⟩) 32 32)]) (L' := [(bm, .cells ⟨MA2⟩ 267 (0, 0)), (b5, .cells ⟨tbl⟩ 56 (0, 0)), (bk, .cells ⟨u8s CK⟩ 98 (0, 0))]) ?_ (by (focus (repeat' first | exact Keep.nil _ | exact Ext.one _ _ | apply Keep.cons | apply Ext.cons); done)) ⟨rfl, rfl, rfl, rfl, rfl, rfl, trivial⟩
    repeat' (first | (apply R.is1; first | (apply R.isBin; (apply R.pure; exact rfl; (apply Ok1.neq_t; exact rfl; exact rfl; omega))) | (apply R.isCall; first | (apply R.callE (vs := [.agg ⟨tbl⟩, .slice (some ⟨bk, 0, none⟩) 32 32, .agg ⟨PK⟩]); (iterate 3 exact rfl); exact Ext.none _; intro w1 hw1; exact htg bk w1 hw1.chg (RdSl.of (junk := []) hw1 (by (focus (repeat' first | exact At.head | apply At.tail); done)) (by rw [fl_u8, List.append_nil])); rintro x Lo ⟨rfl, rfl⟩) | (apply R.callE (vs := [.agg ⟨PK2⟩]); (iterate 3 exact rfl); exact Ext.none _; intro w1 hw1; exact hby1 w1 hw1.chg; rintro x Lo ⟨ovb, hovb, rfl, rfl⟩)) | (apply R.pure; exact rfl; first | (apply Ok1.load; exact rfl; first | (apply Ld.ownk; exact rfl; exact rfl; (focus (repeat' first | exact At.head | apply At.tail); done); exact subE_all hpl1) | (apply Ld.ownk; exact rfl; exact rfl; (focus (repeat' first | exact At.head | apply At.tail); done); exact subE_all hpl2) | (apply Ld.ownk; exact rfl; exact rfl; (focus (repeat' first | exact At.head | apply At.tail); done); exact subE_all htl)) | (apply Ok1.move; exact rfl) | (apply Ok1.fieldAddr; (iterate 5 exact rfl)) | (apply Ok1.assign; exact rfl))) | (apply R.is0; (apply R.store; (iterate 4 exact rfl); exact hul; exact u8s_one _; exact Upd.head; exact hset)) | apply R.nil | (apply T.is; first | (apply T.drawC (id := 7) [0] (by decide); ((apply A.tk 0; exact rfl; kernel_rfl; (apply Ok1.move; exact rfl)) <;> (apply A.tk 1; exact rfl; kernel_rfl; (apply Ok1.move; exact rfl)) <;> (apply A.tk 2; exact rfl; kernel_rfl; (apply Ok1.nilCheck; exact rfl)) <;> (apply A.tk 3; exact rfl; kernel_rfl; (apply Ok1.fieldAddr; (iterate 5 exact rfl))) <;> (apply A.tk 4; exact rfl; kernel_rfl; (apply Ok1.load; exact rfl; (apply Ld.ownk; exact rfl; exact rfl; exact At.head; exact hmc))) <;> (apply A.tk 5; exact rfl; kernel_rfl; (apply Ok1.move; exact rfl)) <;> (apply A.tk 6; exact rfl; kernel_rfl; (apply Ok1.move; exact rfl)) <;> (apply A.tk 7; exact rfl; kernel_rfl; (apply Ok1.nilCheck; exact rfl)) <;> (apply A.tk 8; exact rfl; kernel_rfl; (apply Ok1.fieldAddr; (iterate 5 exact rfl))) <;> (apply A.tk 9; exact rfl; kernel_rfl; (apply Ok1.load; exact rfl; (apply Ld.own1; exact rfl; exact rfl; exact At.head; exact hmb0))) <;> (apply A.tk 10; exact rfl; kernel_rfl; (apply Ok1.move; exact rfl)) <;> (apply A.tk 11; exact rfl; kernel_rfl; (apply Ok1.nilCheck; exact rfl)) <;> (apply A.tk 12; exact rfl; kernel_rfl; (apply Ok1.fieldAddr; (iterate 5 exact rfl))) <;> (apply A.tk 13; exact rfl; kernel_rfl; (apply Ok1.load; exact rfl; (apply Ld.own1; exact rfl; exact rfl; exact At.head; exact hmb1))) <;> (apply A.tk 14; exact rfl; kernel_rfl; (apply Ok1.build; (iterate 5 exact rfl))) <;> (apply A.tk 15; exact rfl; kernel_rfl; (apply Ok1.move; exact rfl)) <;> (apply A.tk 16; exact rfl; kernel_rfl; (apply Ok1.build; (iterate 4 exact rfl); exact hfill _ _ _ _ _ _)) <;> (apply A.one 17; kernel_rfl; exact rfl; (((apply R.alloc; (iterate 3 exact rfl); intro))); apply R.nil; refine ⟨?_, ?_⟩; (focus (repeat' first | exact trivial | exact At.head | apply At.tail | refine ⟨?_, ?_⟩))) <;> (apply A.one 18; kernel_rfl; exact rfl; (((apply R.store; (iterate 4 exact rfl); exact hpl1; exact hPo; exact Upd.head; exact setE_all hpl1))); apply R.nil; refine ⟨?_, ?_⟩; (focus (repeat' first | exact trivial | exact At.head | apply At.tail | refine ⟨?_, ?_⟩))) <;> (apply A.done; kernel_rfl))) | apply T.seq | apply T.region | apply T.ret | (apply T.cond_t; exact rfl)))
    all_goals (apply RetOk.tt; exact rfl; exact rfl)
    all_goals exact ⟨_, by (focus (repeat' first | exact Ext.one _ _ | exact Ext.here _ _ | apply Keep.cons | apply Keep.last | apply Ext.cons | apply Ext.app); done), .inr ⟨rfl, ovb, hovb, rfl, rfl⟩⟩
theorem u64_rangeM (v : Int) : 0 ≤ IntKind.u64.wrap v ∧ IntKind.u64.wrap v ≤ 18446744073709551615 := by
  have : IntKind.u64.wrap v = v % 18446744073709551616 := by simp [IntKind.wrap, IntKind.bits, IntKind.signed]
  omega
/-- The claims that a token is made of. -/
noncomputable def tcl (c : Cl) : Cl := open Classical in if c.right then c else ⟨1, 0, 0, 1⟩
theorem tcl_right (c : Cl) : (tcl c).right := by
  unfold tcl
  split
  · assumption
  · decide
theorem ltoken_any (p : Option Addr) (n cap : Nat) (k : List Int) (hn : n = k.length) (hkl : n ≤ 999999000) (hkb : Byt k) (c : Cl) (w : World) (hp : RdSl w p u8V k) :
    CallM Tryz.prog 132 [.slice p n cap, kvC c] [] w fun v L => v = .agg ⟨tkC (tcl c) (secretI k (tcl c))⟩ ∧ L = [] := by
  by_cases hr : c.right
  · have ht : tcl c = c := by unfold tcl; rw [if_pos hr]
    rw [ht]
    exact CallW.toM (ltoken_ok p n cap k hn hkl hkb c hr w hp)
  have ht : tcl c = ⟨1, 0, 0, 1⟩ := by unfold tcl; rw [if_neg hr]
  rw [ht]
  subst hn
  have hr1 : (⟨1, 0, 0, 1⟩ : Cl).right := by decide
  have hsl := secret_len k ⟨1, 0, 0, 1⟩
  have hmk := fun bk w1 hk => make_ok ⟨1, 0, 0, 1⟩ hr1 bk k hkl hkb w1 hk
  have hmb := fun bk => make_bad c hr bk
  generalize secretI k ⟨1, 0, 0, 1⟩ = d at *
  have htl := tk_len (c := ⟨1, 0, 0, 1⟩) hsl
  have hto := tk_one ⟨1, 0, 0, 1⟩ d
  have htl0 : (tkC ⟨0, 0, 0, 0⟩ (zI 32)).length = 36 := rfl
  refine enterK (tb := tb) Tryz.func132 rfl Tryz.ntmps132 rfl ?_
  simp only [kvC] at hmk hmb ⊢
  repeat' (first | (apply R.is1; first | (apply R.isBin; (apply R.pure; exact rfl; (apply Ok1.neq_t; exact rfl; exact rfl; omega))) | (apply R.isCall; first | (apply R.callE (vs := [.slice p k.length cap]); (iterate 3 exact rfl); exact Ext.none _; intro w1 hw1; exact new_ok p k.length cap k rfl (by omega) w1 (hp.chg' hw1.chg (fun _ => Off.nil _)); rintro v Lo ⟨bk2, ov2, rfl, hov2, _, rfl⟩) | (apply R.callV (vs := [.pointer (some ⟨bk2, 0, none⟩), .agg _]); (iterate 3 exact rfl); intro w1 hw1; exact hmk bk2 w1 (KeyR.of hov2 hw1 (Ext.mem (by (focus ((repeat' (exact Ext.here _ _)); done))))))) | (apply R.pure; exact rfl; first | (apply Ok1.load; exact rfl; apply Ld.ownk; exact rfl; exact rfl; (focus (repeat' first | exact At.head | apply At.tail | apply At.right); done); exact subE_all htl) | (apply Ok1.move; exact rfl) | (apply Ok1.build; (iterate 5 exact rfl)) | (apply Ok1.extract; exact rfl; exact rfl)) | (apply R.box; (iterate 3 exact rfl); intro) | (apply R.alloc; (iterate 3 exact rfl); intro)) | (apply R.is0; (apply R.store; (iterate 4 exact rfl); exact htl; exact hto; (focus (repeat' first | exact Upd.head | apply Upd.tail | apply Upd.right); done); exact setE_all htl)) | apply R.nil | (apply T.is; first | (apply T.drawC (id := 1) [1] (by decide); ((apply A.tk 0; exact rfl; kernel_rfl; (apply Ok1.move; exact rfl)) <;> (apply A.tk 2; exact rfl; kernel_rfl; (apply Ok1.load; exact rfl; (apply Ld.ownk; exact rfl; exact rfl; exact At.head; exact rfl))) <;> (apply A.two 1 8; kernel_rfl; exact rfl; exact rfl; rotate_left 1; (focus (((((apply R.alloc; (iterate 3 exact rfl); intro))); apply R.nil; refine ⟨?_, ?_⟩; (focus (repeat' first | exact trivial | exact At.head | apply At.tail | refine ⟨?_, ?_⟩))) <;> (apply A.one 1; kernel_rfl; exact rfl; (((apply R.callE (vs := [.slice p k.length cap]); (iterate 3 exact rfl); exact Ext.none _; intro w1 hw1; exact new_ok p k.length cap k rfl (by omega) w1 (hp.chg' hw1.chg (fun _ => Off.nil _)); rintro v Lo ⟨bk2, ov2, rfl, hov2, _, rfl⟩))); apply R.nil; refine ⟨?_, ?_⟩; (focus (repeat' first | exact trivial | exact At.head | apply At.tail | apply At.right | refine ⟨?_, ?_⟩))) <;> (apply A.call 3; exact rfl; exact rfl; kernel_rfl; kernel_rfl; kernel_rfl; exact rfl; exact rfl; (exact fun w1 _ => (to5_ok _ _ _ _).w w1)) <;> (apply A.one 4; kernel_rfl; exact rfl; (((apply R.callP (vs := [.pointer (some ⟨_, 0, none⟩), .agg ⟨[.int .i64 c.id, .int .i64 c.roles, .int .i64 c.exp, .int .i64 c.ser]⟩]); (iterate 3 exact rfl); exact hmb _))); apply R.nil; refine ⟨?_, ?_⟩; (focus (repeat' first | exact trivial | exact At.head | apply At.tail | apply At.right | refine ⟨?_, ?_⟩))) <;> (apply A.tk 5; exact rfl; kernel_rfl; (apply Ok1.move; exact rfl)) <;> (apply A.tk 6; exact rfl; kernel_rfl; (apply Ok1.extract; exact rfl; exact rfl)) <;> (apply A.tk 7; exact rfl; kernel_rfl; (apply Ok1.extract; exact rfl; exact rfl)) <;> (apply A.one 9; kernel_rfl; exact rfl; (((apply R.store; (iterate 4 exact rfl); exact htl0; exact rfl; (focus (repeat' first | exact Upd.head | apply Upd.tail | apply Upd.right); done); exact setE_all htl0))); apply R.nil; refine ⟨?_, ?_⟩; (focus (repeat' first | exact trivial | exact At.head | apply At.tail | apply At.right | refine ⟨?_, ?_⟩))) <;> (apply A.tk 10; exact rfl; kernel_rfl; (apply Ok1.assign; exact rfl)) <;> (apply A.done; kernel_rfl))); rotate_right 1; (focus (((((apply R.callE (vs := [.slice p k.length cap]); (iterate 3 exact rfl); exact Ext.none _; intro w1 hw1; exact new_ok p k.length cap k rfl (by omega) w1 (hp.chg' hw1.chg (fun _ => Off.nil _)); rintro v Lo ⟨bk2, ov2, rfl, hov2, _, rfl⟩))); apply R.nil; refine ⟨?_, ?_⟩; (focus (repeat' first | exact trivial | exact At.head | apply At.tail | apply At.right | refine ⟨?_, ?_⟩))) <;> (apply A.call 3; exact rfl; exact rfl; kernel_rfl; kernel_rfl; kernel_rfl; exact rfl; exact rfl; (exact fun w1 _ => (to5_ok _ _ _ _).w w1)) <;> (apply A.two 4 8; kernel_rfl; exact rfl; exact rfl; rotate_left 1; (focus (((((apply R.alloc; (iterate 3 exact rfl); intro))); apply R.nil; refine ⟨?_, ?_⟩; (focus (repeat' first | exact trivial | exact At.head | apply At.tail | apply At.right | refine ⟨?_, ?_⟩))) <;> (apply A.one 4; kernel_rfl; exact rfl; (((apply R.callP (vs := [.pointer (some ⟨_, 0, none⟩), .agg ⟨[.int .i64 c.id, .int .i64 c.roles, .int .i64 c.exp, .int .i64 c.ser]⟩]); (iterate 3 exact rfl); exact hmb _))); apply R.nil; refine ⟨?_, ?_⟩; (focus (repeat' first | exact trivial | exact At.head | apply At.tail | apply At.right | refine ⟨?_, ?_⟩))) <;> (apply A.tk 5; exact rfl; kernel_rfl; (apply Ok1.move; exact rfl)) <;> (apply A.tk 6; exact rfl; kernel_rfl; (apply Ok1.extract; exact rfl; exact rfl)) <;> (apply A.tk 7; exact rfl; kernel_rfl; (apply Ok1.extract; exact rfl; exact rfl)) <;> (apply A.one 9; kernel_rfl; exact rfl; (((apply R.store; (iterate 4 exact rfl); exact htl0; exact rfl; exact Upd.head; exact setE_all htl0))); apply R.nil; refine ⟨?_, ?_⟩; (focus (repeat' first | exact trivial | exact At.head | apply At.tail | apply At.right | refine ⟨?_, ?_⟩))) <;> (apply A.tk 10; exact rfl; kernel_rfl; (apply Ok1.assign; exact rfl)) <;> (apply A.done; kernel_rfl))); rotate_right 1; (focus (((((apply R.callP (vs := [.pointer (some ⟨_, 0, none⟩), .agg ⟨[.int .i64 c.id, .int .i64 c.roles, .int .i64 c.exp, .int .i64 c.ser]⟩]); (iterate 3 exact rfl); exact hmb _))); apply R.nil; refine ⟨?_, ?_⟩; (focus (repeat' first | exact trivial | exact At.head | apply At.tail | apply At.right | refine ⟨?_, ?_⟩))) <;> (apply A.tk 5; exact rfl; kernel_rfl; (apply Ok1.move; exact rfl)) <;> (apply A.tk 6; exact rfl; kernel_rfl; (apply Ok1.extract; exact rfl; exact rfl)) <;> (apply A.tk 7; exact rfl; kernel_rfl; (apply Ok1.extract; exact rfl; exact rfl)) <;> (apply A.one 8; kernel_rfl; exact rfl; (((apply R.alloc; (iterate 3 exact rfl); intro))); apply R.nil; refine ⟨?_, ?_⟩; (focus (repeat' first | exact trivial | exact At.head | apply At.tail | apply At.right | refine ⟨?_, ?_⟩))) <;> (apply A.one 9; kernel_rfl; exact rfl; (((apply R.store; (iterate 4 exact rfl); exact htl0; exact rfl; exact Upd.head; exact setE_all htl0))); apply R.nil; refine ⟨?_, ?_⟩; (focus (repeat' first | exact trivial | exact At.head | apply At.tail | apply At.right | refine ⟨?_, ?_⟩))) <;> (apply A.tk 10; exact rfl; kernel_rfl; (apply Ok1.assign; exact rfl)) <;> (apply A.done; kernel_rfl))))))))) | apply T.seq | apply T.region | apply T.ret | (apply T.cond_t; exact rfl)))
  all_goals apply RetOk.c
  all_goals first | exact rfl | skip
  all_goals first | (apply Ld.ownk; exact rfl; exact rfl; (focus (repeat' first | exact At.head | apply At.tail | apply At.right); done); exact subE_all htl) | exact ⟨_, by (focus ((repeat' (exact Keep.nil _)); done)), rfl, rfl⟩
/-- A boot out of any number. -/
def btI (n : Int) : Int := 1 + IntKind.u64.wrap n % 65535
theorem btI_nr (n : Int) : NR (btI n) 1 := by
  unfold btI NR
  obtain ⟨h0, h1⟩ := u64_rangeM n
  generalize IntKind.u64.wrap n = u at *
  omega
/-- The rest of a new member's cells. -/
def mbR0 : List Value := [.slice none 0 0, .slice none 0 0, .slice none 0 0, .slice none 0 0, .slice none 0 0, .slice none 0 0, .slice none 0 0, .slice none 0 0, .slice none 0 0, .int .i64 0]
theorem fill_mb (c : Cl) (s : List Int) (hs : s.length = 32) (boot : Int) (a b d e f g h i : Nat) : fillE (fldPl [(a, 0, 4), (b, 4, 32), (d, 36, 1), (e, 37, 1), (f, 38, 1), (g, 39, 4), (h, 43, 4), (i, 47, 1)]) (mbC ⟨0, 0, 0, 0⟩ (zI 32) 0 0 mbR0) [(0, .agg ⟨clC c⟩), (1, .agg ⟨u8s s⟩), (2, .int .i64 boot)] = some (mbC c s boot 0 mbR0) := by
  obtain ⟨x0, x1, x2, x3, x4, x5, x6, x7, x8, x9, x10, x11, x12, x13, x14, x15, x16, x17, x18, x19, x20, x21, x22, x23, x24, x25, x26, x27, x28, x29, x30, x31, rfl⟩ := list32 s hs
  rfl
theorem tk_sc (c : Cl) {s : List Int} (hs : s.length = 32) : subE (tkC c s) 4 32 = some (u8s s) := by
  show subE (u8s s) 0 32 = some (u8s s)
  exact subE_all (by rw [u8s_len, hs])
theorem mb_one (c : Cl) (s : List Int) (boot n : Int) (RR : List Value) (h : RR.all Value.oneCell' = true) : (mbC c s boot n RR).all Value.oneCell' = true := by
  unfold mbC
  simp only [List.all_append, List.all_cons, u8s_one, Bool.true_and, h, Bool.and_true]
  rfl
theorem make16_ok (p : Option Addr) (n cap : Nat) (x : List Int) (hn : n = x.length) (hcap : n ≤ cap) (hb : Byt x) (c : Cl) (boot : Int) (w : World) (hp : RdSl w p u8V x) :
    CallM Tryz.prog 48 [.slice p n cap, kvC c, .int .i64 boot, .slice none 0 0, .slice none 0 0] [] w fun v L => ∃ s bc bn br bb bd bm m1 m2 sd dr bM bS, s.length = 32 ∧ Byt s ∧ v = .tuple #[.pointer (some ⟨bc, 0, none⟩), .pointer (some ⟨bM, 0, none⟩), .pointer (some ⟨bS, 0, none⟩)] ∧ L = MB bM (tcl c) s (btI boot) 0 mbR0 :: (SetL bS [lg0, lg0, lg0, lg0] ++ ChL bc bn br bb bd bm m1 m2 (tcl c) s (btI boot) sd dr) := by
  obtain ⟨m0, hm0⟩ : ∃ m, m = min n 60 := ⟨_, rfl⟩
  have e0 : min (n : Int) 60 = (m0 : Nat) := by omega
  have l0 : m0 = (x.take m0).length := by rw [List.length_take]; omega
  have htk := fun w1 (h : Chg [] w w1) => ltoken_any p m0 cap (x.take m0) l0 (by omega) (fun y hy => hb y (List.mem_of_mem_take hy)) c w1 ((hp.pre u8V_len m0).chg' h (fun _ => Off.nil _))
  have hr := tcl_right c
  have hsl := secret_len (x.take m0) (tcl c)
  have hsb := secret_byt (x.take m0) (tcl c)
  simp only [kvC] at htk
  generalize secretI (x.take m0) (tcl c) = s at *
  generalize tcl c = d at *
  have htl := tk_len (c := d) hsl
  have hto := tk_one d s
  have htc := tk_cl d s
  have hts := tk_sc d hsl
  have hnr := btI_nr boot
  obtain ⟨hu0, hu1⟩ := u64_rangeM boot
  have hbt : 1 + IntKind.u64.wrap boot % 65535 = btI boot := rfl
  refine enterK (tb := tb) Tryz.func48 rfl Tryz.ntmps48 rfl ?_
  simp only [kvC]
  repeat' (first | (apply R.is1; first | (apply R.isBin; (apply R.pure; exact rfl; first | (apply Ok1.add64; exact rfl; exact rfl; omega; omega) | (apply Ok1.remN; exact rfl; exact rfl; omega; omega))) | (apply R.pure; exact rfl; first | (apply Ok1.move; exact rfl) | (apply Ok1.assign; exact rfl) | (apply Ok1.convI64; (iterate 5 exact rfl); omega; omega) | (apply Ok1.conv; (iterate 5 exact rfl))) | (apply R.box; (iterate 3 exact rfl); intro)) | apply R.nil | (apply T.is; first | (apply T.stop1 3) | (apply T.drawC (id := 1) [0] (by decide); ((apply A.tk 0; exact rfl; kernel_rfl; (apply Ok1.move; exact rfl)) <;> (apply A.tk 1; exact rfl; kernel_rfl; (apply Ok1.move; exact rfl)) <;> (apply A.tk 2; exact rfl; kernel_rfl; (apply Ok1.lenS; (iterate 3 exact rfl))) <;> (apply A.tk 3; exact rfl; kernel_rfl; (apply Ok1.min2E; exact rfl; exact rfl; exact e0)) <;> (apply A.tk 4; exact rfl; kernel_rfl; (apply Ok1.preR (i := m0); (iterate 5 exact rfl); omega)) <;> (apply A.tk 5; exact rfl; kernel_rfl; (apply Ok1.load; exact rfl; (apply Ld.ownk; exact rfl; exact rfl; exact At.head; exact rfl))) <;> (apply A.two 6 7; kernel_rfl; exact rfl; exact rfl; rotate_left 1; (focus (((((apply R.alloc; (iterate 3 exact rfl); intro))); apply R.nil; refine ⟨?_, ?_⟩; (focus (repeat' first | exact trivial | exact At.head | apply At.tail | refine ⟨?_, ?_⟩))) <;> (apply A.one 6; kernel_rfl; exact rfl; (((apply R.callE (vs := [.slice p m0 cap, .agg _]); (iterate 3 exact rfl); exact Ext.none _; intro w1 hw1; exact htk w1 hw1.chg; rintro v Lo ⟨rfl, rfl⟩))); apply R.nil; refine ⟨?_, ?_⟩; (focus (repeat' first | exact trivial | exact At.head | apply At.tail | refine ⟨?_, ?_⟩))) <;> (apply A.one 8; kernel_rfl; exact rfl; (((apply R.store; (iterate 4 exact rfl); exact htl; exact hto; exact Upd.head; exact setE_all htl))); apply R.nil; refine ⟨?_, ?_⟩; (focus (repeat' first | exact trivial | exact At.head | apply At.tail | refine ⟨?_, ?_⟩))) <;> (apply A.done; kernel_rfl))); rotate_right 1; (focus (((((apply R.callE (vs := [.slice p m0 cap, .agg _]); (iterate 3 exact rfl); exact Ext.none _; intro w1 hw1; exact htk w1 hw1.chg; rintro v Lo ⟨rfl, rfl⟩))); apply R.nil; refine ⟨?_, ?_⟩; (focus ((repeat' (first | exact trivial | (refine ⟨?_, ?_⟩; exact At.head)))))) <;> (apply A.one 7; kernel_rfl; exact rfl; (((apply R.alloc; (iterate 3 exact rfl); intro))); apply R.nil; refine ⟨?_, ?_⟩; (focus (repeat' first | exact trivial | exact At.head | apply At.tail | refine ⟨?_, ?_⟩))) <;> (apply A.one 8; kernel_rfl; exact rfl; (((apply R.store; (iterate 4 exact rfl); exact htl; exact hto; exact Upd.head; exact setE_all htl))); apply R.nil; refine ⟨?_, ?_⟩; (focus (repeat' first | exact trivial | exact At.head | apply At.tail | refine ⟨?_, ?_⟩))) <;> (apply A.done; kernel_rfl)))))) | apply T.seq | apply T.region))
  all_goals refine ⟨?_⟩
  all_goals rename_i b6 b13
  all_goals rw [hbt]
  all_goals clear hbt hu0 hu1
  all_goals generalize btI boot = B at *
  all_goals have hfb := fun a b d1 e f g h i => fill_mb d s hsl B a b d1 e f g h i
  all_goals have hcn := fun w1 => chnew_ok d hr s hsl B hnr w1
  all_goals have hrn := fun w1 => rnew_ok w1
  all_goals unfold MB
  all_goals have hmo := mb_one d s B 0 mbR0 rfl
  all_goals generalize hMM : mbC d s B 0 mbR0 = MM at *
  all_goals repeat' (first | (apply R.is1; first | (apply R.isCall; first | (apply R.callE (vs := [.agg ⟨tkC d s⟩, .int .i64 B]); (iterate 3 exact rfl); exact Ext.none _; intro w1 hw1; exact hcn w1; rintro x Lo ⟨bc, bn, br, bb, bd, bm, m1, m2, sd, dr, rfl, rfl⟩) | (apply R.callE (vs := []); (iterate 3 exact rfl); exact Ext.none _; intro w1 hw1; exact hrn w1; rintro x Lo ⟨bS, rfl, rfl⟩)) | (apply R.pure; exact rfl; first | (apply Ok1.load; exact rfl; (apply Ld.ownk; exact rfl; exact rfl; exact At.head; exact subE_all htl)) | (apply Ok1.move; exact rfl) | (apply Ok1.assign; exact rfl) | (apply Ok1.extract; exact rfl; exact rfl))) | apply R.nil | (apply T.is; first | (apply T.stop1 5) | apply T.seq | apply T.region))
  all_goals refine ⟨?_⟩
  all_goals generalize hSS : SetL bS [lg0, lg0, lg0, lg0] = SS at *
  all_goals generalize hCC : ChL bc bn br bb bd bm m1 m2 d s B sd dr = CC at *
  all_goals refine T.weakK (σ' := [(2, .int .i64 B), (3, .slice none 0 0), (4, .slice none 0 0), (13, .pointer (some ⟨b13, 0, none⟩)), (14, .pointer (some ⟨bc, 0, none⟩)), (15, .int .i64 0), (16, .pointer (some ⟨bS, 0, none⟩))]) (L' := (b13, .cells ⟨tkC d s⟩ 100 (0, 0)) :: (SS ++ CC)) ?_ (by (focus (repeat' first | exact Ext.one _ _ | exact Ext.here _ _ | apply Keep.cons | apply Keep.app | apply Keep.last | apply Ext.app); done)) ⟨rfl, rfl, rfl, rfl, rfl, rfl, rfl, trivial⟩
  all_goals have hof := of5_ok d.id d.roles d.exp d.ser
  all_goals generalize tkC d s = TK at *
  all_goals repeat' (first | (apply R.is1; first | (apply R.isBin; (apply R.pure; exact rfl; first | (apply Ok1.eqlP; (iterate 5 exact rfl)) | (apply Ok1.lss_f; exact rfl; exact rfl; omega) | (apply Ok1.neq_f; exact rfl; exact rfl; omega))) | (apply R.isCall; (apply R.pure; exact rfl; (apply Ok1.lenS; (iterate 3 exact rfl)))) | (apply R.pure; exact rfl; first | (apply Ok1.move; exact rfl) | (apply Ok1.assign; exact rfl) | (apply Ok1.pick_f; exact rfl; exact rfl))) | (apply R.isG; first | (apply R.guard_run; exact rfl; exact rfl) | (apply R.guard_not; (iterate 3 exact rfl))) | apply R.nil | (apply T.is; first | apply T.rounds 2 | (apply T.drawC (id := 5) [0] (by decide); ((apply A.tk 0; exact rfl; kernel_rfl; (apply Ok1.fieldAddr; (iterate 5 exact rfl))) <;> (apply A.tk 1; exact rfl; kernel_rfl; (apply Ok1.load; exact rfl; (apply Ld.ownk; exact rfl; exact rfl; exact At.head; exact htc))) <;> (apply A.tk 3; exact rfl; kernel_rfl; (apply Ok1.fieldAddr; (iterate 5 exact rfl))) <;> (apply A.tk 4; exact rfl; kernel_rfl; (apply Ok1.load; exact rfl; (apply Ld.ownk; exact rfl; exact rfl; exact At.head; exact hts))) <;> (apply A.tk 5; exact rfl; kernel_rfl; (apply Ok1.move; exact rfl)) <;> (apply A.one 2; kernel_rfl; exact rfl; ((apply R.callP rfl rfl rfl hof)); apply R.nil; refine ⟨?_, ?_⟩; (focus ((repeat' (first | exact trivial | (refine ⟨?_, ?_⟩; exact At.head)))))) <;> (apply A.tk 6; exact rfl; kernel_rfl; (apply Ok1.build; (iterate 4 exact rfl); exact hfb _ _ _ _ _ _ _ _)) <;> (apply A.one 7; kernel_rfl; exact rfl; (((apply R.box; (iterate 3 exact rfl); intro))); apply R.nil; refine ⟨?_, ?_⟩; (focus (repeat' first | exact trivial | exact At.head | apply At.tail | refine ⟨?_, ?_⟩))) <;> (apply A.tk 8; exact rfl; kernel_rfl; (apply Ok1.assign; exact rfl)) <;> (apply A.done; kernel_rfl))) | apply T.seq | apply T.region | apply T.block | apply T.skip | apply T.exit | apply T.ret | (apply T.cond_f; exact rfl)))
  all_goals (apply RetOk.ttt; (iterate 3 exact rfl))
  all_goals refine ⟨_ :: (SS ++ CC), by (focus (repeat' first | exact Ext.one _ _ | exact Ext.here _ _ | exact Ext.all _ | apply Keep.cons | apply Keep.app | apply Keep.last | apply Ext.cons); done), ?_⟩
  all_goals subst hSS hCC hMM
  all_goals exact ⟨s, bc, bn, br, bb, bd, bm, m1, m2, sd, dr, _, bS, hsl, hsb, rfl, rfl⟩
/-- A joiner's cells. -/
def jnC (bc : Nat) (S st sd la : Int) (q : Option Addr) (m cap : Nat) : List Value := [.pointer (some ⟨bc, 0, none⟩), .int .i64 S, .int .i64 st, .int .i64 sd, .int .i64 la, .slice q m cap]
def JN (bj bc : Nat) (S st sd la : Int) (q : Option Addr) (m cap : Nat) : Nat × Obj := (bj, .cells ⟨jnC bc S st sd la q m cap⟩ 275 (0, 0))
/-- A counter's block. -/
def CN (bn : Nat) (boot cnt : Int) : Nat × Obj := (bn, .cells ⟨[.int .i64 boot, .int .i64 cnt]⟩ 324 (0, 0))
theorem jnew_ok (bc : Nat) (S : Int) (h1 : 1 ≤ S) (h2 : S ≤ 4) (w : World) : CallM Tryz.prog 49 [.pointer (some ⟨bc, 0, none⟩), .int .i64 S] [] w fun v L => ∃ bj, v = .tuple #[.pointer (some ⟨bj, 0, none⟩), .int .i64 0] ∧ L = [JN bj bc S 0 0 0 none 0 0] := by
  refine enterK (tb := tb) Tryz.func49 rfl Tryz.ntmps49 rfl ?_
  repeat' (first | (apply R.is1; first | (apply R.isBin; (apply R.pure; exact rfl; first | (apply Ok1.eqlP; (iterate 5 exact rfl)) | (apply Ok1.lss_f; exact rfl; exact rfl; omega) | (apply Ok1.gtr_f; exact rfl; exact rfl; omega))) | (apply R.pure; exact rfl; first | (apply Ok1.move; exact rfl) | (apply Ok1.assign; exact rfl) | (apply Ok1.build; (iterate 5 exact rfl)) | (apply Ok1.pick_f; exact rfl; exact rfl)) | (apply R.box; (iterate 3 exact rfl); intro)) | (apply R.isG; (apply R.guard_run; exact rfl; exact rfl)) | apply R.nil | (apply T.is; first | apply T.seq | apply T.region | apply T.skip | apply T.ret | (apply T.cond_f; exact rfl)))
  (apply RetOk.tt; exact rfl; exact rfl)
  exact ⟨_, by unfold JN jnC; (focus (repeat' first | exact Keep.nil _ | exact Ext.one _ _ | apply Keep.cons); done), _, rfl, rfl⟩
theorem jnew_bad (q : Option Addr) (S : Int) (h : S < 1 ∨ 4 < S) : CallP Tryz.prog 49 [.pointer q, .int .i64 S] (.tuple #[.pointer none, .int .i64 1]) := by
  cases q
  all_goals
    refine enterP (tb := tb) Tryz.func49 rfl Tryz.ntmps49 rfl fun w => ?_
    repeat' (first | (apply R.is1; first | (apply R.isBin; first | (apply R.pure; exact rfl; first | (apply Ok1.eqlP; (iterate 5 exact rfl)) | (apply Ok1.gtr_t; exact rfl; exact rfl; omega)) | (apply R.lss rfl rfl rfl <;> intro)) | (apply R.pure; exact rfl; first | (apply Ok1.move; exact rfl) | (apply Ok1.assign; exact rfl) | (apply Ok1.pick_t; exact rfl; exact rfl) | (apply Ok1.pick_f; exact rfl; exact rfl))) | (apply R.isG; first | (apply R.guard_run; exact rfl; exact rfl) | (apply R.guard_not; (iterate 3 exact rfl))) | apply R.nil | (apply T.is; first | apply T.seq | apply T.region | apply T.ret | (apply T.cond_t; exact rfl)))
    all_goals (apply RetOk.tt; exact rfl; exact rfl)
    all_goals rfl
theorem jstate_ok (bj bc : Nat) (S st sd la : Int) (q : Option Addr) (m cap : Nat) (w : World) (h : ∃ e f, w.heap[bj]? = some (.cells ⟨jnC bc S st sd la q m cap⟩ e f)) : CallW Tryz.prog 51 [.pointer (some ⟨bj, 0, none⟩)] w fun v _ => v = .int .i64 st := by
  obtain ⟨e, f, h⟩ := h
  unfold jnC at h
  refine enterW (tb := tb) Tryz.func51 rfl Tryz.ntmps51 rfl ?_
  repeat' (first | (apply R.is1; first | (apply R.isBin; (apply R.pure; exact rfl; (apply Ok1.eqlP; (iterate 5 exact rfl)))) | (apply R.pure; exact rfl; first | (apply Ok1.load; exact rfl; (apply Ld.blk1; exact rfl; exact rfl; exact h; exact List.not_mem_nil; exact rfl)) | (apply Ok1.move; exact rfl) | (apply Ok1.fieldAddr; (iterate 5 exact rfl)) | (apply Ok1.assign; exact rfl) | (apply Ok1.nilCheck; exact rfl))) | apply R.nil | (apply T.is; first | apply T.seq | apply T.region | apply T.skip | apply T.ret | (apply T.cond_f; exact rfl)))
  (apply RetOk.t; exact rfl)
  rfl
theorem jseed_ok (bj bc : Nat) (S st sd la : Int) (q : Option Addr) (m cap : Nat) (w : World) (h : ∃ e f, w.heap[bj]? = some (.cells ⟨jnC bc S st sd la q m cap⟩ e f)) : CallW Tryz.prog 62 [.pointer (some ⟨bj, 0, none⟩)] w fun v _ => v = .int .i64 sd := by
  obtain ⟨e, f, h⟩ := h
  unfold jnC at h
  refine enterW (tb := tb) Tryz.func62 rfl Tryz.ntmps62 rfl ?_
  repeat' (first | (apply R.is1; first | (apply R.isBin; (apply R.pure; exact rfl; (apply Ok1.eqlP; (iterate 5 exact rfl)))) | (apply R.pure; exact rfl; first | (apply Ok1.load; exact rfl; (apply Ld.blk1; exact rfl; exact rfl; exact h; exact List.not_mem_nil; exact rfl)) | (apply Ok1.move; exact rfl) | (apply Ok1.fieldAddr; (iterate 5 exact rfl)) | (apply Ok1.assign; exact rfl) | (apply Ok1.nilCheck; exact rfl))) | apply R.nil | (apply T.is; first | apply T.seq | apply T.region | apply T.skip | apply T.ret | (apply T.cond_f; exact rfl)))
  (apply RetOk.t; exact rfl)
  rfl
/-- What is wrong with a start. -/
def jstE (S st seed : Int) : Int := if seed < 0 ∨ S ≤ seed then 10 else if st = 3 then 11 else 0
/-- What a packet of a kind that is written holds. -/
def Wrote (c : Cl) (s : List Int) (k to boot cnt : Int) (body : List Int) (v : Value) (e : Value) (L : Lst) : Prop := ∃ ov, OvOk 1 ov (wrG c s k to boot cnt body).length (u8s (wrG c s k to boot cnt body)) ∧ v = .tuple #[slV ov (wrG c s k to boot cnt body).length, e] ∧ L = blkL 5 ov (u8s (wrG c s k to boot cnt body))
def JStart (bj bc bn : Nat) (c : Cl) (s : List Int) (S st sd la : Int) (q : Option Addr) (m cap : Nat) (boot cnt seed tick : Int) (v : Value) (L : Lst) : Prop := (jstE S st seed ≠ 0 ∧ v = .tuple #[.slice none 0 0, .int .i64 (jstE S st seed)] ∧ L = [JN bj bc S st sd la q m cap, CN bn boot cnt]) ∨ (jstE S st seed = 0 ∧ ∃ Lo, Wrote c s 1 seed boot (cnt + 1) [] v (.int .i64 0) Lo ∧ L = JN bj bc S 1 seed tick q m cap :: CN bn boot (cnt + 1) :: Lo)
theorem jstart_ok (bj bc bn br bb bd : Nat) (sd0 : List Value) (e1 : TypeId) (f1 : Nat × Nat) (c : Cl) (hr : c.right) (s : List Int) (hs : s.length = 32) (hsb : Byt s) (m1 m2 : Nat) (e : TypeId) (S st sd la : Int) (hS : S ≤ 4) (q : Option Addr) (m cap : Nat) (boot cnt : Int) (hnr : NR boot (cnt + 1)) (h0 : 0 ≤ cnt) (seed tick : Int) (w : World) (hc : w.heap[bc]? = some (.cells ⟨chC bn br bb bd sd0⟩ e1 f1)) (hb : w.heap[br]? = some (.cells ⟨ringC c s m1 m2⟩ e (0, 0))) (hne1 : bc ∉ [bj, bn]) (hne2 : br ∉ [bj, bn]) :
    CallM Tryz.prog 52 [.pointer (some ⟨bj, 0, none⟩), .int .i64 seed, .int .i64 tick] [JN bj bc S st sd la q m cap, CN bn boot cnt] w (JStart bj bc bn c s S st sd la q m cap boot cnt seed tick) := by
  simp only [List.mem_cons, List.not_mem_nil, or_false, not_or] at hne1 hne2
  by_cases hE : seed < 0 ∨ S ≤ seed
  · have hj : jstE S st seed = 10 := by unfold jstE; rw [if_pos hE]
    unfold JStart
    rw [hj]
    unfold JN jnC CN
    refine enterK (tb := tb) Tryz.func52 rfl Tryz.ntmps52 rfl ?_
    repeat' (first | (apply R.is1; first | (apply R.isBin; first | (apply R.pure; exact rfl; first | (apply Ok1.eqlP; (iterate 5 exact rfl)) | (apply Ok1.geq_t; exact rfl; exact rfl; omega)) | (apply R.lss rfl rfl rfl <;> intro)) | (apply R.pure; exact rfl; first | (apply Ok1.move; exact rfl) | (apply Ok1.fieldAddr; (iterate 5 exact rfl)) | (apply Ok1.load; exact rfl; (apply Ld.own1; exact rfl; exact rfl; exact At.head; exact rfl)) | (apply Ok1.assign; exact rfl) | (apply Ok1.pick_t; exact rfl; exact rfl) | (apply Ok1.pick_f; exact rfl; exact rfl) | (apply Ok1.nilCheck; exact rfl))) | (apply R.isG; first | (apply R.guard_run; exact rfl; exact rfl) | (apply R.guard_not; (iterate 3 exact rfl))) | apply R.nil | (apply T.is; first | apply T.seq | apply T.region | apply T.block | apply T.ret | (apply T.cond_t; exact rfl) | (apply T.cond_f; exact rfl)))
    all_goals (apply RetOk.tt; exact rfl; exact rfl)
    all_goals exact ⟨_, by (focus (repeat' first | exact Keep.nil _ | exact Ext.one _ _ | apply Keep.cons); done), .inl ⟨by decide, rfl, rfl⟩⟩
  by_cases h3 : st = 3
  · have hj : jstE S st seed = 11 := by unfold jstE; rw [if_neg hE, if_pos h3]
    unfold JStart
    rw [hj]
    unfold JN jnC CN
    refine enterK (tb := tb) Tryz.func52 rfl Tryz.ntmps52 rfl ?_
    repeat' (first | (apply R.is1; first | (apply R.isBin; (apply R.pure; exact rfl; first | (apply Ok1.eqlP; (iterate 5 exact rfl)) | (apply Ok1.lss_f; exact rfl; exact rfl; omega) | (apply Ok1.geq_f; exact rfl; exact rfl; omega) | (apply Ok1.eql_t; exact rfl; exact rfl; omega))) | (apply R.pure; exact rfl; first | (apply Ok1.move; exact rfl) | (apply Ok1.fieldAddr; (iterate 5 exact rfl)) | (apply Ok1.load; exact rfl; (apply Ld.own1; exact rfl; exact rfl; exact At.head; exact rfl)) | (apply Ok1.assign; exact rfl) | (apply Ok1.pick_f; exact rfl; exact rfl) | (apply Ok1.nilCheck; exact rfl))) | (apply R.isG; (apply R.guard_run; exact rfl; exact rfl)) | apply R.nil | (apply T.is; first | apply T.seq | apply T.region | apply T.block | apply T.ret | (apply T.cond_t; exact rfl) | (apply T.cond_f; exact rfl)))
    all_goals (apply RetOk.tt; exact rfl; exact rfl)
    all_goals exact ⟨_, by (focus (repeat' first | exact Keep.nil _ | exact Ext.one _ _ | apply Keep.cons); done), .inl ⟨by decide, rfl, rfl⟩⟩
  have hj : jstE S st seed = 0 := by unfold jstE; rw [if_neg hE, if_neg h3]
  have hw0 : wrE 1 seed 0 = 0 := by
    have : chE 1 seed = 0 := by unfold chE; rw [if_pos (by decide), if_pos (by omega)]
    unfold wrE; rw [if_neg (fun g => g this), if_neg (by decide)]
  have hwr := fun w1 (h : Chg [bj, bn] w w1) => (chwriteG bc bn br bb bd sd0 e1 f1 c hr s hs hsb m1 m2 e 1 seed boot cnt hnr h0 none 0 0 [] rfl byt_nil w1 (h.heap hc (by simpa using hne1)) (h.heap hb (by simpa using hne2)) hne1.2 hne2.2 (.inl rfl) (fun g => absurd rfl g)).wk (R' := fun v L => ∃ Lo, Wrote c s 1 seed boot (cnt + 1) [] v (.int .i64 0) Lo ∧ L = CN bn boot (cnt + 1) :: Lo) (by
    rintro v L (⟨g, _⟩ | ⟨_, ov, g1, g2, g3⟩)
    · exact absurd hw0 g
    · exact ⟨_, ⟨ov, g1, g2, rfl⟩, g3⟩)
  unfold JStart
  rw [hj]
  unfold Wrote at hwr ⊢
  generalize wrG c s 1 seed boot (cnt + 1) [] = G at *
  unfold JN jnC CN at *
  refine enterK (tb := tb) Tryz.func52 rfl Tryz.ntmps52 rfl ?_
  repeat' (first | (apply R.is1; first | (apply R.isBin; (apply R.pure; exact rfl; first | (apply Ok1.eqlP; (iterate 5 exact rfl)) | (apply Ok1.lss_f; exact rfl; exact rfl; omega) | (apply Ok1.geq_f; exact rfl; exact rfl; omega) | (apply Ok1.eql_f; exact rfl; exact rfl; omega) | (apply Ok1.neq_f; exact rfl; exact rfl; omega))) | (apply R.isCall; (apply R.callE (Li := [(bn, .cells ⟨[.int .i64 boot, .int .i64 cnt]⟩ 324 (0, 0))]) (vs := [.pointer (some ⟨bc, 0, none⟩), .int .i64 1, .int .i64 seed, .slice none 0 0]); (iterate 3 exact rfl); (focus (repeat' first | exact Ext.one _ _ | apply Ext.cons); done); intro w1 hw1; exact hwr w1 hw1.chg; rintro v Lo ⟨Lw, ⟨ovw, hovw, rfl, rfl⟩, rfl⟩)) | (apply R.pure; exact rfl; first | (apply Ok1.move; exact rfl) | (apply Ok1.fieldAddr; (iterate 5 exact rfl)) | (apply Ok1.load; exact rfl; (apply Ld.own1; exact rfl; exact rfl; exact At.head; exact rfl)) | (apply Ok1.assign; exact rfl) | (apply Ok1.extract; exact rfl; exact rfl) | (apply Ok1.pick_f; exact rfl; exact rfl) | (apply Ok1.nilCheck; exact rfl))) | (apply R.is0; (apply R.store; (iterate 6 exact rfl); (focus (repeat' first | exact Upd.head | apply Upd.tail | apply Upd.right); done); exact rfl)) | (apply R.isG; (apply R.guard_run; exact rfl; exact rfl)) | apply R.nil | (apply T.is; first | apply T.seq | apply T.region | apply T.block | apply T.skip | apply T.ret | (apply T.cond_f; exact rfl)))
  all_goals (apply RetOk.tt; exact rfl; exact rfl)
  all_goals exact ⟨_, by (focus (repeat' first | exact Ext.one _ _ | exact Ext.here _ _ | apply Keep.cons | apply Keep.last | apply Ext.cons | apply Ext.app); done), .inr ⟨rfl, _, ⟨ovw, hovw, rfl, rfl⟩, rfl⟩⟩
def JDue (bj bc bn : Nat) (c : Cl) (s : List Int) (S st sd la : Int) (q : Option Addr) (m cap : Nat) (boot cnt tick : Int) (v : Value) (L : Lst) : Prop := ((st = 0 ∨ st = 3 ∨ tick < la + 16) ∧ v = .tuple #[.slice none 0 0, .bool false] ∧ L = [JN bj bc S st sd la q m cap, CN bn boot cnt]) ∨ (¬ (st = 0 ∨ st = 3 ∨ tick < la + 16) ∧ ∃ Lo, Wrote c s 1 ((sd + 1) % S) boot (cnt + 1) [] v (.bool true) Lo ∧ L = JN bj bc S 1 ((sd + 1) % S) tick q m cap :: CN bn boot (cnt + 1) :: Lo)
theorem jdue_ok (bj bc bn br bb bd : Nat) (sd0 : List Value) (e1 : TypeId) (f1 : Nat × Nat) (c : Cl) (hr : c.right) (s : List Int) (hs : s.length = 32) (hsb : Byt s) (m1 m2 : Nat) (e : TypeId) (S st sd la : Int) (hS1 : 1 ≤ S) (hS : S ≤ 4) (hd1 : 0 ≤ sd) (hd2 : sd ≤ 1000) (hl1 : 0 ≤ la) (hl2 : la ≤ 2000000000) (q : Option Addr) (m cap : Nat) (boot cnt : Int) (hnr : NR boot (cnt + 1)) (h0 : 0 ≤ cnt) (tick : Int) (w : World) (hc : w.heap[bc]? = some (.cells ⟨chC bn br bb bd sd0⟩ e1 f1)) (hb : w.heap[br]? = some (.cells ⟨ringC c s m1 m2⟩ e (0, 0))) (hne1 : bc ∉ [bj, bn]) (hne2 : br ∉ [bj, bn]) :
    CallM Tryz.prog 58 [.pointer (some ⟨bj, 0, none⟩), .int .i64 tick] [JN bj bc S st sd la q m cap, CN bn boot cnt] w (JDue bj bc bn c s S st sd la q m cap boot cnt tick) := by
  by_cases hE : st = 0 ∨ st = 3 ∨ tick < la + 16
  · unfold JDue
    unfold JN jnC CN
    refine enterK (tb := tb) Tryz.func58 rfl Tryz.ntmps58 rfl ?_
    repeat' (first | (apply R.is1; first | (apply R.isBin; first | (apply R.pure; exact rfl; first | (apply Ok1.eqlP; (iterate 5 exact rfl)) | (apply Ok1.add64; exact rfl; exact rfl; omega; omega) | (apply Ok1.lss_t; exact rfl; exact rfl; omega)) | (apply R.eql rfl rfl rfl <;> intro)) | (apply R.pure; exact rfl; first | (apply Ok1.move; exact rfl) | (apply Ok1.fieldAddr; (iterate 5 exact rfl)) | (apply Ok1.load; exact rfl; (apply Ld.own1; exact rfl; exact rfl; exact At.head; exact rfl)) | (apply Ok1.assign; exact rfl) | (apply Ok1.pick_t; exact rfl; exact rfl) | (apply Ok1.pick_f; exact rfl; exact rfl) | (apply Ok1.nilCheck; exact rfl))) | (apply R.isG; first | (apply R.guard_run; exact rfl; exact rfl) | (apply R.guard_not; (iterate 3 exact rfl))) | apply R.nil | (apply T.is; first | apply T.seq | apply T.region | apply T.ret | (apply T.cond_t; exact rfl)))
    all_goals (apply RetOk.tt; exact rfl; exact rfl)
    all_goals exact ⟨_, by (focus (repeat' first | exact Keep.nil _ | exact Ext.one _ _ | apply Keep.cons); done), .inl ⟨hE, rfl, rfl⟩⟩
  have hm : 0 ≤ (sd + 1) % S ∧ (sd + 1) % S < S := ⟨Int.emod_nonneg _ (by omega), Int.emod_lt_of_pos _ (by omega)⟩
  have hj : jstE S st ((sd + 1) % S) = 0 := by unfold jstE; rw [if_neg (by omega), if_neg (by omega)]
  have hst := fun w1 (h : Chg [bj, bn] w w1) => (jstart_ok bj bc bn br bb bd sd0 e1 f1 c hr s hs hsb m1 m2 e S st sd la hS q m cap boot cnt hnr h0 ((sd + 1) % S) tick w1 (h.heap hc hne1) (h.heap hb hne2) hne1 hne2).wk (R' := fun v L => ∃ Lo, Wrote c s 1 ((sd + 1) % S) boot (cnt + 1) [] v (.int .i64 0) Lo ∧ L = JN bj bc S 1 ((sd + 1) % S) tick q m cap :: CN bn boot (cnt + 1) :: Lo) (by
    rintro v L (⟨g, _⟩ | ⟨_, g⟩)
    · exact absurd hj g
    · exact g)
  unfold JDue
  unfold Wrote at hst ⊢
  generalize hNS : (sd + 1) % S = NS at *
  generalize wrG c s 1 NS boot (cnt + 1) [] = G at *
  unfold JN jnC CN at *
  refine enterK (tb := tb) Tryz.func58 rfl Tryz.ntmps58 rfl ?_
  repeat' (first | (apply R.is1; first | (apply R.isBin; (apply R.pure; exact rfl; first | (apply Ok1.eqlP; (iterate 5 exact rfl)) | (apply Ok1.add64; exact rfl; exact rfl; omega; omega) | (apply Ok1.lss_f; exact rfl; exact rfl; omega) | (apply Ok1.eql_f; exact rfl; exact rfl; omega))) | (apply R.pure; exact rfl; first | (apply Ok1.move; exact rfl) | (apply Ok1.fieldAddr; (iterate 5 exact rfl)) | (apply Ok1.load; exact rfl; (apply Ld.own1; exact rfl; exact rfl; exact At.head; exact rfl)) | (apply Ok1.assign; exact rfl) | (apply Ok1.pick_f; exact rfl; exact rfl) | (apply Ok1.nilCheck; exact rfl))) | (apply R.isG; (apply R.guard_run; exact rfl; exact rfl)) | apply R.nil | (apply T.is; first | (apply T.stop1 3) | apply T.seq | apply T.region | apply T.skip | (apply T.cond_f; exact rfl)))
  all_goals refine ⟨?_⟩
  repeat' (first | (apply R.is1; first | (apply R.isBin; (apply R.pure; exact rfl; (apply Ok1.eql_t; exact rfl; exact rfl; omega))) | (apply R.pure; exact rfl; first | (apply Ok1.move; exact rfl) | (apply Ok1.assign; exact rfl))) | apply R.nil | (apply T.is; first | (apply T.drawC (id := 3) [] (by decide); ((apply A.tk 0; exact rfl; kernel_rfl; (apply Ok1.move; exact rfl)) <;> (apply A.tk 1; exact rfl; kernel_rfl; (apply Ok1.move; exact rfl)) <;> (apply A.tk 2; exact rfl; kernel_rfl; (apply Ok1.nilCheck; exact rfl)) <;> (apply A.tk 3; exact rfl; kernel_rfl; (apply Ok1.fieldAddr; (iterate 5 exact rfl))) <;> (apply A.tk 6; exact rfl; kernel_rfl; (apply Ok1.move; exact rfl)) <;> (apply A.tk 7; exact rfl; kernel_rfl; (apply Ok1.nilCheck; exact rfl)) <;> (apply A.tk 8; exact rfl; kernel_rfl; (apply Ok1.fieldAddr; (iterate 5 exact rfl))) <;> (apply A.tk 11; exact rfl; kernel_rfl; (apply Ok1.move; exact rfl)) <;> (apply A.two 4 9; kernel_rfl; exact rfl; exact rfl; rotate_left 1; (focus (((((apply R.pure; exact rfl; (apply Ok1.load; exact rfl; (apply Ld.own1; exact rfl; exact rfl; exact At.head; exact rfl))))); apply R.nil; refine ⟨?_, ?_⟩; (focus ((repeat' (exact trivial))))) <;> (apply A.one 4; kernel_rfl; exact rfl; (((apply R.pure; exact rfl; (apply Ok1.load; exact rfl; (apply Ld.own1; exact rfl; exact rfl; exact At.head; exact rfl))))); apply R.nil; refine ⟨?_, ?_⟩; (focus ((repeat' (exact trivial))))) <;> (apply A.tk 5; exact rfl; kernel_rfl; (apply Ok1.add64; exact rfl; exact rfl; omega; omega)) <;> (apply A.tk 10; exact rfl; kernel_rfl; (apply Ok1.remN; exact rfl; exact rfl; omega; omega)) <;> (apply A.one 12; kernel_rfl; exact rfl; (((apply R.callE (Li := [(bj, .cells ⟨[.pointer (some ⟨bc, 0, none⟩), .int .i64 S, .int .i64 st, .int .i64 sd, .int .i64 la, .slice q m cap]⟩ 275 (0, 0)), (bn, .cells ⟨[.int .i64 boot, .int .i64 cnt]⟩ 324 (0, 0))]) (vs := [.pointer (some ⟨bj, 0, none⟩), .int .i64 NS, .int .i64 tick]); exact rfl; (rw [← hNS]; exact rfl); exact rfl; (focus ((repeat' (exact Ext.all _)); done)); intro w1 hw1; exact hst w1 hw1.chg; rintro v Lo ⟨Lw, ⟨ovw, hovw, rfl, rfl⟩, rfl⟩))); apply R.nil; refine ⟨?_, ?_⟩; (focus ((repeat' (exact trivial))))) <;> (apply A.tk 13; exact rfl; kernel_rfl; (apply Ok1.move; exact rfl)) <;> (apply A.tk 14; exact rfl; kernel_rfl; (apply Ok1.extract; exact rfl; exact rfl)) <;> (apply A.tk 15; exact rfl; kernel_rfl; (apply Ok1.extract; exact rfl; exact rfl)) <;> (apply A.tk 16; exact rfl; kernel_rfl; (apply Ok1.assign; exact rfl)) <;> (apply A.tk 17; exact rfl; kernel_rfl; (apply Ok1.assign; exact rfl)) <;> (apply A.done; kernel_rfl))); rotate_right 1; (focus (((((apply R.pure; exact rfl; (apply Ok1.load; exact rfl; (apply Ld.own1; exact rfl; exact rfl; exact At.head; exact rfl))))); apply R.nil; refine ⟨?_, ?_⟩; (focus ((repeat' (exact trivial))))) <;> (apply A.tk 5; exact rfl; kernel_rfl; (apply Ok1.add64; exact rfl; exact rfl; omega; omega)) <;> (apply A.one 9; kernel_rfl; exact rfl; (((apply R.pure; exact rfl; (apply Ok1.load; exact rfl; (apply Ld.own1; exact rfl; exact rfl; exact At.head; exact rfl))))); apply R.nil; refine ⟨?_, ?_⟩; (focus ((repeat' (exact trivial))))) <;> (apply A.tk 10; exact rfl; kernel_rfl; (apply Ok1.remN; exact rfl; exact rfl; omega; omega)) <;> (apply A.one 12; kernel_rfl; exact rfl; (((apply R.callE (Li := [(bj, .cells ⟨[.pointer (some ⟨bc, 0, none⟩), .int .i64 S, .int .i64 st, .int .i64 sd, .int .i64 la, .slice q m cap]⟩ 275 (0, 0)), (bn, .cells ⟨[.int .i64 boot, .int .i64 cnt]⟩ 324 (0, 0))]) (vs := [.pointer (some ⟨bj, 0, none⟩), .int .i64 NS, .int .i64 tick]); exact rfl; (rw [← hNS]; exact rfl); exact rfl; (focus ((repeat' (exact Ext.all _)); done)); intro w1 hw1; exact hst w1 hw1.chg; rintro v Lo ⟨Lw, ⟨ovw, hovw, rfl, rfl⟩, rfl⟩))); apply R.nil; refine ⟨?_, ?_⟩; (focus ((repeat' (exact trivial))))) <;> (apply A.tk 13; exact rfl; kernel_rfl; (apply Ok1.move; exact rfl)) <;> (apply A.tk 14; exact rfl; kernel_rfl; (apply Ok1.extract; exact rfl; exact rfl)) <;> (apply A.tk 15; exact rfl; kernel_rfl; (apply Ok1.extract; exact rfl; exact rfl)) <;> (apply A.tk 16; exact rfl; kernel_rfl; (apply Ok1.assign; exact rfl)) <;> (apply A.tk 17; exact rfl; kernel_rfl; (apply Ok1.assign; exact rfl)) <;> (apply A.done; kernel_rfl)))))) | apply T.seq | apply T.region | apply T.ret))
  all_goals (apply RetOk.tt; exact rfl; exact rfl)
  all_goals exact ⟨_, by (focus (repeat' first | exact Ext.one _ _ | exact Ext.here _ _ | apply Keep.cons | apply Keep.last); done), .inr ⟨hE, _, ⟨ovw, hovw, rfl, rfl⟩, rfl⟩⟩
theorem Hp.neT {w0 w : World} {S : List Nat} {L : Lst} {b1 b2 : Nat} {c1 c2 : Array Value} {e1 e2 : TypeId} {f1 f2 : Nat × Nat} (hw : Hp w0 S L w) (h1 : At L b1 (.cells c1 e1 f1)) (h2 : At L b2 (.cells c2 e2 f2)) (he : e1 ≠ e2) : b1 ≠ b2 := by
  rintro rfl
  have g1 := hw.get _ _ h1.mem
  have g2 := hw.get _ _ h2.mem
  rw [g1] at g2
  injection g2 with g3
  injection g3 with _ g4
  exact he g4
/-- A joiner's blocks, that its channel and ring lie there too. -/
structure JAt (L : Lst) (bj bc bn br bb bd m1 m2 : Nat) (sd0 : List Value) (c : Cl) (s : List Int) (S st sd la : Int) (q : Option Addr) (m cap : Nat) (boot cnt : Int) : Prop where
  aj : At L bj (.cells ⟨jnC bc S st sd la q m cap⟩ 275 (0, 0))
  an : At L bn (.cells ⟨[.int .i64 boot, .int .i64 cnt]⟩ 324 (0, 0))
  ac : At L bc (.cells ⟨chC bn br bb bd sd0⟩ 232 (0, 0))
  ar : At L br (.cells ⟨ringC c s m1 m2⟩ 236 (0, 0))
theorem JAt.off {L : Lst} {bj bc bn br bb bd m1 m2 : Nat} {sd0 : List Value} {c : Cl} {s : List Int} {S st sd la : Int} {q : Option Addr} {m cap : Nat} {boot cnt : Int} (h : JAt L bj bc bn br bb bd m1 m2 sd0 c s S st sd la q m cap boot cnt) {w0 w : World} {S0 : List Nat} (hw : Hp w0 S0 L w) : bc ∉ [bj, bn] ∧ br ∉ [bj, bn] := by
  have h1 := hw.neT h.ac h.aj (by decide)
  have h2 := hw.neT h.ac h.an (by decide)
  have h3 := hw.neT h.ar h.aj (by decide)
  have h4 := hw.neT h.ar h.an (by decide)
  simp only [List.mem_cons, List.not_mem_nil, or_false, not_or]
  exact ⟨⟨h1, h2⟩, h3, h4⟩
theorem known18_ok : CallP Tryz.prog 50 [] (.bool true) := by
  have hkb : Byt kch := by intro x hx; simp only [kch, List.mem_cons, List.not_mem_nil, or_false] at hx; omega
  have hkl : kch.length = 16 := rfl
  have hr : cch.right := by decide
  have hsl := secret_len kch cch
  have hsb := secret_byt kch cch
  have hmk := fun bk w1 hk => make_ok cch hr bk kch (by decide) hkb w1 hk
  have hcell : u8s kch ++ [] = [.int .u8 48, .int .u8 49, .int .u8 50, .int .u8 51, .int .u8 52, .int .u8 53, .int .u8 54, .int .u8 55, .int .u8 56, .int .u8 57, .int .u8 97, .int .u8 98, .int .u8 99, .int .u8 100, .int .u8 101, .int .u8 102] := rfl
  generalize hd : secretI kch cch = d at *
  have hnew := fun w1 => chnew_ok cch hr d hsl 1 (by unfold NR; omega) w1
  have htl := tk_len (c := cch) hsl
  have hto := tk_one cch d
  refine enterP (tb := tb) Tryz.func50 rfl Tryz.ntmps50 rfl fun w0 => ?_
  repeat' (first | (apply R.is1; first | (apply R.convSame; (iterate 6 exact rfl); exact Upd.head) | (apply R.isCall; first | (apply R.callE (vs := [.slice (some ⟨_, 0, none⟩) 16 16]); (iterate 3 exact rfl); exact Ext.none _; intro w1 hw1; exact new_ok (some ⟨_, 0, none⟩) 16 16 kch hkl.symm (by decide) w1 (RdSl.of (junk := []) hw1 (by exact At.head) (by rw [fl_u8]; exact hcell.symm)); rintro v Lo ⟨bk, ov, rfl, hov, _, rfl⟩) | (apply R.callV (vs := [.pointer (some ⟨bk, 0, none⟩), .agg _]); (iterate 3 exact rfl); intro w1 hw1; exact hmk bk w1 (KeyR.of hov hw1 (Ext.mem (by (focus ((repeat' (exact Ext.here _ _)); done)))))) | (apply R.callE (vs := [.agg ⟨tkC cch d⟩, .int .i64 1]); (iterate 3 exact rfl); exact Ext.none _; intro w1 hw1; exact hnew w1; rintro v Lo ⟨bc, bn, br, bb, bd, bm, m1, m2, sd, dr, rfl, rfl⟩; unfold ChL RL0)) | (apply R.pure; exact rfl; first | (apply Ok1.load; exact rfl; (apply Ld.ownk; exact rfl; exact rfl; exact At.head; exact subE_all htl)) | (apply Ok1.move; exact rfl) | (apply Ok1.assign; exact rfl) | (apply Ok1.build; (iterate 5 exact rfl)) | (apply Ok1.extract; exact rfl; exact rfl)) | (apply R.alloc; (iterate 3 exact rfl); intro) | (apply R.buildSlice; (iterate 12 exact rfl); intro)) | (apply R.is0; (apply R.store; (iterate 4 exact rfl); exact htl; exact hto; exact Upd.head; exact setE_all htl)) | apply R.nil | (apply T.is; first | (apply T.stop1 3) | apply T.seq | apply T.region))
  rename_i bt
  refine ⟨?_⟩
  refine T.weakK (σ' := [(2, .int .i64 0), (3, .pointer (some ⟨bc, 0, none⟩)), (4, .int .i64 0)]) (L' := [(bn, .cells ⟨[.int .i64 1, .int .i64 0]⟩ 324 (0, 0)), (bc, .cells ⟨chC bn br bb bd sd⟩ 232 (0, 0)), (br, .cells ⟨ringC cch d m1 m2⟩ 236 (0, 0))]) ?_ (by simp only [List.cons_append, List.nil_append, List.append_assoc]; (focus (repeat' first | exact Keep.nil _ | exact Ext.one _ _ | apply Keep.cons | apply Ext.cons); done)) ⟨rfl, rfl, rfl, trivial⟩
  have hjn := fun w1 => jnew_ok bc 2 (by decide) (by decide) w1
  unfold JN at hjn
  have hst := fun bj L S0 w1 (hw : Hp w0 S0 L w1) (h : JAt L bj bc bn br bb bd m1 m2 sd cch d 2 0 0 0 none 0 0 1 0) => (jstart_ok bj bc bn br bb bd sd 232 (0, 0) cch hr d hsl hsb m1 m2 236 2 0 0 0 (by decide) none 0 0 1 0 (by unfold NR; omega) (by decide) 0 5 w1 (hw.get _ _ h.ac.mem) (hw.get _ _ h.ar.mem) (h.off hw).1 (h.off hw).2).wk (R' := fun v L => ∃ Lo, Wrote cch d 1 0 1 1 [] v (.int .i64 0) Lo ∧ L = JN bj bc 2 1 0 5 none 0 0 :: CN bn 1 1 :: Lo) (by
    rintro v L (⟨g, _⟩ | ⟨_, g⟩)
    · exact absurd (by decide) g
    · exact g)
  have hd0 := fun bj L S0 w1 (hw : Hp w0 S0 L w1) (h : JAt L bj bc bn br bb bd m1 m2 sd cch d 2 1 0 5 none 0 0 1 1) => (jdue_ok bj bc bn br bb bd sd 232 (0, 0) cch hr d hsl hsb m1 m2 236 2 1 0 5 (by decide) (by decide) (by decide) (by decide) (by decide) (by decide) none 0 0 1 1 (by unfold NR; omega) (by decide) 20 w1 (hw.get _ _ h.ac.mem) (hw.get _ _ h.ar.mem) (h.off hw).1 (h.off hw).2).wk (R' := fun v L => v = .tuple #[.slice none 0 0, .bool false] ∧ L = [JN bj bc 2 1 0 5 none 0 0, CN bn 1 1]) (by
    rintro v L (⟨_, g⟩ | ⟨g, _⟩)
    · exact g
    · exact absurd (by decide) g)
  have hd1 := fun bj L S0 w1 (hw : Hp w0 S0 L w1) (h : JAt L bj bc bn br bb bd m1 m2 sd cch d 2 1 0 5 none 0 0 1 1) => (jdue_ok bj bc bn br bb bd sd 232 (0, 0) cch hr d hsl hsb m1 m2 236 2 1 0 5 (by decide) (by decide) (by decide) (by decide) (by decide) (by decide) none 0 0 1 1 (by unfold NR; omega) (by decide) 21 w1 (hw.get _ _ h.ac.mem) (hw.get _ _ h.ar.mem) (h.off hw).1 (h.off hw).2).wk (R' := fun v L => ∃ Lo, Wrote cch d 1 1 1 2 [] v (.bool true) Lo ∧ L = JN bj bc 2 1 1 21 none 0 0 :: CN bn 1 2 :: Lo) (by
    rintro v L (⟨g, _⟩ | ⟨_, g⟩)
    · exact absurd g (by decide)
    · exact g)
  have hsd := fun bj w1 h => jseed_ok bj bc 2 1 1 21 none 0 0 w1 h
  unfold JN CN at hst hd0 hd1
  unfold Wrote at hst hd1
  generalize hG0 : wrG cch d 1 0 1 1 [] = G0 at *
  generalize hG1 : wrG cch d 1 1 1 2 [] = G1 at *
  repeat' (first | (apply R.is1; first | (apply R.isBin; (apply R.pure; exact rfl; (apply Ok1.eql_t; exact rfl; exact rfl; omega))) | (apply R.isCall; first | (apply R.callE (vs := [.pointer (some ⟨bc, 0, none⟩), .int .i64 2]); (iterate 3 exact rfl); exact Ext.none _; intro w1 hw1; exact hjn w1; rintro v Lo ⟨bj, rfl, rfl⟩) | (apply R.callE (Li := [(bj, .cells ⟨jnC bc 2 0 0 0 none 0 0⟩ 275 (0, 0)), (bn, .cells ⟨[.int .i64 1, .int .i64 0]⟩ 324 (0, 0))]) (vs := [.pointer (some ⟨bj, 0, none⟩), .int .i64 0, .int .i64 5]); (iterate 3 exact rfl); exact Ext.two _ (by (focus ((repeat' (exact Ext.one _ _)); done))) (by (focus ((repeat' (exact Ext.one _ _)); done))); intro w1 hw1; exact hst bj _ _ w1 hw1 ⟨by exact At.head, by (focus (repeat' first | exact At.head | apply At.tail); done), by (focus (repeat' first | exact At.head | apply At.tail); done), by (focus (repeat' first | exact At.head | apply At.tail); done)⟩; rintro v Lo ⟨Lw, ⟨ovw, hovw, rfl, rfl⟩, rfl⟩) | (apply R.callE (Li := [(bj, .cells ⟨jnC bc 2 1 0 5 none 0 0⟩ 275 (0, 0)), (bn, .cells ⟨[.int .i64 1, .int .i64 1]⟩ 324 (0, 0))]) (vs := [.pointer (some ⟨bj, 0, none⟩), .int .i64 20]); (iterate 3 exact rfl); exact Ext.two _ (by (focus ((repeat' (exact Ext.one _ _)); done))) (by (focus ((repeat' (exact Ext.one _ _)); done))); intro w1 hw1; exact hd0 bj _ _ w1 hw1 ⟨by exact At.head, by (focus (repeat' first | exact At.head | apply At.tail); done), by (focus (repeat' first | exact At.head | apply At.tail | apply At.right); done), by (focus (repeat' first | exact At.head | apply At.tail | apply At.right); done)⟩; rintro v Lo ⟨rfl, rfl⟩) | (apply R.callE (Li := [(bj, .cells ⟨jnC bc 2 1 0 5 none 0 0⟩ 275 (0, 0)), (bn, .cells ⟨[.int .i64 1, .int .i64 1]⟩ 324 (0, 0))]) (vs := [.pointer (some ⟨bj, 0, none⟩), .int .i64 21]); (iterate 3 exact rfl); exact Ext.two _ (by (focus ((repeat' (exact Ext.one _ _)); done))) (by (focus ((repeat' (exact Ext.one _ _)); done))); intro w1 hw1; exact hd1 bj _ _ w1 hw1 ⟨by exact At.head, by (focus (repeat' first | exact At.head | apply At.tail); done), by (focus (repeat' first | exact At.head | apply At.tail | apply At.right); done), by (focus (repeat' first | exact At.head | apply At.tail | apply At.right); done)⟩; rintro v Lo ⟨Lw2, ⟨ovw2, hovw2, rfl, rfl⟩, rfl⟩) | (apply R.callV (vs := [.pointer (some ⟨bj, 0, none⟩)]); (iterate 3 exact rfl); intro w1 hw1; exact hsd bj w1 ⟨_, _, hw1.get _ _ (At.mem (by exact At.head))⟩)) | (apply R.pure; exact rfl; first | (apply Ok1.move; exact rfl) | (apply Ok1.assign; exact rfl) | (apply Ok1.extract; exact rfl; exact rfl) | (apply Ok1.pick_t; exact rfl; exact rfl) | (apply Ok1.not_f; exact rfl))) | (apply R.isG; (apply R.guard_run; exact rfl; exact rfl)) | apply R.nil | (apply T.is; first | apply T.seq | apply T.region | apply T.ret))
  all_goals (apply RetOk.t; exact rfl)
  all_goals rfl
/-- A letter that is to be written. -/
structure LT where
  k : Int
  to : Int
  p : Option Addr
  cap : Nat
  xs : List Int
instance : Inhabited LT := ⟨⟨0, 0, none, 0, []⟩⟩
def LT.v (x : LT) : List Value := [.int .i64 x.k, .int .i64 x.to, .slice x.p x.xs.length x.cap]
end Go.Proofs.YtolnagbahceebaaGreat
set_option linter.unusedSimpArgs false
set_option linter.unusedVariables false
namespace Go.Proofs.YtolnagbahceebaaGreat
open Go.ChangeShapes Go.WideShapes Go.ChangeAt Go.RowKit
theorem int1_decJ {cs : List Value} (h : allW [.int .i64] cs) : ∃ a : Int, cs = [.int .i64 a] := by
  match cs, h with
  | [.int k1 a], h =>
    obtain ⟨⟨rfl, _⟩, _⟩ := h
    exact ⟨a, rfl⟩
section
variable {H : Type} {enc : TypeId × Value → H} {w : World} {base : Nat} {spare : Nat → Bool} {held : Bool}
theorem u8_opensJ : Opens enc Tryz.prog w base spare held 5 fun cs => ∃ x : Int, u8V x = cs ∧ (0 ≤ x ∧ x ≤ 255) :=
  (Opens.flat (ks := [.int .u8]) tb rfl rfl rfl).mono fun cs h => by
    match cs, h with
    | [.int k1 a], h =>
      obtain ⟨⟨rfl, h2⟩, _⟩ := h
      have e0 : IntKind.u8.min = 0 := rfl
      have e1 : IntKind.u8.max = 255 := rfl
      exact ⟨a, rfl, by omega⟩
end
end Go.Proofs.YtolnagbahceebaaGreat
set_option linter.unusedSimpArgs false
set_option linter.unusedVariables false
namespace Go.Proofs.YtolnagbahceebaaGreat
open Go.RowKit Go.Shelf
set_option maxRecDepth 100000
section
variable {X : Cx} {σ : Env} {L : Lst} {ty t : TypeId} {pos : String} {af : Array Edge} {x y : Operand} {r : TRow} {ty2 : TypeId} {d : Option Nat} {g : Option (Nat × Bool)}
theorem Ok1.eqlFn0 {f : FuncId} (ht : X.tb.row t = some r) (hk : r.k = .fn) (hx : ev σ x = some (.func (.func f) #[] #[])) (hy : ev σ y = some .nilFunc) : Ok1 X ⟨d, .binOp .eql t x y ty2, ty, pos, af, g⟩ σ L (.bool false) := .mk fun a w ha hw => by
  obtain ⟨ps, rs, vv, h⟩ : ∃ ps rs v, X.P.underlying t = some (.func ps rs v) := by have := (X.tb.get ht).is; rw [hk] at this; exact this
  rw [eqlop_run (b := false) (ha.ev hx) (ha.ev hy) (fun _ e => by cases e) (fun e => by cases e) rfl fun d => by simp [Op.equalIn, run_underlying h]]
theorem Ok1.eqlFn1 (ht : X.tb.row t = some r) (hk : r.k = .fn) (hx : ev σ x = some .nilFunc) (hy : ev σ y = some .nilFunc) : Ok1 X ⟨d, .binOp .eql t x y ty2, ty, pos, af, g⟩ σ L (.bool true) := .mk fun a w ha hw => by
  obtain ⟨ps, rs, vv, h⟩ : ∃ ps rs v, X.P.underlying t = some (.func ps rs v) := by have := (X.tb.get ht).is; rw [hk] at this; exact this
  rw [eqlop_run (b := true) (ha.ev hx) (ha.ev hy) (fun _ e => by cases e) (fun e => by cases e) rfl fun d => by simp [Op.equalIn, run_underlying h]]
end
theorem wrE_up {k sd : Int} {n : Nat} (hk : wayI k = 1) (h0 : 0 ≤ sd) (h1 : sd ≤ 3) (hn : n ≤ 512) : wrE k sd n = 0 := by
  have : chE k sd = 0 := by unfold chE; rw [if_pos hk, if_pos ⟨h0, h1⟩]
  unfold wrE; rw [if_neg (fun g => g this), if_neg (by omega)]
/-- What a channel writes up to a seed. -/
theorem chwrite_up (bc bn br bb bd : Nat) (sd0 : List Value) (e1 : TypeId) (f1 : Nat × Nat) (c : Cl) (hr : c.right) (s : List Int) (hs : s.length = 32) (hsb : Byt s) (m1 m2 : Nat) (e : TypeId) (k sd : Int) (hk : wayI k = 1) (hd0 : 0 ≤ sd) (hd1 : sd ≤ 3) (boot cnt : Int) (hnr : NR boot (cnt + 1)) (h0 : 0 ≤ cnt) (p : Option Addr) (n cap : Nat) (body : List Int) (hn : n = body.length) (hn5 : n ≤ 512) (hbb : Byt body) (w : World) (hc : w.heap[bc]? = some (.cells ⟨chC bn br bb bd sd0⟩ e1 f1)) (hb : w.heap[br]? = some (.cells ⟨ringC c s m1 m2⟩ e (0, 0))) (hne1 : bc ≠ bn) (hne2 : br ≠ bn) (hbd : RdSl w p u8V body) (hq : body ≠ [] → Off p [bn]) :
    CallM Tryz.prog 43 [.pointer (some ⟨bc, 0, none⟩), .int .i64 k, .int .i64 sd, .slice p n cap] [CN bn boot cnt] w fun v L => ∃ Lo, Wrote c s k sd boot (cnt + 1) body v (.int .i64 0) Lo ∧ L = CN bn boot (cnt + 1) :: Lo := by
  have hw := wrE_up (n := n) hk hd0 hd1 hn5
  refine (chwriteG bc bn br bb bd sd0 e1 f1 c hr s hs hsb m1 m2 e k sd boot cnt hnr h0 p n cap body hn hbb w hc hb hne1 hne2 hbd hq).wk ?_
  rintro v L (⟨g, _⟩ | ⟨_, ov, g1, g2, g3⟩)
  · exact absurd hw g
  · exact ⟨_, ⟨ov, g1, g2, rfl⟩, g3⟩
def JLeave (bj bc bn : Nat) (c : Cl) (s : List Int) (S st sd la : Int) (q : Option Addr) (m cap : Nat) (boot cnt : Int) (v : Value) (L : Lst) : Prop := (st ≠ 3 ∧ v = .tuple #[.slice none 0 0, .int .i64 11] ∧ L = [JN bj bc S st sd la q m cap, CN bn boot cnt]) ∨ (st = 3 ∧ ∃ Lo, Wrote c s 14 sd boot (cnt + 1) [] v (.int .i64 0) Lo ∧ L = JN bj bc S 0 sd la q m cap :: CN bn boot (cnt + 1) :: Lo)
theorem jleave_ok (bj bc bn br bb bd : Nat) (sd0 : List Value) (e1 : TypeId) (f1 : Nat × Nat) (c : Cl) (hr : c.right) (s : List Int) (hs : s.length = 32) (hsb : Byt s) (m1 m2 : Nat) (e : TypeId) (S st sd la : Int) (hd0 : 0 ≤ sd) (hd1 : sd ≤ 3) (q : Option Addr) (m cap : Nat) (boot cnt : Int) (hnr : NR boot (cnt + 1)) (h0 : 0 ≤ cnt) (w : World) (hc : w.heap[bc]? = some (.cells ⟨chC bn br bb bd sd0⟩ e1 f1)) (hb : w.heap[br]? = some (.cells ⟨ringC c s m1 m2⟩ e (0, 0))) (hne1 : bc ∉ [bj, bn]) (hne2 : br ∉ [bj, bn]) :
    CallM Tryz.prog 60 [.pointer (some ⟨bj, 0, none⟩)] [JN bj bc S st sd la q m cap, CN bn boot cnt] w (JLeave bj bc bn c s S st sd la q m cap boot cnt) := by
  by_cases h3 : st = 3
  case neg =>
    unfold JLeave JN jnC CN
    refine enterK (tb := tb) Tryz.func60 rfl Tryz.ntmps60 rfl ?_
    repeat' (first | (apply R.is1; first | (apply R.isBin; (apply R.pure; exact rfl; first | (apply Ok1.eqlP; (iterate 5 exact rfl)) | (apply Ok1.neq_t; exact rfl; exact rfl; omega))) | (apply R.pure; exact rfl; first | (apply Ok1.move; exact rfl) | (apply Ok1.fieldAddr; (iterate 5 exact rfl)) | (apply Ok1.load; exact rfl; (apply Ld.own1; exact rfl; exact rfl; exact At.head; exact rfl)) | (apply Ok1.assign; exact rfl) | (apply Ok1.pick_f; exact rfl; exact rfl) | (apply Ok1.nilCheck; exact rfl))) | (apply R.isG; (apply R.guard_run; exact rfl; exact rfl)) | apply R.nil | (apply T.is; first | apply T.seq | apply T.region | apply T.ret | (apply T.cond_t; exact rfl)))
    all_goals (apply RetOk.tt; exact rfl; exact rfl)
    all_goals exact ⟨_, by (focus (repeat' first | exact Keep.nil _ | exact Ext.one _ _ | apply Keep.cons); done), .inl ⟨h3, rfl, rfl⟩⟩
  subst h3
  simp only [List.mem_cons, List.not_mem_nil, or_false, not_or] at hne1 hne2
  have hwr := fun w1 (h : Chg [bj, bn] w w1) => chwrite_up bc bn br bb bd sd0 e1 f1 c hr s hs hsb m1 m2 e 14 sd (by decide) hd0 hd1 boot cnt hnr h0 none 0 0 [] rfl (by decide) byt_nil w1 (h.heap hc (by simpa using hne1)) (h.heap hb (by simpa using hne2)) hne1.2 hne2.2 (.inl rfl) (fun g => absurd rfl g)
  unfold JLeave
  unfold Wrote at hwr ⊢
  generalize wrG c s 14 sd boot (cnt + 1) [] = G at *
  unfold JN jnC CN at *
  refine enterK (tb := tb) Tryz.func60 rfl Tryz.ntmps60 rfl ?_
  repeat' (first | (apply R.is1; first | (apply R.isBin; (apply R.pure; exact rfl; first | (apply Ok1.eqlP; (iterate 5 exact rfl)) | (apply Ok1.neq_f; exact rfl; exact rfl; omega))) | (apply R.pure; exact rfl; first | (apply Ok1.move; exact rfl) | (apply Ok1.fieldAddr; (iterate 5 exact rfl)) | (apply Ok1.load; exact rfl; (apply Ld.own1; exact rfl; exact rfl; exact At.head; exact rfl)) | (apply Ok1.assign; exact rfl) | (apply Ok1.pick_f; exact rfl; exact rfl) | (apply Ok1.nilCheck; exact rfl))) | (apply R.is0; (apply R.store; (iterate 6 exact rfl); (focus (repeat' first | exact Upd.head | apply Upd.tail | apply Upd.right); done); exact rfl)) | (apply R.isG; (apply R.guard_run; exact rfl; exact rfl)) | apply R.nil | (apply T.is; first | (apply T.drawC (id := 3) [0] (by decide); ((apply A.tk 0; exact rfl; kernel_rfl; (apply Ok1.move; exact rfl)) <;> (apply A.tk 1; exact rfl; kernel_rfl; (apply Ok1.nilCheck; exact rfl)) <;> (apply A.tk 2; exact rfl; kernel_rfl; (apply Ok1.fieldAddr; (iterate 5 exact rfl))) <;> (apply A.tk 3; exact rfl; kernel_rfl; (apply Ok1.load; exact rfl; (apply Ld.own1; exact rfl; exact rfl; exact At.head; exact rfl))) <;> (apply A.tk 4; exact rfl; kernel_rfl; (apply Ok1.move; exact rfl)) <;> (apply A.tk 5; exact rfl; kernel_rfl; (apply Ok1.nilCheck; exact rfl)) <;> (apply A.tk 6; exact rfl; kernel_rfl; (apply Ok1.fieldAddr; (iterate 5 exact rfl))) <;> (apply A.tk 7; exact rfl; kernel_rfl; (apply Ok1.load; exact rfl; (apply Ld.own1; exact rfl; exact rfl; exact At.head; exact rfl))) <;> (apply A.one 8; kernel_rfl; exact rfl; (((apply R.callE (Li := [(bn, .cells ⟨[.int .i64 boot, .int .i64 cnt]⟩ 324 (0, 0))]) (vs := [.pointer (some ⟨bc, 0, none⟩), .int .i64 14, .int .i64 sd, .slice none 0 0]); (iterate 3 exact rfl); (focus (repeat' first | exact Ext.one _ _ | apply Ext.cons); done); intro w1 hw1; exact hwr w1 hw1.chg; rintro v Lo ⟨Lw, ⟨ovw, hovw, rfl, rfl⟩, rfl⟩))); apply R.nil; refine ⟨?_, ?_⟩; (focus (repeat' first | exact trivial | exact At.head | apply At.tail | apply At.right | refine ⟨?_, ?_⟩))) <;> (apply A.tk 9; exact rfl; kernel_rfl; (apply Ok1.move; exact rfl)) <;> (apply A.tk 10; exact rfl; kernel_rfl; (apply Ok1.extract; exact rfl; exact rfl)) <;> (apply A.tk 11; exact rfl; kernel_rfl; (apply Ok1.extract; exact rfl; exact rfl)) <;> (apply A.tk 12; exact rfl; kernel_rfl; (apply Ok1.assign; exact rfl)) <;> (apply A.tk 13; exact rfl; kernel_rfl; (apply Ok1.assign; exact rfl)) <;> (apply A.done; kernel_rfl))) | apply T.seq | apply T.region | apply T.skip | apply T.ret | (apply T.cond_f; exact rfl)))
  all_goals (apply RetOk.tt; exact rfl; exact rfl)
  all_goals exact ⟨_, by (focus (repeat' first | exact Ext.one _ _ | exact Ext.here _ _ | apply Keep.cons | apply Keep.last | apply Ext.cons | apply Ext.app); done), .inr ⟨rfl, _, ⟨ovw, hovw, rfl, rfl⟩, rfl⟩⟩
/-- What a Cookie makes of a joiner. -/
def JCook (bj bc bn : Nat) (c : Cl) (s : List Int) (S st sd la : Int) (q : Option Addr) (m cap : Nat) (boot cnt to tick : Int) (n : Nat) (body : List Int) (v : Value) (L : Lst) : Prop :=
  ((st ≠ 1 ∨ to ≠ sd) ∧ v = .tuple #[.slice none 0 0, .int .i64 11] ∧ L = [JN bj bc S st sd la q m cap, CN bn boot cnt]) ∨ ((st = 1 ∧ to = sd) ∧ n ≠ 16 ∧ v = .tuple #[.slice none 0 0, .int .i64 3] ∧ L = [JN bj bc S st sd la q m cap, CN bn boot cnt]) ∨ ((st = 1 ∧ to = sd) ∧ n = 16 ∧ ∃ Lo, Wrote c s 3 sd boot (cnt + 1) body v (.int .i64 0) Lo ∧ L = JN bj bc S 2 sd tick q m cap :: CN bn boot (cnt + 1) :: Lo)
theorem jcookie_ok (bj bc bn br bb bd : Nat) (sd0 : List Value) (e1 : TypeId) (f1 : Nat × Nat) (c : Cl) (hr : c.right) (s : List Int) (hs : s.length = 32) (hsb : Byt s) (m1 m2 : Nat) (e : TypeId) (S st sd la : Int) (hd0 : 0 ≤ sd) (hd1 : sd ≤ 3) (q : Option Addr) (m cap : Nat) (boot cnt : Int) (hnr : NR boot (cnt + 1)) (h0 : 0 ≤ cnt) (k : Int) (c2 : Cl) (to a b : Int) (p : Option Addr) (n pc : Nat) (t body : List Int) (ht : t.length = 32) (hn : n = body.length) (hbb : Byt body) (tick : Int) (w : World) (hp : RdSl w p u8V body) (hq : body ≠ [] → Off p [bj, bn]) (hc : w.heap[bc]? = some (.cells ⟨chC bn br bb bd sd0⟩ e1 f1)) (hb : w.heap[br]? = some (.cells ⟨ringC c s m1 m2⟩ e (0, 0))) (hne1 : bc ∉ [bj, bn]) (hne2 : br ∉ [bj, bn]) :
    CallM Tryz.prog 196 [.pointer (some ⟨bj, 0, none⟩), .agg ⟨pkC k c2 to a b p n pc t⟩, .int .i64 tick] [JN bj bc S st sd la q m cap, CN bn boot cnt] w (JCook bj bc bn c s S st sd la q m cap boot cnt to tick n body) := by
  simp only [List.mem_cons, List.not_mem_nil, or_false, not_or] at hne1 hne2
  by_cases h1 : st = 1 ∧ to = sd
  case neg =>
    unfold JCook JN jnC CN pkC
    refine enterK (tb := tb) Tryz.func196 rfl Tryz.ntmps196 rfl ?_
    repeat' (first | (apply R.is1; first | (apply R.pure; exact rfl; (apply Ok1.assign; exact rfl)) | (apply R.box; (iterate 3 exact rfl); intro)) | apply R.nil | (apply T.is; first | (apply T.drawC (id := 1) [0,1] (by decide); ((apply A.tk 0; exact rfl; kernel_rfl; (apply Ok1.move; exact rfl)) <;> (apply A.tk 1; exact rfl; kernel_rfl; (apply Ok1.nilCheck; exact rfl)) <;> (apply A.tk 2; exact rfl; kernel_rfl; (apply Ok1.fieldAddr; (iterate 5 exact rfl))) <;> (apply A.tk 3; exact rfl; kernel_rfl; (apply Ok1.load; exact rfl; (apply Ld.own1; exact rfl; exact rfl; (focus (repeat' first | exact At.head | apply At.tail); done); exact rfl))) <;> ((apply A.tk 4; exact rfl; kernel_rfl; ((apply Ok1.neq; exact rfl; exact rfl)); apply A.dec (t := 15); exact rfl; all_goals intro)) <;> (apply A.tk 5; exact rfl; kernel_rfl; (apply Ok1.move; exact rfl)) <;> (first | (apply A.skG 6; (iterate 3 exact rfl); kernel_rfl) | (apply A.tkG 6; (iterate 3 exact rfl); kernel_rfl; (apply Ok1.fieldAddr; (iterate 5 exact rfl)))) <;> (first | (apply A.skG 7; (iterate 3 exact rfl); kernel_rfl) | (apply A.tkG 7; (iterate 3 exact rfl); kernel_rfl; (apply Ok1.load; exact rfl; (apply Ld.own1; exact rfl; exact rfl; exact At.head; exact rfl)))) <;> (first | (apply A.skG 8; (iterate 3 exact rfl); kernel_rfl) | (apply A.tkG 8; (iterate 3 exact rfl); kernel_rfl; (apply Ok1.move; exact rfl))) <;> (first | (apply A.skG 9; (iterate 3 exact rfl); kernel_rfl) | (apply A.tkG 9; (iterate 3 exact rfl); kernel_rfl; (apply Ok1.nilCheck; exact rfl))) <;> (first | (apply A.skG 10; (iterate 3 exact rfl); kernel_rfl) | (apply A.tkG 10; (iterate 3 exact rfl); kernel_rfl; (apply Ok1.fieldAddr; (iterate 5 exact rfl)))) <;> (first | (apply A.skG 11; (iterate 3 exact rfl); kernel_rfl) | (apply A.tkG 11; (iterate 3 exact rfl); kernel_rfl; (apply Ok1.load; exact rfl; (apply Ld.own1; exact rfl; exact rfl; (focus (repeat' first | exact At.head | apply At.tail); done); exact rfl)))) <;> (first | (apply A.skG 12; (iterate 3 exact rfl); kernel_rfl) | (apply A.tkG 12; (iterate 3 exact rfl); kernel_rfl; (apply Ok1.neq_t; exact rfl; exact rfl; omega))) <;> (apply A.tk 13; exact rfl; kernel_rfl; first | (apply Ok1.pick_t; exact rfl; exact rfl) | (apply Ok1.pick_f; exact rfl; exact rfl)) <;> (apply A.tk 14; exact rfl; kernel_rfl; (apply Ok1.assign; exact rfl)) <;> (apply A.done; kernel_rfl))) | apply T.seq | apply T.region | apply T.block | apply T.ret | (apply T.cond_t; exact rfl)))
    all_goals (apply RetOk.tt; exact rfl; exact rfl)
    all_goals exact ⟨_, by (focus (repeat' first | exact Keep.nil _ | exact Ext.one _ _ | apply Keep.cons | apply Ext.cons); done), .inl ⟨by omega, rfl, rfl⟩⟩
  obtain ⟨rfl, rfl⟩ := h1
  by_cases h16 : n = 16
  case neg =>
    have h16' : (n : Int) ≠ 16 := by omega
    unfold JCook JN jnC CN pkC
    refine enterK (tb := tb) Tryz.func196 rfl Tryz.ntmps196 rfl ?_
    repeat' (first | (apply R.is1; first | (apply R.isBin; (apply R.pure; exact rfl; (apply Ok1.neq_t; exact rfl; exact rfl; omega))) | (apply R.isCall; (apply R.pure; exact rfl; (apply Ok1.lenS; (iterate 3 exact rfl)))) | (apply R.pure; exact rfl; first | (apply Ok1.fieldAddr; (iterate 5 exact rfl)) | (apply Ok1.load; exact rfl; (apply Ld.own1; exact rfl; exact rfl; exact At.head; exact rfl)) | (apply Ok1.assign; exact rfl)) | (apply R.box; (iterate 3 exact rfl); intro)) | apply R.nil | (apply T.is; first | (apply T.drawC (id := 1) [0,1] (by decide); ((apply A.tk 0; exact rfl; kernel_rfl; (apply Ok1.move; exact rfl)) <;> (apply A.tk 1; exact rfl; kernel_rfl; (apply Ok1.nilCheck; exact rfl)) <;> (apply A.tk 2; exact rfl; kernel_rfl; (apply Ok1.fieldAddr; (iterate 5 exact rfl))) <;> (apply A.tk 3; exact rfl; kernel_rfl; (apply Ok1.load; exact rfl; (apply Ld.own1; exact rfl; exact rfl; (focus (repeat' first | exact At.head | apply At.tail); done); exact rfl))) <;> ((apply A.tk 4; exact rfl; kernel_rfl; (apply Ok1.neq_f; exact rfl; exact rfl; omega))) <;> (apply A.tk 5; exact rfl; kernel_rfl; (apply Ok1.move; exact rfl)) <;> ((apply A.tkG 6; (iterate 3 exact rfl); kernel_rfl; (apply Ok1.fieldAddr; (iterate 5 exact rfl)))) <;> ((apply A.tkG 7; (iterate 3 exact rfl); kernel_rfl; (apply Ok1.load; exact rfl; (apply Ld.own1; exact rfl; exact rfl; exact At.head; exact rfl)))) <;> ((apply A.tkG 8; (iterate 3 exact rfl); kernel_rfl; (apply Ok1.move; exact rfl))) <;> ((apply A.tkG 9; (iterate 3 exact rfl); kernel_rfl; (apply Ok1.nilCheck; exact rfl))) <;> ((apply A.tkG 10; (iterate 3 exact rfl); kernel_rfl; (apply Ok1.fieldAddr; (iterate 5 exact rfl)))) <;> ((apply A.tkG 11; (iterate 3 exact rfl); kernel_rfl; (apply Ok1.load; exact rfl; (apply Ld.own1; exact rfl; exact rfl; (focus (repeat' first | exact At.head | apply At.tail); done); exact rfl)))) <;> ((apply A.tkG 12; (iterate 3 exact rfl); kernel_rfl; (apply Ok1.neq_f; exact rfl; exact rfl; omega))) <;> (apply A.tk 13; exact rfl; kernel_rfl; (apply Ok1.pick_f; exact rfl; exact rfl)) <;> (apply A.tk 14; exact rfl; kernel_rfl; (apply Ok1.assign; exact rfl)) <;> (apply A.done; kernel_rfl))) | apply T.seq | apply T.region | apply T.block | apply T.ret | (apply T.cond_t; exact rfl) | (apply T.cond_f; exact rfl)))
    all_goals (apply RetOk.tt; exact rfl; exact rfl)
    all_goals exact ⟨_, by (focus (repeat' first | exact Keep.nil _ | exact Ext.one _ _ | apply Keep.cons | apply Ext.cons); done), .inr (.inl ⟨⟨rfl, rfl⟩, h16, rfl, rfl⟩)⟩
  subst h16
  have hwr := fun w1 (h : Chg [bj, bn] w w1) => chwrite_up bc bn br bb bd sd0 e1 f1 c hr s hs hsb m1 m2 e 3 to (by decide) hd0 hd1 boot cnt hnr h0 p 16 pc body hn (by decide) hbb w1 (h.heap hc (by simpa using hne1)) (h.heap hb (by simpa using hne2)) hne1.2 hne2.2 (hp.chg' h hq) (fun g a ha => by have := hq g a ha; simp only [List.mem_cons, List.not_mem_nil, or_false, not_or] at this ⊢; exact this.2)
  unfold JCook
  unfold Wrote at hwr ⊢
  generalize wrG c s 3 to boot (cnt + 1) body = G at *
  unfold JN jnC CN at *
  unfold pkC
  refine enterK (tb := tb) Tryz.func196 rfl Tryz.ntmps196 rfl ?_
  repeat' (first | (apply R.is1; first | (apply R.isBin; (apply R.pure; exact rfl; (apply Ok1.neq_f; exact rfl; exact rfl; omega))) | (apply R.isCall; (apply R.pure; exact rfl; (apply Ok1.lenS; (iterate 3 exact rfl)))) | (apply R.pure; exact rfl; first | (apply Ok1.move; exact rfl) | (apply Ok1.fieldAddr; (iterate 5 exact rfl)) | (apply Ok1.load; exact rfl; (apply Ld.own1; exact rfl; exact rfl; exact At.head; exact rfl)) | (apply Ok1.assign; exact rfl) | (apply Ok1.nilCheck; exact rfl)) | (apply R.box; (iterate 3 exact rfl); intro)) | (apply R.is0; (apply R.store; (iterate 6 exact rfl); (focus (repeat' first | exact Upd.head | apply Upd.tail | apply Upd.right); done); exact rfl)) | apply R.nil | (apply T.is; first | (apply T.drawC (id := 1) [0,1] (by decide); ((apply A.tk 0; exact rfl; kernel_rfl; (apply Ok1.move; exact rfl)) <;> (apply A.tk 1; exact rfl; kernel_rfl; (apply Ok1.nilCheck; exact rfl)) <;> (apply A.tk 2; exact rfl; kernel_rfl; (apply Ok1.fieldAddr; (iterate 5 exact rfl))) <;> (apply A.tk 3; exact rfl; kernel_rfl; (apply Ok1.load; exact rfl; (apply Ld.own1; exact rfl; exact rfl; (focus (repeat' first | exact At.head | apply At.tail); done); exact rfl))) <;> ((apply A.tk 4; exact rfl; kernel_rfl; (apply Ok1.neq_f; exact rfl; exact rfl; omega))) <;> (apply A.tk 5; exact rfl; kernel_rfl; (apply Ok1.move; exact rfl)) <;> ((apply A.tkG 6; (iterate 3 exact rfl); kernel_rfl; (apply Ok1.fieldAddr; (iterate 5 exact rfl)))) <;> ((apply A.tkG 7; (iterate 3 exact rfl); kernel_rfl; (apply Ok1.load; exact rfl; (apply Ld.own1; exact rfl; exact rfl; exact At.head; exact rfl)))) <;> ((apply A.tkG 8; (iterate 3 exact rfl); kernel_rfl; (apply Ok1.move; exact rfl))) <;> ((apply A.tkG 9; (iterate 3 exact rfl); kernel_rfl; (apply Ok1.nilCheck; exact rfl))) <;> ((apply A.tkG 10; (iterate 3 exact rfl); kernel_rfl; (apply Ok1.fieldAddr; (iterate 5 exact rfl)))) <;> ((apply A.tkG 11; (iterate 3 exact rfl); kernel_rfl; (apply Ok1.load; exact rfl; (apply Ld.own1; exact rfl; exact rfl; (focus (repeat' first | exact At.head | apply At.tail); done); exact rfl)))) <;> ((apply A.tkG 12; (iterate 3 exact rfl); kernel_rfl; (apply Ok1.neq_f; exact rfl; exact rfl; omega))) <;> (apply A.tk 13; exact rfl; kernel_rfl; (apply Ok1.pick_f; exact rfl; exact rfl)) <;> (apply A.tk 14; exact rfl; kernel_rfl; (apply Ok1.assign; exact rfl)) <;> (apply A.done; kernel_rfl))) | (apply T.drawC (id := 5) [0,1] (by decide); ((apply A.tk 0; exact rfl; kernel_rfl; (apply Ok1.move; exact rfl)) <;> (apply A.tk 1; exact rfl; kernel_rfl; (apply Ok1.nilCheck; exact rfl)) <;> (apply A.tk 2; exact rfl; kernel_rfl; (apply Ok1.fieldAddr; (iterate 5 exact rfl))) <;> (apply A.tk 3; exact rfl; kernel_rfl; (apply Ok1.load; exact rfl; (apply Ld.own1; exact rfl; exact rfl; (focus (repeat' first | exact At.head | apply At.tail); done); exact rfl))) <;> (apply A.tk 4; exact rfl; kernel_rfl; (apply Ok1.move; exact rfl)) <;> (apply A.tk 5; exact rfl; kernel_rfl; (apply Ok1.nilCheck; exact rfl)) <;> (apply A.tk 6; exact rfl; kernel_rfl; (apply Ok1.fieldAddr; (iterate 5 exact rfl))) <;> (apply A.tk 7; exact rfl; kernel_rfl; (apply Ok1.load; exact rfl; (apply Ld.own1; exact rfl; exact rfl; (focus (repeat' first | exact At.head | apply At.tail); done); exact rfl))) <;> (apply A.tk 8; exact rfl; kernel_rfl; (apply Ok1.fieldAddr; (iterate 5 exact rfl))) <;> (apply A.tk 9; exact rfl; kernel_rfl; (apply Ok1.load; exact rfl; (apply Ld.own1; exact rfl; exact rfl; exact At.head; exact rfl))) <;> (apply A.one 10; kernel_rfl; exact rfl; (((apply R.callE (Li := [(bn, .cells ⟨[.int .i64 boot, .int .i64 cnt]⟩ 324 (0, 0))]) (vs := [.pointer (some ⟨bc, 0, none⟩), .int .i64 3, .int .i64 to, .slice p 16 pc]); (iterate 3 exact rfl); (focus (repeat' first | exact Ext.one _ _ | apply Ext.cons); done); intro w1 hw1; exact hwr w1 hw1.chg; rintro v Lo ⟨Lw, ⟨ovw, hovw, rfl, rfl⟩, rfl⟩))); apply R.nil; refine ⟨?_, ?_⟩; (focus (repeat' first | exact trivial | exact At.head | apply At.tail | apply At.right | refine ⟨?_, ?_⟩))) <;> (apply A.tk 11; exact rfl; kernel_rfl; (apply Ok1.move; exact rfl)) <;> (apply A.tk 12; exact rfl; kernel_rfl; (apply Ok1.extract; exact rfl; exact rfl)) <;> (apply A.tk 13; exact rfl; kernel_rfl; (apply Ok1.extract; exact rfl; exact rfl)) <;> (apply A.tk 14; exact rfl; kernel_rfl; (apply Ok1.assign; exact rfl)) <;> (apply A.tk 15; exact rfl; kernel_rfl; (apply Ok1.assign; exact rfl)) <;> (apply A.done; kernel_rfl))) | apply T.seq | apply T.region | apply T.block | apply T.skip | apply T.ret | (apply T.cond_f; exact rfl)))
  all_goals (apply RetOk.tt; exact rfl; exact rfl)
  all_goals exact ⟨_, by (focus (repeat' first | exact Ext.one _ _ | exact Ext.here _ _ | apply Keep.cons | apply Keep.last | apply Ext.cons | apply Ext.app); done), .inr (.inr ⟨⟨rfl, rfl⟩, rfl, _, ⟨ovw, hovw, rfl, rfl⟩, rfl⟩)⟩
/-- What an Admit makes of a joiner. -/
def JAdm (bj bc : Nat) (S st sd la : Int) (q : Option Addr) (m cap : Nat) (to tick : Int) (body : List Int) (v : Value) (L : Lst) : Prop :=
  ((st ≠ 2 ∨ to ≠ sd) ∧ v = .tuple #[.slice none 0 0, .int .i64 11] ∧ L = [JN bj bc S st sd la q m cap]) ∨ ((st = 2 ∧ to = sd) ∧ (rdJ (R0 body)).2 ≠ 0 ∧ v = .tuple #[.slice none 0 0, .int .i64 3] ∧ L = [JN bj bc S st sd la q m cap]) ∨ ((st = 2 ∧ to = sd) ∧ (rdJ (R0 body)).2 = 0 ∧ v = .tuple #[.slice none 0 0, .int .i64 0] ∧ ∃ ov, OvOk 4 ov (rdJ (R0 body)).1.length (fl Cl.v (rdJ (R0 body)).1) ∧ L = JN bj bc S 3 sd tick (ovp ov) (rdJ (R0 body)).1.length (ovc ov (rdJ (R0 body)).1.length) :: blkL 97 ov (fl Cl.v (rdJ (R0 body)).1))
theorem jadmit_ok (bj bc : Nat) (S st sd la : Int) (q : Option Addr) (m cap : Nat) (k : Int) (c2 : Cl) (to a b : Int) (p : Option Addr) (n pc : Nat) (t body : List Int) (ht : t.length = 32) (hn : n = body.length) (hn5 : n ≤ 1024) (hbb : Byt body) (tick : Int) (w : World) (hp : RdSl w p u8V body) (hq : body ≠ [] → Off p [bj]) :
    CallM Tryz.prog 197 [.pointer (some ⟨bj, 0, none⟩), .agg ⟨pkC k c2 to a b p n pc t⟩, .int .i64 tick] [JN bj bc S st sd la q m cap] w (JAdm bj bc S st sd la q m cap to tick body) := by
  by_cases h1 : st = 2 ∧ to = sd
  case neg =>
    unfold JAdm JN jnC pkC
    refine enterK (tb := tb) Tryz.func197 rfl Tryz.ntmps197 rfl ?_
    repeat' (first | (apply R.is1; first | (apply R.pure; exact rfl; (apply Ok1.assign; exact rfl)) | (apply R.box; (iterate 3 exact rfl); intro)) | apply R.nil | (apply T.is; first | (apply T.drawC (id := 1) [0,1] (by decide); ((apply A.tk 0; exact rfl; kernel_rfl; (apply Ok1.move; exact rfl)) <;> (apply A.tk 1; exact rfl; kernel_rfl; (apply Ok1.nilCheck; exact rfl)) <;> (apply A.tk 2; exact rfl; kernel_rfl; (apply Ok1.fieldAddr; (iterate 5 exact rfl))) <;> (apply A.tk 3; exact rfl; kernel_rfl; (apply Ok1.load; exact rfl; (apply Ld.own1; exact rfl; exact rfl; (focus (repeat' first | exact At.head | apply At.tail); done); exact rfl))) <;> ((apply A.tk 4; exact rfl; kernel_rfl; ((apply Ok1.neq; exact rfl; exact rfl)); apply A.dec (t := 14); exact rfl; all_goals intro)) <;> (apply A.tk 5; exact rfl; kernel_rfl; (apply Ok1.move; exact rfl)) <;> (first | (apply A.skG 6; (iterate 3 exact rfl); kernel_rfl) | (apply A.tkG 6; (iterate 3 exact rfl); kernel_rfl; (apply Ok1.fieldAddr; (iterate 5 exact rfl)))) <;> (first | (apply A.skG 7; (iterate 3 exact rfl); kernel_rfl) | (apply A.tkG 7; (iterate 3 exact rfl); kernel_rfl; (apply Ok1.load; exact rfl; (apply Ld.own1; exact rfl; exact rfl; exact At.head; exact rfl)))) <;> (first | (apply A.skG 8; (iterate 3 exact rfl); kernel_rfl) | (apply A.tkG 8; (iterate 3 exact rfl); kernel_rfl; (apply Ok1.move; exact rfl))) <;> (first | (apply A.skG 9; (iterate 3 exact rfl); kernel_rfl) | (apply A.tkG 9; (iterate 3 exact rfl); kernel_rfl; (apply Ok1.nilCheck; exact rfl))) <;> (first | (apply A.skG 10; (iterate 3 exact rfl); kernel_rfl) | (apply A.tkG 10; (iterate 3 exact rfl); kernel_rfl; (apply Ok1.fieldAddr; (iterate 5 exact rfl)))) <;> (first | (apply A.skG 11; (iterate 3 exact rfl); kernel_rfl) | (apply A.tkG 11; (iterate 3 exact rfl); kernel_rfl; (apply Ok1.load; exact rfl; (apply Ld.own1; exact rfl; exact rfl; (focus (repeat' first | exact At.head | apply At.tail); done); exact rfl)))) <;> (first | (apply A.skG 12; (iterate 3 exact rfl); kernel_rfl) | (apply A.tkG 12; (iterate 3 exact rfl); kernel_rfl; (apply Ok1.neq_t; exact rfl; exact rfl; omega))) <;> (apply A.tk 13; exact rfl; kernel_rfl; first | (apply Ok1.pick_t; exact rfl; exact rfl) | (apply Ok1.pick_f; exact rfl; exact rfl)) <;> (apply A.done; kernel_rfl))) | apply T.seq | apply T.region | apply T.ret | (apply T.cond_t; exact rfl)))
    all_goals (apply RetOk.tt; exact rfl; exact rfl)
    all_goals exact ⟨_, by (focus (repeat' first | exact Keep.nil _ | exact Ext.one _ _ | apply Keep.cons | apply Ext.cons); done), .inl ⟨by omega, rfl, rfl⟩⟩
  obtain ⟨rfl, rfl⟩ := h1
  have hrd := fun w1 (h : Chg [bj] w w1) => jread0_ok p n pc body hn hn5 hbb w1 (hp.chg' h hq)
  unfold JAdm JN jnC pkC
  generalize rdJ (R0 body) = J at *
  obtain ⟨js, je⟩ := J
  dsimp only at hrd ⊢
  by_cases he : je = 0
  · subst he
    refine enterK (tb := tb) Tryz.func197 rfl Tryz.ntmps197 rfl ?_
    repeat' (first | (apply R.is1; first | (apply R.isBin; (apply R.pure; exact rfl; (apply Ok1.neq_f; exact rfl; exact rfl; omega))) | (apply R.isCall; (apply R.callE (vs := [.slice p n pc]); (iterate 3 exact rfl); exact Ext.none _; intro w1 hw1; exact hrd w1 hw1.chg; rintro v Lo ⟨ovj, hovj, rfl, rfl⟩; rw [slV_eq hovj])) | (apply R.pure; exact rfl; first | (apply Ok1.move; exact rfl) | (apply Ok1.fieldAddr; (iterate 5 exact rfl)) | (apply Ok1.load; exact rfl; (apply Ld.own1; exact rfl; exact rfl; exact At.head; exact rfl)) | (apply Ok1.assign; exact rfl) | (apply Ok1.extract; exact rfl; exact rfl) | (apply Ok1.nilCheck; exact rfl)) | (apply R.box; (iterate 3 exact rfl); intro)) | (apply R.is0; (apply R.store; (iterate 6 exact rfl); (focus (repeat' first | exact Upd.head | apply Upd.tail | apply Upd.right); done); exact rfl)) | apply R.nil | (apply T.is; first | (apply T.drawC (id := 1) [0,1] (by decide); ((apply A.tk 0; exact rfl; kernel_rfl; (apply Ok1.move; exact rfl)) <;> (apply A.tk 1; exact rfl; kernel_rfl; (apply Ok1.nilCheck; exact rfl)) <;> (apply A.tk 2; exact rfl; kernel_rfl; (apply Ok1.fieldAddr; (iterate 5 exact rfl))) <;> (apply A.tk 3; exact rfl; kernel_rfl; (apply Ok1.load; exact rfl; (apply Ld.own1; exact rfl; exact rfl; (focus (repeat' first | exact At.head | apply At.tail); done); exact rfl))) <;> ((apply A.tk 4; exact rfl; kernel_rfl; (apply Ok1.neq_f; exact rfl; exact rfl; omega))) <;> (apply A.tk 5; exact rfl; kernel_rfl; (apply Ok1.move; exact rfl)) <;> ((apply A.tkG 6; (iterate 3 exact rfl); kernel_rfl; (apply Ok1.fieldAddr; (iterate 5 exact rfl)))) <;> ((apply A.tkG 7; (iterate 3 exact rfl); kernel_rfl; (apply Ok1.load; exact rfl; (apply Ld.own1; exact rfl; exact rfl; exact At.head; exact rfl)))) <;> ((apply A.tkG 8; (iterate 3 exact rfl); kernel_rfl; (apply Ok1.move; exact rfl))) <;> ((apply A.tkG 9; (iterate 3 exact rfl); kernel_rfl; (apply Ok1.nilCheck; exact rfl))) <;> ((apply A.tkG 10; (iterate 3 exact rfl); kernel_rfl; (apply Ok1.fieldAddr; (iterate 5 exact rfl)))) <;> ((apply A.tkG 11; (iterate 3 exact rfl); kernel_rfl; (apply Ok1.load; exact rfl; (apply Ld.own1; exact rfl; exact rfl; (focus (repeat' first | exact At.head | apply At.tail); done); exact rfl)))) <;> ((apply A.tkG 12; (iterate 3 exact rfl); kernel_rfl; (apply Ok1.neq_f; exact rfl; exact rfl; omega))) <;> (apply A.tk 13; exact rfl; kernel_rfl; (apply Ok1.pick_f; exact rfl; exact rfl)) <;> (apply A.done; kernel_rfl))) | apply T.seq | apply T.region | apply T.skip | apply T.ret | (apply T.cond_f; exact rfl)))
    all_goals (apply RetOk.tt; exact rfl; exact rfl)
    all_goals exact ⟨_, by (focus (repeat' first | exact Ext.one _ _ | exact Ext.here _ _ | apply Keep.cons | apply Keep.last | apply Ext.cons | apply Ext.app); done), .inr (.inr ⟨⟨rfl, rfl⟩, rfl, rfl, ovj, hovj, rfl⟩)⟩
  · refine enterK (tb := tb) Tryz.func197 rfl Tryz.ntmps197 rfl ?_
    repeat' (first | (apply R.is1; first | (apply R.isBin; (apply R.pure; exact rfl; (apply Ok1.neq_t; exact rfl; exact rfl; omega))) | (apply R.isCall; (apply R.callE (vs := [.slice p n pc]); (iterate 3 exact rfl); exact Ext.none _; intro w1 hw1; exact hrd w1 hw1.chg; rintro v Lo ⟨ovj, hovj, rfl, rfl⟩; rw [slV_eq hovj])) | (apply R.pure; exact rfl; first | (apply Ok1.move; exact rfl) | (apply Ok1.fieldAddr; (iterate 5 exact rfl)) | (apply Ok1.load; exact rfl; (apply Ld.own1; exact rfl; exact rfl; exact At.head; exact rfl)) | (apply Ok1.assign; exact rfl) | (apply Ok1.extract; exact rfl; exact rfl)) | (apply R.box; (iterate 3 exact rfl); intro)) | apply R.nil | (apply T.is; first | (apply T.drawC (id := 1) [0,1] (by decide); ((apply A.tk 0; exact rfl; kernel_rfl; (apply Ok1.move; exact rfl)) <;> (apply A.tk 1; exact rfl; kernel_rfl; (apply Ok1.nilCheck; exact rfl)) <;> (apply A.tk 2; exact rfl; kernel_rfl; (apply Ok1.fieldAddr; (iterate 5 exact rfl))) <;> (apply A.tk 3; exact rfl; kernel_rfl; (apply Ok1.load; exact rfl; (apply Ld.own1; exact rfl; exact rfl; (focus (repeat' first | exact At.head | apply At.tail); done); exact rfl))) <;> ((apply A.tk 4; exact rfl; kernel_rfl; (apply Ok1.neq_f; exact rfl; exact rfl; omega))) <;> (apply A.tk 5; exact rfl; kernel_rfl; (apply Ok1.move; exact rfl)) <;> ((apply A.tkG 6; (iterate 3 exact rfl); kernel_rfl; (apply Ok1.fieldAddr; (iterate 5 exact rfl)))) <;> ((apply A.tkG 7; (iterate 3 exact rfl); kernel_rfl; (apply Ok1.load; exact rfl; (apply Ld.own1; exact rfl; exact rfl; exact At.head; exact rfl)))) <;> ((apply A.tkG 8; (iterate 3 exact rfl); kernel_rfl; (apply Ok1.move; exact rfl))) <;> ((apply A.tkG 9; (iterate 3 exact rfl); kernel_rfl; (apply Ok1.nilCheck; exact rfl))) <;> ((apply A.tkG 10; (iterate 3 exact rfl); kernel_rfl; (apply Ok1.fieldAddr; (iterate 5 exact rfl)))) <;> ((apply A.tkG 11; (iterate 3 exact rfl); kernel_rfl; (apply Ok1.load; exact rfl; (apply Ld.own1; exact rfl; exact rfl; (focus (repeat' first | exact At.head | apply At.tail); done); exact rfl)))) <;> ((apply A.tkG 12; (iterate 3 exact rfl); kernel_rfl; (apply Ok1.neq_f; exact rfl; exact rfl; omega))) <;> (apply A.tk 13; exact rfl; kernel_rfl; (apply Ok1.pick_f; exact rfl; exact rfl)) <;> (apply A.done; kernel_rfl))) | apply T.seq | apply T.region | apply T.skip | apply T.ret | (apply T.cond_t; exact rfl) | (apply T.cond_f; exact rfl)))
    all_goals (apply RetOk.tt; exact rfl; exact rfl)
    all_goals exact ⟨_, by (focus (repeat' first | exact Keep.nil _ | exact Ext.one _ _ | apply Keep.cons | apply Ext.cons | apply Ext.app); done), .inr (.inl ⟨⟨rfl, rfl⟩, he, rfl, rfl⟩)⟩
theorem rdJ_nil : rdJ (R0 []) = ([], 4) := by
  have e1 : ((R0 []).num 1).1 = 0 := by unfold Rs.num; rw [if_pos (.inr (show ([] : List Int).length < 1 by decide))]
  have e2 : (R0 []).o1.e = 4 := Rs.num_few (k := 1) rfl (show ([] : List Int).length < 1 by decide)
  have hR : rdR (R0 []) = ([], 0, (R0 []).o1) := by unfold rdR; rw [e1]; rfl
  have hf : (R0 []).o1.fin = 4 := by unfold Rs.fin; rw [e2, if_pos (by decide)]
  unfold rdJ
  rw [hR, if_neg (fun h => h rfl), hf, if_pos (by decide)]
theorem vjread_ok (p : Option Addr) (n cap : Nat) (xs : List Int) (hn : n = xs.length) (hcap : n ≤ cap) (hbig : n ≤ 100000) (hb : Byt xs) (w : World) (hp : RdSl w p u8V xs) :
    CallM Tryz.prog 140 [.slice p n cap] [] w fun v L => ∃ ov, OvOk 4 ov (rdJ (R0 xs)).1.length (fl Cl.v (rdJ (R0 xs)).1) ∧ v = .tuple #[slV ov (rdJ (R0 xs)).1.length, .int .i64 (rdJ (R0 xs)).2] ∧ L = blkL 127 ov (fl Cl.v (rdJ (R0 xs)).1) := by
  cases xs with
  | nil =>
    rw [rdJ_nil]
    have h0 : n = 0 := hn
    refine enterK (tb := tb) Tryz.func140 rfl Tryz.ntmps140 rfl ?_
    repeat' (first | (apply R.is1; first | (apply R.isBin; (apply R.pure; exact rfl; (apply Ok1.eql_t; exact rfl; exact rfl; omega))) | (apply R.isCall; (apply R.pure; exact rfl; (apply Ok1.lenS; (iterate 3 exact rfl)))) | (apply R.pure; exact rfl; first | (apply Ok1.move; exact rfl) | (apply Ok1.assign; exact rfl))) | apply R.nil | (apply T.is; first | apply T.seq | apply T.region | apply T.ret | (apply T.cond_t; exact rfl)))
    (apply RetOk.tt; exact rfl; exact rfl)
    exact ⟨_, by (focus ((repeat' (exact Keep.nil _)); done)), none, OvOk.start 4, rfl, rfl⟩
  | cons x bs =>
    obtain ⟨t0, ht0, ht1, ht2⟩ := rdR0 hb rfl
    have hx := hb x List.mem_cons_self
    obtain ⟨N, hN⟩ : ∃ N : Nat, x = N := ⟨x.toNat, by omega⟩
    subst hN
    rw [Int.toNat_natCast] at ht2
    have hlen : n = bs.length + 1 := hn
    obtain ⟨b0, o0, hpe, H0⟩ := hp.at (i := 0) (a := (N : Int)) rfl
    replace H0 := H0 1 u8V_len
    have hsuf := hp.suf u8V_len (cap := cap) (i := 1) (by simp) (by omega)
    rw [show ((N : Int) :: bs).drop 1 = bs from rfl] at hsuf
    have hbb : Byt bs := fun y hy => hb y (List.mem_cons_of_mem _ hy)
    have hJ : rdJ (R0 ((N : Int) :: bs)) = if (rdR (R0 ((N : Int) :: bs))).2.1 ≠ 0 then ([], (rdR (R0 ((N : Int) :: bs))).2.1) else if (rdR (R0 ((N : Int) :: bs))).2.2.fin ≠ 0 then ([], (rdR (R0 ((N : Int) :: bs))).2.2.fin) else if ¬ (rdR (R0 ((N : Int) :: bs))).1.Nodup ∨ 16 < (rdR (R0 ((N : Int) :: bs))).1.length then ([], 3) else ((rdR (R0 ((N : Int) :: bs))).1, 0) := rfl
    generalize rdJ (R0 ((N : Int) :: bs)) = JJ at *
    generalize rdR (R0 ((N : Int) :: bs)) = RR at *
    refine enterK (tb := tb) Tryz.func140 rfl Tryz.ntmps140 rfl ?_
    repeat' (first | (apply R.is1; first | (apply R.isBin; (apply R.pure; exact rfl; (apply Ok1.eql_f; exact rfl; exact rfl; omega))) | (apply R.isCall; (apply R.pure; exact rfl; (apply Ok1.lenS; (iterate 3 exact rfl)))) | (apply R.pure; exact rfl; first | (apply Ok1.indexAddrP; (iterate 4 exact rfl); exact hpe; exact rfl; omega; omega) | (apply Ok1.load; exact rfl; apply Ld.row0 H0; exact rfl; exact List.not_mem_nil; (iterate 3 exact rfl)) | (apply Ok1.sufR (i := 1) (sz := 1); (iterate 6 exact rfl); omega; omega) | (apply Ok1.move; exact rfl) | (apply Ok1.assign; exact rfl) | (apply Ok1.convI64; (iterate 5 exact rfl); omega; omega))) | apply R.nil | (apply T.is; first | apply T.seq | apply T.region | apply T.block | apply T.skip | (apply T.cond_f; exact rfl)))
    apply T.loopK (α := Nat × List Cl × Ov × Option Addr × Nat × List Int) (I := fun y => y.2.1.length + y.1 = N ∧ OvOk 4 y.2.2.1 y.2.1.length (fl Cl.v y.2.1) ∧ RdSl w y.2.2.2.1 u8V y.2.2.2.2.2 ∧ y.2.2.2.2.2.length ≤ y.2.2.2.2.1 ∧ y.2.2.2.2.2.length ≤ 100000 ∧ Byt y.2.2.2.2.2 ∧ ∃ t : Rs, t.xs = y.2.2.2.2.2 ∧ t.e = 0 ∧ RR = combC y.2.1 (rdCl y.1 t)) (σi := fun y => [(0, .slice y.2.2.2.1 y.2.2.2.2.2.length y.2.2.2.2.1), (4, slV y.2.2.1 y.2.1.length), (5, .int .i64 N), (6, .int .i64 y.2.1.length)]) (Li := fun y => blkL 127 y.2.2.1 (fl Cl.v y.2.1)) (μ := fun y => y.1) (i0 := (N, [], none, sufP p cap 1 1, cap - 1, bs))
    · exact ⟨by simp, OvOk.start 4, hsuf, (by show bs.length ≤ cap - 1; omega), (by show bs.length ≤ 100000; omega), hbb, t0, ht0, ht1, by rw [ht2, combC_nil]⟩
    · exact ⟨by simp only [look, hlen, Nat.add_sub_cancel], rfl, rfl, rfl, trivial⟩
    · exact Keep.nil _
    · rintro ⟨k, cs, ov, q, qc, rest⟩ ⟨hk, hov, hrd, hrc, hrl, hrb, t, hx1, hx2, hcb⟩
      simp only at hk hov hrd hrc hrl hrb hx1 hx2 hcb ⊢
      rcases Nat.eq_zero_or_pos k with h0 | hpos
      · subst h0
        have hxn : (cs.length : Int) = N := by omega
        have hf : RR = (cs, 0, t) := by rw [hcb]; simp [rdCl, combC]
        rw [hf, if_neg (fun h => h rfl)] at hJ
        simp only at hJ
        have htw := fun w1 h1 => dtw_ok (ovp ov) (ovc ov cs.length) cs w1 h1 (by omega)
        rw [← slV_eq hov] at htw
        have hfin : t.fin = if 0 < rest.length then 3 else 0 := by unfold Rs.fin; rw [if_neg (fun h => h hx2), hx1]
        rw [hfin] at hJ
        by_cases h0 : 0 < rest.length
        · rw [if_pos h0, if_pos (by decide)] at hJ
          repeat' (first | (apply R.is1; first | (apply R.isBin; (apply R.pure; exact rfl; first | (apply Ok1.lss_f; exact rfl; exact rfl; omega) | (apply Ok1.gtr_t; exact rfl; exact rfl; omega))) | (apply R.isCall; (apply R.pure; exact rfl; (apply Ok1.lenS; (iterate 3 exact rfl)))) | (apply R.pure; exact rfl; first | (apply Ok1.move; exact rfl) | (apply Ok1.assign; exact rfl) | (apply Ok1.pick_t; exact rfl; exact rfl))) | (apply R.isG; (apply R.guard_not; (iterate 3 exact rfl))) | apply R.nil | (apply T.is; first | apply T.seq | apply T.region | apply T.exit | apply T.ret | (apply T.cond_t; exact rfl) | (apply T.cond_f; exact rfl)))
          all_goals (apply RetOk.tt; exact rfl; exact rfl)
          all_goals exact ⟨[], by (focus ((repeat' (exact Keep.nil _)); done)), none, by rw [hJ]; exact OvOk.start 4, by rw [hJ]; rfl, by rw [hJ]; rfl⟩
        · rw [if_neg h0, if_neg (fun h => h rfl)] at hJ
          by_cases hnd : cs.Nodup
          · rw [decide_eq_false (p := ¬ cs.Nodup) (fun h => h hnd)] at htw
            rcases Nat.lt_or_ge 16 cs.length with h16 | h16
            · rw [if_pos (.inr h16)] at hJ
              repeat' (first | (apply R.is1; first | (apply R.isBin; (apply R.pure; exact rfl; first | (apply Ok1.lss_f; exact rfl; exact rfl; omega) | (apply Ok1.gtr_t; exact rfl; exact rfl; omega) | (apply Ok1.gtr_f; exact rfl; exact rfl; omega))) | (apply R.isCall; first | (apply R.callV (vs := [slV ov cs.length]); (iterate 3 exact rfl); intro w1 hw1; exact htw w1 (RdSl.own' hw1 (Ext.mem (by (focus ((repeat' (exact Ext.all _)); done)))) hov Cl.v_len4)) | (apply R.pure; exact rfl; (apply Ok1.lenS; (iterate 3 exact rfl)))) | (apply R.pure; exact rfl; first | (apply Ok1.move; exact rfl) | (apply Ok1.assign; exact rfl) | (apply Ok1.pick_f; exact rfl; exact rfl))) | (apply R.isG; (apply R.guard_run; exact rfl; exact rfl)) | apply R.nil | (apply T.is; first | apply T.seq | apply T.region | apply T.exit | apply T.ret | (apply T.cond_t; exact rfl) | (apply T.cond_f; exact rfl)))
              all_goals (apply RetOk.tt; exact rfl; exact rfl)
              all_goals exact ⟨[], by (focus ((repeat' (exact Keep.nil _)); done)), none, by rw [hJ]; exact OvOk.start 4, by rw [hJ]; rfl, by rw [hJ]; rfl⟩
            · rw [if_neg (fun h => h.elim (fun h => h hnd) (fun h => by omega))] at hJ
              repeat' (first | (apply R.is1; first | (apply R.isBin; (apply R.pure; exact rfl; first | (apply Ok1.lss_f; exact rfl; exact rfl; omega) | (apply Ok1.gtr_f; exact rfl; exact rfl; omega))) | (apply R.isCall; first | (apply R.callV (vs := [slV ov cs.length]); (iterate 3 exact rfl); intro w1 hw1; exact htw w1 (RdSl.own' hw1 (Ext.mem (by (focus ((repeat' (exact Ext.all _)); done)))) hov Cl.v_len4)) | (apply R.pure; exact rfl; (apply Ok1.lenS; (iterate 3 exact rfl)))) | (apply R.pure; exact rfl; first | (apply Ok1.move; exact rfl) | (apply Ok1.assign; exact rfl) | (apply Ok1.pick_f; exact rfl; exact rfl))) | (apply R.isG; (apply R.guard_run; exact rfl; exact rfl)) | apply R.nil | (apply T.is; first | apply T.seq | apply T.region | apply T.skip | apply T.exit | apply T.ret | (apply T.cond_f; exact rfl)))
              all_goals (apply RetOk.tt; exact rfl; exact rfl)
              all_goals exact ⟨blkL 127 ov (fl Cl.v cs), by (focus (repeat' first | exact Ext.all _ | apply Keep.last); done), ov, by rw [hJ]; exact hov, by rw [hJ], by rw [hJ]⟩
          · rw [decide_eq_true (p := ¬ cs.Nodup) hnd] at htw
            rw [if_pos (.inl hnd)] at hJ
            repeat' (first | (apply R.is1; first | (apply R.isBin; (apply R.pure; exact rfl; first | (apply Ok1.lss_f; exact rfl; exact rfl; omega) | (apply Ok1.gtr_f; exact rfl; exact rfl; omega))) | (apply R.isCall; first | (apply R.callV (vs := [slV ov cs.length]); (iterate 3 exact rfl); intro w1 hw1; exact htw w1 (RdSl.own' hw1 (Ext.mem (by (focus ((repeat' (exact Ext.all _)); done)))) hov Cl.v_len4)) | (apply R.pure; exact rfl; (apply Ok1.lenS; (iterate 3 exact rfl)))) | (apply R.pure; exact rfl; first | (apply Ok1.move; exact rfl) | (apply Ok1.assign; exact rfl) | (apply Ok1.pick_t; exact rfl; exact rfl) | (apply Ok1.pick_f; exact rfl; exact rfl))) | (apply R.isG; first | (apply R.guard_run; exact rfl; exact rfl) | (apply R.guard_not; (iterate 3 exact rfl))) | apply R.nil | (apply T.is; first | apply T.seq | apply T.region | apply T.exit | apply T.ret | (apply T.cond_t; exact rfl) | (apply T.cond_f; exact rfl)))
            all_goals (apply RetOk.tt; exact rfl; exact rfl)
            all_goals exact ⟨[], by (focus ((repeat' (exact Keep.nil _)); done)), none, by rw [hJ]; exact OvOk.start 4, by rw [hJ]; rfl, by rw [hJ]; rfl⟩
      · obtain ⟨k', rfl⟩ : ∃ k', k = k' + 1 := ⟨k - 1, by omega⟩
        have hpa := fun w1 (hc : Chg [] w w1) => vparse5_any q rest.length qc rest rfl hrc (by omega) hrb w1 (hrd.chg' hc (fun _ => Off.nil _))
        obtain ⟨hr1, hr2⟩ := rdC_any hrb hx1 hx2
        by_cases he : (vp5 rest).2 = 0
        · have hcb2 := hcb.trans (combC_ok cs k' t (by rw [hr1]; exact he))
          rw [hr1] at hcb2
          obtain ⟨hy1, hy2⟩ := hr2 he
          have h9 : 9 ≤ rest.length := by
            rcases Nat.lt_or_ge rest.length 9 with h9 | h9
            · have : vp5 rest = (cl0, 4) := by unfold vp5; rw [if_pos h9]
              rw [this] at he
              exact absurd he (by decide)
            · exact h9
          have hs9 := hrd.suf u8V_len (cap := qc) (i := 9) h9 hrc
          rw [he] at hpa
          generalize (vp5 rest).1 = x9 at *
          clear hr1 hr2 he
          repeat' (first | (apply R.is1; first | (apply R.isBin; (apply R.pure; exact rfl; first | (apply Ok1.add64; exact rfl; exact rfl; omega; omega) | (apply Ok1.lss_t; exact rfl; exact rfl; omega) | (apply Ok1.neq_f; exact rfl; exact rfl; omega))) | (apply R.isCall; first | (apply R.callE (vs := [.slice q rest.length qc]); (iterate 3 exact rfl); exact Ext.none _; intro w1 hw1; exact hpa w1 hw1.chg; rintro v Lo ⟨rfl, rfl⟩; simp only [kvC]) | (apply R.append1; (iterate 12 exact rfl); (focus (repeat' first | exact OwnAt.base hov | apply OwnAt.tail); done); exact At.head; exact rfl; exact rfl; omega; omega; intro b2 j2 k2 hj2)) | (apply R.pure; exact rfl; first | (apply Ok1.sufR (i := 9) (sz := 1); (iterate 6 exact rfl); omega; omega) | (apply Ok1.move; exact rfl) | (apply Ok1.load; exact rfl; (apply Ld.ownk; exact rfl; exact rfl; exact At.head; exact rfl)) | (apply Ok1.assign; exact rfl) | (apply Ok1.extract; exact rfl; exact rfl)) | (apply R.alloc; (iterate 3 exact rfl); intro) | (apply R.buildSlice; (iterate 12 exact rfl); intro)) | (apply R.is0; (apply R.store; (iterate 6 exact rfl); exact Upd.head; exact rfl)) | apply R.nil | (apply T.is; first | apply T.seq | apply T.region | apply T.block | apply T.skip | (apply T.cond_t; exact rfl) | (apply T.cond_f; exact rfl)))
          refine ⟨(k', cs ++ [x9], some (b2, j2, k2), sufP q qc 9 1, qc - 9, rest.drop 9), ?_⟩
          simp only [List.length_append, List.length_singleton, fl_snoc, List.length_drop]
          exact ⟨⟨by omega, OvOk.some (b := b2) hov (m := 1) rfl hj2, hs9, by omega, by omega, fun y hy => hrb y (List.mem_of_mem_drop hy), t.c4, hy1, hy2, hcb2⟩, by omega, ⟨rfl, rfl, rfl, rfl, trivial⟩, by simp only [blkL]; (focus (repeat' first | exact Keep.nil _ | exact Ext.one _ _ | apply Keep.cons); done)⟩
        · have hcb2 := hcb.trans (combC_bad cs k' t (by rw [hr1]; exact he))
          rw [hr1] at hcb2
          rw [hcb2, if_pos he] at hJ
          simp only at hJ
          generalize (vp5 rest).1 = x9 at *
          generalize (vp5 rest).2 = e9 at *
          repeat' (first | (apply R.is1; first | (apply R.isBin; (apply R.pure; exact rfl; first | (apply Ok1.lss_t; exact rfl; exact rfl; omega) | (apply Ok1.neq_t; exact rfl; exact rfl; omega))) | (apply R.isCall; (apply R.callE (vs := [.slice q rest.length qc]); (iterate 3 exact rfl); exact Ext.none _; intro w1 hw1; exact hpa w1 hw1.chg; rintro v Lo ⟨rfl, rfl⟩; simp only [kvC])) | (apply R.pure; exact rfl; first | (apply Ok1.move; exact rfl) | (apply Ok1.assign; exact rfl) | (apply Ok1.extract; exact rfl; exact rfl)) | (apply R.alloc; (iterate 3 exact rfl); intro)) | (apply R.is0; (apply R.store; (iterate 6 exact rfl); exact Upd.head; exact rfl)) | apply R.nil | (apply T.is; first | apply T.seq | apply T.region | apply T.block | apply T.skip | apply T.ret | (apply T.cond_t; exact rfl)))
          all_goals (apply RetOk.tt; exact rfl; exact rfl)
          all_goals exact ⟨[], by (focus ((repeat' (exact Keep.nil _)); done)), none, by rw [hJ]; exact OvOk.start 4, by rw [hJ]; rfl, by rw [hJ]; rfl⟩
def DN (bd bM : Nat) (S st sd la : Int) (q : Option Addr) (m cap : Nat) : Nat × Obj := (bd, .cells ⟨jnC bM S st sd la q m cap⟩ 139 (0, 0))
/-- What the document's member writes up to a seed. -/
theorem vwrite_up (bm : Nat) (c : Cl) (hr : c.right) (s : List Int) (hs : s.length = 32) (hsb : Byt s) (boot cnt : Int) (hnr : NR boot (cnt + 1)) (h0 : 0 ≤ cnt) (RR : List Value) (k sd : Int) (hk : wayI k = 1) (hd0 : 0 ≤ sd) (hd1 : sd ≤ 3) (p : Option Addr) (n cap : Nat) (body : List Int) (hn : n = body.length) (hn5 : n ≤ 512) (hbb : Byt body) (w : World) (hbd : RdSl w p u8V body) (hq : body ≠ [] → Off p [bm]) :
    CallM Tryz.prog 137 [.agg ⟨tabV⟩, .pointer (some ⟨bm, 0, none⟩), .int .i64 k, .int .i64 sd, .slice p n cap] [MB bm c s boot cnt RR] w fun v L => ∃ Lo, Wrote c s k sd boot (cnt + 1) body v (.int .i64 0) Lo ∧ L = MB bm c s boot (cnt + 1) RR :: Lo := by
  have hw := wrE_up (n := n) hk hd0 hd1 hn5
  refine (vwrite16_ok bm c hr s hs hsb boot cnt hnr h0 RR k sd p n cap body hn hbb w hbd hq).wk ?_
  rintro v L (⟨g, _⟩ | ⟨_, ov, g1, g2, g3⟩)
  · exact absurd hw g
  · exact ⟨_, ⟨ov, g1, g2, rfl⟩, g3⟩
def DStart (bd bM : Nat) (c : Cl) (s : List Int) (S st sd la : Int) (q : Option Addr) (m cap : Nat) (boot cnt : Int) (RR : List Value) (seed tick : Int) (v : Value) (L : Lst) : Prop := (jstE S st seed ≠ 0 ∧ v = .tuple #[.slice none 0 0, .int .i64 (jstE S st seed)] ∧ L = [DN bd bM S st sd la q m cap, MB bM c s boot cnt RR]) ∨ (jstE S st seed = 0 ∧ ∃ Lo, Wrote c s 1 seed boot (cnt + 1) [] v (.int .i64 0) Lo ∧ L = DN bd bM S 1 seed tick q m cap :: MB bM c s boot (cnt + 1) RR :: Lo)
theorem dstart_ok (bd bM : Nat) (c : Cl) (hr : c.right) (s : List Int) (hs : s.length = 32) (hsb : Byt s) (S st sd la : Int) (hS : S ≤ 4) (q : Option Addr) (m cap : Nat) (boot cnt : Int) (hnr : NR boot (cnt + 1)) (h0 : 0 ≤ cnt) (RR : List Value) (seed tick : Int) (w : World) :
    CallM Tryz.prog 53 [.pointer (some ⟨bd, 0, none⟩), .agg ⟨tabV⟩, .int .i64 seed, .int .i64 tick] [DN bd bM S st sd la q m cap, MB bM c s boot cnt RR] w (DStart bd bM c s S st sd la q m cap boot cnt RR seed tick) := by
  have htl := tab_len
  by_cases hE : seed < 0 ∨ S ≤ seed
  · have hj : jstE S st seed = 10 := by unfold jstE; rw [if_pos hE]
    unfold DStart
    rw [hj]
    unfold DN jnC
    generalize MB bM c s boot cnt RR = MO at *
    generalize tabV = tbl at *
    refine enterK (tb := tb) Tryz.func53 rfl Tryz.ntmps53 rfl ?_
    repeat' (first | (apply R.is1; first | (apply R.isBin; first | (apply R.pure; exact rfl; (apply Ok1.geq_t; exact rfl; exact rfl; omega)) | (apply R.lss rfl rfl rfl <;> intro)) | (apply R.pure; exact rfl; first | (apply Ok1.move; exact rfl) | (apply Ok1.fieldAddr; (iterate 5 exact rfl)) | (apply Ok1.load; exact rfl; (apply Ld.own1; exact rfl; exact rfl; (focus (repeat' first | exact At.head | apply At.tail); done); exact rfl)) | (apply Ok1.assign; exact rfl) | (apply Ok1.pick_t; exact rfl; exact rfl) | (apply Ok1.pick_f; exact rfl; exact rfl) | (apply Ok1.nilCheck; exact rfl)) | (apply R.box; (iterate 3 exact rfl); intro)) | (apply R.isG; first | (apply R.guard_run; exact rfl; exact rfl) | (apply R.guard_not; (iterate 3 exact rfl))) | apply R.nil | (apply T.is; first | apply T.seq | apply T.region | apply T.ret | (apply T.cond_t; exact rfl)))
    all_goals (apply RetOk.tt; exact rfl; exact rfl)
    all_goals exact ⟨_, by (focus (repeat' first | exact Keep.nil _ | exact Ext.one _ _ | apply Keep.cons | apply Ext.cons); done), .inl ⟨by decide, rfl, rfl⟩⟩
  by_cases h3 : st = 3
  · have hj : jstE S st seed = 11 := by unfold jstE; rw [if_neg hE, if_pos h3]
    unfold DStart
    rw [hj]
    unfold DN jnC
    generalize MB bM c s boot cnt RR = MO at *
    generalize tabV = tbl at *
    refine enterK (tb := tb) Tryz.func53 rfl Tryz.ntmps53 rfl ?_
    repeat' (first | (apply R.is1; first | (apply R.isBin; (apply R.pure; exact rfl; first | (apply Ok1.lss_f; exact rfl; exact rfl; omega) | (apply Ok1.geq_f; exact rfl; exact rfl; omega) | (apply Ok1.eql_t; exact rfl; exact rfl; omega))) | (apply R.pure; exact rfl; first | (apply Ok1.move; exact rfl) | (apply Ok1.fieldAddr; (iterate 5 exact rfl)) | (apply Ok1.load; exact rfl; (apply Ld.own1; exact rfl; exact rfl; (focus (repeat' first | exact At.head | apply At.tail); done); exact rfl)) | (apply Ok1.assign; exact rfl) | (apply Ok1.pick_f; exact rfl; exact rfl) | (apply Ok1.nilCheck; exact rfl)) | (apply R.box; (iterate 3 exact rfl); intro)) | (apply R.isG; (apply R.guard_run; exact rfl; exact rfl)) | apply R.nil | (apply T.is; first | apply T.seq | apply T.region | apply T.skip | apply T.ret | (apply T.cond_t; exact rfl) | (apply T.cond_f; exact rfl)))
    all_goals (apply RetOk.tt; exact rfl; exact rfl)
    all_goals exact ⟨_, by (focus (repeat' first | exact Keep.nil _ | exact Ext.one _ _ | apply Keep.cons | apply Ext.cons); done), .inl ⟨by decide, rfl, rfl⟩⟩
  have hj : jstE S st seed = 0 := by unfold jstE; rw [if_neg hE, if_neg h3]
  have hwr := fun w1 => vwrite_up bM c hr s hs hsb boot cnt hnr h0 RR 1 seed (by decide) (by omega) (by omega) none 0 0 [] rfl (by decide) byt_nil w1 (.inl rfl) (fun g => absurd rfl g)
  unfold DStart
  rw [hj]
  unfold Wrote at hwr ⊢
  generalize wrG c s 1 seed boot (cnt + 1) [] = G at *
  unfold DN jnC
  generalize MB bM c s boot cnt RR = MO at *
  generalize MB bM c s boot (cnt + 1) RR = MO2 at *
  generalize tabV = tbl at *
  refine enterK (tb := tb) Tryz.func53 rfl Tryz.ntmps53 rfl ?_
  repeat' (first | (apply R.is1; first | (apply R.isBin; (apply R.pure; exact rfl; first | (apply Ok1.lss_f; exact rfl; exact rfl; omega) | (apply Ok1.geq_f; exact rfl; exact rfl; omega) | (apply Ok1.eql_t; exact rfl; exact rfl; omega) | (apply Ok1.eql_f; exact rfl; exact rfl; omega))) | (apply R.pure; exact rfl; first | (apply Ok1.load; exact rfl; (apply Ld.own1; exact rfl; exact rfl; (focus (repeat' first | exact At.head | apply At.tail); done); exact rfl)) | (apply Ok1.move; exact rfl) | (apply Ok1.fieldAddr; (iterate 5 exact rfl)) | (apply Ok1.assign; exact rfl) | (apply Ok1.pick_f; exact rfl; exact rfl) | (apply Ok1.nilCheck; exact rfl)) | (apply R.box; (iterate 3 exact rfl); intro)) | (apply R.is0; (apply R.store; (iterate 6 exact rfl); (focus (repeat' first | exact Upd.head | apply Upd.tail | apply Upd.right); done); exact rfl)) | (apply R.isG; (apply R.guard_run; exact rfl; exact rfl)) | apply R.nil | (apply T.is; first | (apply T.drawC (id := 5) [0,1] (by decide); ((apply A.tk 0; exact rfl; kernel_rfl; (apply Ok1.load; exact rfl; (apply Ld.ownk; exact rfl; exact rfl; exact At.head; exact subE_all htl))) <;> (apply A.tk 1; exact rfl; kernel_rfl; (apply Ok1.move; exact rfl)) <;> (apply A.tk 2; exact rfl; kernel_rfl; (apply Ok1.nilCheck; exact rfl)) <;> (apply A.tk 3; exact rfl; kernel_rfl; (apply Ok1.fieldAddr; (iterate 5 exact rfl))) <;> (apply A.tk 4; exact rfl; kernel_rfl; (apply Ok1.load; exact rfl; (apply Ld.own1; exact rfl; exact rfl; (focus (repeat' first | exact At.head | apply At.tail); done); exact rfl))) <;> (apply A.tk 5; exact rfl; kernel_rfl; (apply Ok1.move; exact rfl)) <;> (apply A.one 6; kernel_rfl; exact rfl; (((apply R.callE (Li := [MO]) (vs := [.agg ⟨tbl⟩, .pointer (some ⟨bM, 0, none⟩), .int .i64 1, .int .i64 seed, .slice none 0 0]); (iterate 3 exact rfl); (focus (repeat' first | exact Ext.one _ _ | apply Ext.cons); done); intro w1 hw1; exact hwr w1; rintro v Lo ⟨Lw, ⟨ovw, hovw, rfl, rfl⟩, rfl⟩))); apply R.nil; refine ⟨?_, ?_⟩; (focus (repeat' first | exact trivial | exact At.head | apply At.tail | apply At.right | refine ⟨?_, ?_⟩))) <;> (apply A.tk 7; exact rfl; kernel_rfl; (apply Ok1.move; exact rfl)) <;> (apply A.tk 8; exact rfl; kernel_rfl; (apply Ok1.extract; exact rfl; exact rfl)) <;> (apply A.tk 9; exact rfl; kernel_rfl; (apply Ok1.extract; exact rfl; exact rfl)) <;> (apply A.tk 10; exact rfl; kernel_rfl; (apply Ok1.assign; exact rfl)) <;> (apply A.tk 11; exact rfl; kernel_rfl; (apply Ok1.assign; exact rfl)) <;> (apply A.done; kernel_rfl))) | apply T.seq | apply T.region | apply T.skip | apply T.ret | (apply T.cond_t; exact rfl) | (apply T.cond_f; exact rfl)))
  all_goals (apply RetOk.tt; exact rfl; exact rfl)
  all_goals exact ⟨_, by (focus (repeat' first | exact Ext.one _ _ | exact Ext.here _ _ | apply Keep.cons | apply Keep.last | apply Ext.cons | apply Ext.app); done), .inr ⟨rfl, _, ⟨ovw, hovw, rfl, rfl⟩, rfl⟩⟩
def DDue (bd bM : Nat) (c : Cl) (s : List Int) (S st sd la : Int) (q : Option Addr) (m cap : Nat) (boot cnt : Int) (RR : List Value) (tick : Int) (v : Value) (L : Lst) : Prop := ((st = 0 ∨ st = 3 ∨ tick < la + 16) ∧ v = .tuple #[.slice none 0 0, .bool false] ∧ L = [DN bd bM S st sd la q m cap, MB bM c s boot cnt RR]) ∨ (¬ (st = 0 ∨ st = 3 ∨ tick < la + 16) ∧ ∃ Lo, Wrote c s 1 ((sd + 1) % S) boot (cnt + 1) [] v (.bool true) Lo ∧ L = DN bd bM S 1 ((sd + 1) % S) tick q m cap :: MB bM c s boot (cnt + 1) RR :: Lo)
theorem ddue_ok (bd bM : Nat) (c : Cl) (hr : c.right) (s : List Int) (hs : s.length = 32) (hsb : Byt s) (S st sd la : Int) (hst : 0 ≤ st ∧ st ≤ 3) (hS1 : 1 ≤ S) (hS : S ≤ 4) (hd1 : 0 ≤ sd) (hd2 : sd ≤ 1000) (hl1 : 0 ≤ la) (hl2 : la ≤ 2000000000) (q : Option Addr) (m cap : Nat) (boot cnt : Int) (hnr : NR boot (cnt + 1)) (h0 : 0 ≤ cnt) (RR : List Value) (tick : Int) (ht1 : 0 ≤ tick) (ht2 : tick ≤ 2000000000) (w : World) :
    CallM Tryz.prog 59 [.pointer (some ⟨bd, 0, none⟩), .agg ⟨tabV⟩, .int .i64 tick] [DN bd bM S st sd la q m cap, MB bM c s boot cnt RR] w (DDue bd bM c s S st sd la q m cap boot cnt RR tick) := by
  have htl := tab_len
  by_cases hE : st = 0 ∨ st = 3 ∨ tick < la + 16
  · unfold DDue
    unfold DN jnC
    generalize MB bM c s boot cnt RR = MO at *
    generalize tabV = tbl at *
    refine enterK (tb := tb) Tryz.func59 rfl Tryz.ntmps59 rfl ?_
    repeat' (first | (apply R.is1; first | (apply R.isBin; first | (apply R.pure; exact rfl; first | (apply Ok1.sub64; exact rfl; exact rfl; omega; omega) | (apply Ok1.lss_t; exact rfl; exact rfl; omega)) | (apply R.neq rfl rfl rfl <;> intro)) | (apply R.pure; exact rfl; first | (apply Ok1.move; exact rfl) | (apply Ok1.fieldAddr; (iterate 5 exact rfl)) | (apply Ok1.load; exact rfl; (apply Ld.own1; exact rfl; exact rfl; (focus (repeat' first | exact At.head | apply At.tail); done); exact rfl)) | (apply Ok1.assign; exact rfl) | (apply Ok1.pick_t; exact rfl; exact rfl) | (apply Ok1.pick_f; exact rfl; exact rfl) | (apply Ok1.nilCheck; exact rfl)) | (apply R.box; (iterate 3 exact rfl); intro)) | (apply R.isG; first | (apply R.guard_run; exact rfl; exact rfl) | (apply R.guard_not; (iterate 3 exact rfl))) | apply R.nil | (apply T.is; first | apply T.seq | apply T.region | apply T.ret | (apply T.cond_t; exact rfl)))
    all_goals (apply RetOk.tt; exact rfl; exact rfl)
    all_goals exact ⟨_, by (focus (repeat' first | exact Keep.nil _ | exact Ext.one _ _ | apply Keep.cons | apply Ext.cons); done), .inl ⟨hE, rfl, rfl⟩⟩
  have hm : 0 ≤ (sd + 1) % S ∧ (sd + 1) % S < S := ⟨Int.emod_nonneg _ (by omega), Int.emod_lt_of_pos _ (by omega)⟩
  have hj : jstE S st ((sd + 1) % S) = 0 := by unfold jstE; rw [if_neg (by omega), if_neg (by omega)]
  have hst2 := fun w1 => (dstart_ok bd bM c hr s hs hsb S st sd la hS q m cap boot cnt hnr h0 RR ((sd + 1) % S) tick w1).wk (R' := fun v L => ∃ Lo, Wrote c s 1 ((sd + 1) % S) boot (cnt + 1) [] v (.int .i64 0) Lo ∧ L = DN bd bM S 1 ((sd + 1) % S) tick q m cap :: MB bM c s boot (cnt + 1) RR :: Lo) (by
    rintro v L (⟨g, _⟩ | ⟨_, g⟩)
    · exact absurd hj g
    · exact g)
  unfold DDue
  unfold Wrote at hst2 ⊢
  generalize hNS : (sd + 1) % S = NS at *
  generalize wrG c s 1 NS boot (cnt + 1) [] = G at *
  unfold DN jnC at *
  generalize MB bM c s boot cnt RR = MO at *
  generalize MB bM c s boot (cnt + 1) RR = MO2 at *
  generalize tabV = tbl at *
  refine enterK (tb := tb) Tryz.func59 rfl Tryz.ntmps59 rfl ?_
  repeat' (first | (apply R.is1; first | (apply R.isBin; first | (apply R.pure; exact rfl; first | (apply Ok1.sub64; exact rfl; exact rfl; omega; omega) | (apply Ok1.lss_f; exact rfl; exact rfl; omega) | (apply Ok1.neq_f; exact rfl; exact rfl; omega)) | (apply R.neq rfl rfl rfl <;> intro)) | (apply R.pure; exact rfl; first | (apply Ok1.move; exact rfl) | (apply Ok1.fieldAddr; (iterate 5 exact rfl)) | (apply Ok1.load; exact rfl; (apply Ld.own1; exact rfl; exact rfl; (focus (repeat' first | exact At.head | apply At.tail); done); exact rfl)) | (apply Ok1.assign; exact rfl) | (apply Ok1.pick_t; exact rfl; exact rfl) | (apply Ok1.pick_f; exact rfl; exact rfl) | (apply Ok1.nilCheck; exact rfl)) | (apply R.box; (iterate 3 exact rfl); intro)) | (apply R.isG; first | (apply R.guard_run; exact rfl; exact rfl) | (apply R.guard_not; (iterate 3 exact rfl))) | apply R.nil | (apply T.is; first | (apply T.stop1 3) | apply T.seq | apply T.region | apply T.skip | (apply T.cond_f; exact rfl)))
  all_goals refine ⟨?_⟩
  all_goals repeat' (first | (apply R.is1; first | (apply R.isBin; (apply R.pure; exact rfl; (apply Ok1.eql_t; exact rfl; exact rfl; omega))) | (apply R.pure; exact rfl; first | (apply Ok1.move; exact rfl) | (apply Ok1.assign; exact rfl))) | apply R.nil | (apply T.is; first | (apply T.drawC (id := 3) [0] (by decide); ((apply A.tk 0; exact rfl; kernel_rfl; (apply Ok1.move; exact rfl)) <;> (apply A.tk 1; exact rfl; kernel_rfl; (apply Ok1.load; exact rfl; (apply Ld.ownk; exact rfl; exact rfl; exact At.head; exact subE_all htl))) <;> (apply A.tk 2; exact rfl; kernel_rfl; (apply Ok1.move; exact rfl)) <;> (apply A.tk 3; exact rfl; kernel_rfl; (apply Ok1.nilCheck; exact rfl)) <;> (apply A.tk 4; exact rfl; kernel_rfl; (apply Ok1.fieldAddr; (iterate 5 exact rfl))) <;> (apply A.tk 7; exact rfl; kernel_rfl; (apply Ok1.move; exact rfl)) <;> (apply A.tk 8; exact rfl; kernel_rfl; (apply Ok1.nilCheck; exact rfl)) <;> (apply A.tk 9; exact rfl; kernel_rfl; (apply Ok1.fieldAddr; (iterate 5 exact rfl))) <;> (apply A.tk 12; exact rfl; kernel_rfl; (apply Ok1.move; exact rfl)) <;> (apply A.two 5 10; kernel_rfl; exact rfl; exact rfl; rotate_left 1; (focus (((((apply R.pure; exact rfl; (apply Ok1.load; exact rfl; (apply Ld.own1; exact rfl; exact rfl; (focus (repeat' first | exact At.head | apply At.tail); done); exact rfl))))); apply R.nil; refine ⟨?_, ?_⟩; (focus ((repeat' (first | exact trivial | (refine ⟨?_, ?_⟩; exact At.head)))))) <;> (apply A.one 5; kernel_rfl; exact rfl; (((apply R.pure; exact rfl; (apply Ok1.load; exact rfl; (apply Ld.own1; exact rfl; exact rfl; (focus (repeat' first | exact At.head | apply At.tail); done); exact rfl))))); apply R.nil; refine ⟨?_, ?_⟩; (focus ((repeat' (first | exact trivial | (refine ⟨?_, ?_⟩; exact At.head)))))) <;> (apply A.tk 6; exact rfl; kernel_rfl; (apply Ok1.add64; exact rfl; exact rfl; omega; omega)) <;> (apply A.tk 11; exact rfl; kernel_rfl; (apply Ok1.remN; exact rfl; exact rfl; omega; omega)) <;> (apply A.one 13; kernel_rfl; exact rfl; (((apply R.callE (Li := [(bd, .cells ⟨[.pointer (some ⟨bM, 0, none⟩), .int .i64 S, .int .i64 st, .int .i64 sd, .int .i64 la, .slice q m cap]⟩ 139 (0, 0)), MO]) (vs := [.pointer (some ⟨bd, 0, none⟩), .agg ⟨tbl⟩, .int .i64 NS, .int .i64 tick]); exact rfl; (rw [← hNS]; exact rfl); exact rfl; exact Ext.two _ (by (focus (repeat' first | exact Ext.one _ _ | apply Ext.cons); done)) (by (focus (repeat' first | exact Ext.one _ _ | apply Ext.cons); done)); intro w1 hw1; exact hst2 w1; rintro v Lo ⟨Lw, ⟨ovw, hovw, rfl, rfl⟩, rfl⟩))); apply R.nil; refine ⟨?_, ?_⟩; (focus (repeat' first | exact trivial | exact At.head | apply At.tail | apply At.right | refine ⟨?_, ?_⟩))) <;> (apply A.tk 14; exact rfl; kernel_rfl; (apply Ok1.move; exact rfl)) <;> (apply A.tk 15; exact rfl; kernel_rfl; (apply Ok1.extract; exact rfl; exact rfl)) <;> (apply A.tk 16; exact rfl; kernel_rfl; (apply Ok1.extract; exact rfl; exact rfl)) <;> (apply A.tk 17; exact rfl; kernel_rfl; (apply Ok1.assign; exact rfl)) <;> (apply A.tk 18; exact rfl; kernel_rfl; (apply Ok1.assign; exact rfl)) <;> (apply A.done; kernel_rfl))); rotate_right 1; (focus (((((apply R.pure; exact rfl; (apply Ok1.load; exact rfl; (apply Ld.own1; exact rfl; exact rfl; (focus (repeat' first | exact At.head | apply At.tail); done); exact rfl))))); apply R.nil; refine ⟨?_, ?_⟩; (focus ((repeat' (first | exact trivial | (refine ⟨?_, ?_⟩; exact At.head)))))) <;> (apply A.tk 6; exact rfl; kernel_rfl; (apply Ok1.add64; exact rfl; exact rfl; omega; omega)) <;> (apply A.one 10; kernel_rfl; exact rfl; (((apply R.pure; exact rfl; (apply Ok1.load; exact rfl; (apply Ld.own1; exact rfl; exact rfl; (focus (repeat' first | exact At.head | apply At.tail); done); exact rfl))))); apply R.nil; refine ⟨?_, ?_⟩; (focus ((repeat' (first | exact trivial | (refine ⟨?_, ?_⟩; exact At.head)))))) <;> (apply A.tk 11; exact rfl; kernel_rfl; (apply Ok1.remN; exact rfl; exact rfl; omega; omega)) <;> (apply A.one 13; kernel_rfl; exact rfl; (((apply R.callE (Li := [(bd, .cells ⟨[.pointer (some ⟨bM, 0, none⟩), .int .i64 S, .int .i64 st, .int .i64 sd, .int .i64 la, .slice q m cap]⟩ 139 (0, 0)), MO]) (vs := [.pointer (some ⟨bd, 0, none⟩), .agg ⟨tbl⟩, .int .i64 NS, .int .i64 tick]); exact rfl; (rw [← hNS]; exact rfl); exact rfl; exact Ext.two _ (by (focus (repeat' first | exact Ext.one _ _ | apply Ext.cons); done)) (by (focus (repeat' first | exact Ext.one _ _ | apply Ext.cons); done)); intro w1 hw1; exact hst2 w1; rintro v Lo ⟨Lw, ⟨ovw, hovw, rfl, rfl⟩, rfl⟩))); apply R.nil; refine ⟨?_, ?_⟩; (focus (repeat' first | exact trivial | exact At.head | apply At.tail | apply At.right | refine ⟨?_, ?_⟩))) <;> (apply A.tk 14; exact rfl; kernel_rfl; (apply Ok1.move; exact rfl)) <;> (apply A.tk 15; exact rfl; kernel_rfl; (apply Ok1.extract; exact rfl; exact rfl)) <;> (apply A.tk 16; exact rfl; kernel_rfl; (apply Ok1.extract; exact rfl; exact rfl)) <;> (apply A.tk 17; exact rfl; kernel_rfl; (apply Ok1.assign; exact rfl)) <;> (apply A.tk 18; exact rfl; kernel_rfl; (apply Ok1.assign; exact rfl)) <;> (apply A.done; kernel_rfl)))))) | apply T.seq | apply T.region | apply T.ret))
  all_goals (apply RetOk.tt; exact rfl; exact rfl)
  all_goals exact ⟨_, by (focus (repeat' first | exact Ext.one _ _ | exact Ext.here _ _ | apply Keep.cons | apply Keep.last); done), .inr ⟨hE, _, ⟨ovw, hovw, rfl, rfl⟩, rfl⟩⟩
def DLeave (bd bM : Nat) (c : Cl) (s : List Int) (S st sd la : Int) (q : Option Addr) (m cap : Nat) (boot cnt : Int) (RR : List Value) (v : Value) (L : Lst) : Prop := (st ≠ 3 ∧ v = .tuple #[.slice none 0 0, .int .i64 11] ∧ L = [DN bd bM S st sd la q m cap, MB bM c s boot cnt RR]) ∨ (st = 3 ∧ ∃ Lo, Wrote c s 14 sd boot (cnt + 1) [] v (.int .i64 0) Lo ∧ L = DN bd bM S 0 sd la q m cap :: MB bM c s boot (cnt + 1) RR :: Lo)
theorem dleave_ok (bd bM : Nat) (c : Cl) (hr : c.right) (s : List Int) (hs : s.length = 32) (hsb : Byt s) (S st sd la : Int) (hd0 : 0 ≤ sd) (hd1 : sd ≤ 3) (q : Option Addr) (m cap : Nat) (boot cnt : Int) (hnr : NR boot (cnt + 1)) (h0 : 0 ≤ cnt) (RR : List Value) (w : World) :
    CallM Tryz.prog 61 [.pointer (some ⟨bd, 0, none⟩), .agg ⟨tabV⟩] [DN bd bM S st sd la q m cap, MB bM c s boot cnt RR] w (DLeave bd bM c s S st sd la q m cap boot cnt RR) := by
  have htl := tab_len
  by_cases h3 : st = 3
  case neg =>
    unfold DLeave DN jnC
    generalize MB bM c s boot cnt RR = MO at *
    generalize tabV = tbl at *
    refine enterK (tb := tb) Tryz.func61 rfl Tryz.ntmps61 rfl ?_
    repeat' (first | (apply R.is1; first | (apply R.isBin; (apply R.pure; exact rfl; (apply Ok1.neq_t; exact rfl; exact rfl; omega))) | (apply R.pure; exact rfl; first | (apply Ok1.move; exact rfl) | (apply Ok1.fieldAddr; (iterate 5 exact rfl)) | (apply Ok1.load; exact rfl; (apply Ld.own1; exact rfl; exact rfl; (focus (repeat' first | exact At.head | apply At.tail); done); exact rfl)) | (apply Ok1.assign; exact rfl) | (apply Ok1.nilCheck; exact rfl)) | (apply R.box; (iterate 3 exact rfl); intro)) | apply R.nil | (apply T.is; first | apply T.seq | apply T.region | apply T.ret | (apply T.cond_t; exact rfl)))
    all_goals (apply RetOk.tt; exact rfl; exact rfl)
    all_goals exact ⟨_, by (focus (repeat' first | exact Keep.nil _ | exact Ext.one _ _ | apply Keep.cons | apply Ext.cons); done), .inl ⟨h3, rfl, rfl⟩⟩
  subst h3
  have hwr := fun w1 => vwrite_up bM c hr s hs hsb boot cnt hnr h0 RR 14 sd (by decide) hd0 hd1 none 0 0 [] rfl (by decide) byt_nil w1 (.inl rfl) (fun g => absurd rfl g)
  unfold DLeave
  unfold Wrote at hwr ⊢
  generalize wrG c s 14 sd boot (cnt + 1) [] = G at *
  unfold DN jnC
  generalize MB bM c s boot cnt RR = MO at *
  generalize MB bM c s boot (cnt + 1) RR = MO2 at *
  generalize tabV = tbl at *
  refine enterK (tb := tb) Tryz.func61 rfl Tryz.ntmps61 rfl ?_
  repeat' (first | (apply R.is1; first | (apply R.isBin; (apply R.pure; exact rfl; first | (apply Ok1.eql_t; exact rfl; exact rfl; omega) | (apply Ok1.neq_f; exact rfl; exact rfl; omega))) | (apply R.pure; exact rfl; first | (apply Ok1.load; exact rfl; (apply Ld.own1; exact rfl; exact rfl; (focus (repeat' first | exact At.head | apply At.tail); done); exact rfl)) | (apply Ok1.move; exact rfl) | (apply Ok1.fieldAddr; (iterate 5 exact rfl)) | (apply Ok1.assign; exact rfl) | (apply Ok1.nilCheck; exact rfl)) | (apply R.box; (iterate 3 exact rfl); intro)) | (apply R.is0; (apply R.store; (iterate 6 exact rfl); (focus (repeat' first | exact Upd.head | apply Upd.tail | apply Upd.right); done); exact rfl)) | apply R.nil | (apply T.is; first | (apply T.drawC (id := 3) [0,1] (by decide); ((apply A.tk 0; exact rfl; kernel_rfl; (apply Ok1.load; exact rfl; (apply Ld.ownk; exact rfl; exact rfl; exact At.head; exact subE_all htl))) <;> (apply A.tk 1; exact rfl; kernel_rfl; (apply Ok1.move; exact rfl)) <;> (apply A.tk 2; exact rfl; kernel_rfl; (apply Ok1.nilCheck; exact rfl)) <;> (apply A.tk 3; exact rfl; kernel_rfl; (apply Ok1.fieldAddr; (iterate 5 exact rfl))) <;> (apply A.tk 4; exact rfl; kernel_rfl; (apply Ok1.load; exact rfl; (apply Ld.own1; exact rfl; exact rfl; (focus (repeat' first | exact At.head | apply At.tail); done); exact rfl))) <;> (apply A.tk 5; exact rfl; kernel_rfl; (apply Ok1.move; exact rfl)) <;> (apply A.tk 6; exact rfl; kernel_rfl; (apply Ok1.nilCheck; exact rfl)) <;> (apply A.tk 7; exact rfl; kernel_rfl; (apply Ok1.fieldAddr; (iterate 5 exact rfl))) <;> (apply A.tk 8; exact rfl; kernel_rfl; (apply Ok1.load; exact rfl; (apply Ld.own1; exact rfl; exact rfl; (focus (repeat' first | exact At.head | apply At.tail); done); exact rfl))) <;> (apply A.one 9; kernel_rfl; exact rfl; (((apply R.callE (Li := [MO]) (vs := [.agg ⟨tbl⟩, .pointer (some ⟨bM, 0, none⟩), .int .i64 14, .int .i64 sd, .slice none 0 0]); (iterate 3 exact rfl); (focus (repeat' first | exact Ext.one _ _ | apply Ext.cons); done); intro w1 hw1; exact hwr w1; rintro v Lo ⟨Lw, ⟨ovw, hovw, rfl, rfl⟩, rfl⟩))); apply R.nil; refine ⟨?_, ?_⟩; (focus (repeat' first | exact trivial | exact At.head | apply At.tail | apply At.right | refine ⟨?_, ?_⟩))) <;> (apply A.tk 10; exact rfl; kernel_rfl; (apply Ok1.move; exact rfl)) <;> (apply A.tk 11; exact rfl; kernel_rfl; (apply Ok1.extract; exact rfl; exact rfl)) <;> (apply A.tk 12; exact rfl; kernel_rfl; (apply Ok1.extract; exact rfl; exact rfl)) <;> (apply A.tk 13; exact rfl; kernel_rfl; (apply Ok1.assign; exact rfl)) <;> (apply A.tk 14; exact rfl; kernel_rfl; (apply Ok1.assign; exact rfl)) <;> (apply A.done; kernel_rfl))) | apply T.seq | apply T.region | apply T.skip | apply T.ret | (apply T.cond_t; exact rfl) | (apply T.cond_f; exact rfl)))
  all_goals (apply RetOk.tt; exact rfl; exact rfl)
  all_goals exact ⟨_, by (focus (repeat' first | exact Ext.one _ _ | exact Ext.here _ _ | apply Keep.cons | apply Keep.last | apply Ext.cons | apply Ext.app); done), .inr ⟨rfl, _, ⟨ovw, hovw, rfl, rfl⟩, rfl⟩⟩
end Go.Proofs.YtolnagbahceebaaGreat
