/- Texts of the proof: Ch9, Ch10, Ch11, Ch12, Ch13, Ch14, Ch15, Lcj, Cw1, Pd1, Rf10, Pd2, Pd3, Mk1, Jn1, Jn2. -/
import Derived.Test.YtidjnjlejhoalaaGreatL16wb5
import Derived.JoinedOf
set_option linter.unusedSimpArgs false
set_option linter.unusedVariables false
namespace Go.Proofs.YtidjnjlejhoalaaGreat
open Go.RowKit Go.Shelf
set_option maxRecDepth 100000
theorem chkey_ok (bc bn br bb bd : Nat) (sd : List Value) (e1 : TypeId) (f1 : Nat × Nat) (c : Cl) (s : List Int) (hs : s.length = 32) (hsb : Byt s) (m1 m2 : Nat) (e : TypeId) (k to : Int) (hk : wayI k = 3) (h1 : 1 ≤ to) (h2 : to ≤ 65535) (w : World) (hc : w.heap[bc]? = some (.cells ⟨chC bn br bb bd sd⟩ e1 f1)) (hb : w.heap[br]? = some (.cells ⟨ringC c s m1 m2⟩ e (0, 0))) :
    CallM Tryz.prog 152 [.pointer (some ⟨bc, 0, none⟩), .int .i64 k, .int .i64 to] [] w fun v L => ∃ bk' ov, v = .tuple #[.pointer (some ⟨bk', 0, none⟩), .int .i64 0] ∧ OvOk 1 ov 32 (u8s (senderI s to)) ∧ L = KL bk' ov (senderI s to) := by
  have hto := fun w1 (h : Chg [] w w1) => to_ok br c s hs hsb m1 m2 e to h1 h2 w1 (h.heap hb List.not_mem_nil)
  have hw := way_ok k
  rw [hk] at hw
  unfold chC at hc
  refine enterK (tb := tb) Tryz.func152 rfl Tryz.ntmps152 rfl ?_
  repeat' (first | (apply R.is1; first | (apply R.isBin; (apply R.pure; exact rfl; first | (apply Ok1.eql_t; exact rfl; exact rfl; omega) | (apply Ok1.eql_f; exact rfl; exact rfl; omega))) | (apply R.isCall; first | apply R.callP rfl rfl rfl hw | (apply R.callE (vs := [.pointer (some ⟨br, 0, none⟩), .int .i64 to]); (iterate 3 exact rfl); exact Ext.none _; intro w1 hw1; exact hto w1 hw1.chg; rintro x Lo ⟨bk, ov, rfl, hov, rfl⟩)) | (apply R.pure; exact rfl; first | (apply Ok1.load; exact rfl; (apply Ld.blk1; exact rfl; exact rfl; exact hc; exact List.not_mem_nil; exact rfl)) | (apply Ok1.move; exact rfl) | (apply Ok1.fieldAddr; (iterate 5 exact rfl)) | (apply Ok1.assign; exact rfl) | (apply Ok1.extract; exact rfl; exact rfl) | (apply Ok1.nilCheck; exact rfl))) | apply R.nil | (apply T.is; first | apply T.seq | apply T.region | apply T.block | apply T.ret | (apply T.cond_t; exact rfl) | (apply T.cond_f; exact rfl)))
  (apply RetOk.tt; exact rfl; exact rfl)
  exact ⟨_, by (focus ((repeat' (first | exact Ext.one _ _ | exact Ext.here _ _ | apply Keep.cons | apply Keep.last)); done)), bk, ov, rfl, hov, rfl⟩
theorem way3 {k : Int} (h : wayI k = 3) : ¬ (k = 1 ∨ k = 2) := by
  intro g
  rcases g with rfl | rfl
  · exact absurd h (by decide)
  · exact absurd h (by decide)
/-- The bytes that a channel writes to the side. -/
def wrI (c : Cl) (s : List Int) (k to boot n : Int) (body : List Int) : List Int := pkB k c to boot n body (pkT (senderI s to) k c to boot n body)
theorem chwrite_ok (bc bn br bb bd : Nat) (sd : List Value) (e1 : TypeId) (f1 : Nat × Nat) (c : Cl) (s : List Int) (hs : s.length = 32) (hsb : Byt s) (m1 m2 : Nat) (e : TypeId) (k to : Int) (hk : wayI k = 3) (h1 : 1 ≤ to) (h2 : to ≤ 65535) (boot cnt : Int) (h0 : 0 ≤ cnt) (h3 : cnt < 2147483647) (p : Option Addr) (n cap : Nat) (body : List Int) (hn : n = body.length) (hE : pckE k c to boot (cnt + 1) n (zI 32) = 0) (hbb : Byt body) (w : World) (hc : w.heap[bc]? = some (.cells ⟨chC bn br bb bd sd⟩ e1 f1)) (hb : w.heap[br]? = some (.cells ⟨ringC c s m1 m2⟩ e (0, 0))) (hne1 : bc ≠ bn) (hne2 : br ≠ bn) (hbd : RdSl w p u8V body) (hq : body ≠ [] → Off p [bn]) :
    CallM Tryz.prog 59 [.pointer (some ⟨bc, 0, none⟩), .int .i64 k, .int .i64 to, .slice p n cap] [(bn, .cells ⟨[.int .i64 boot, .int .i64 cnt]⟩ 379 (0, 0))] w fun v L => ∃ ov, OvOk 1 ov (wrI c s k to boot (cnt + 1) body).length (u8s (wrI c s k to boot (cnt + 1) body)) ∧ v = .tuple #[slV ov (wrI c s k to boot (cnt + 1) body).length, .int .i64 0] ∧ L = (bn, .cells ⟨[.int .i64 boot, .int .i64 (cnt + 1)]⟩ 379 (0, 0)) :: blkL 5 ov (u8s (wrI c s k to boot (cnt + 1) body)) := by
  have hnp := way3 hk
  have hz : (zI 32).length = 32 := rfl
  have hn5 : n ≤ 512 := (pckE_zero hE).2.2.2.2.1
  have hm1 : bc ∉ [bn] := by simpa using hne1
  have hm2 : br ∉ [bn] := by simpa using hne2
  have hky := fun w1 (h : Chg [bn] w w1) => chkey_ok bc bn br bb bd sd e1 f1 c s hs hsb m1 m2 e k to hk h1 h2 w1 (h.heap hc hm1) (h.heap hb hm2)
  have how := fun w1 (h : Chg [bn] w w1) => chown_ok bc bn br bb bd sd e1 f1 c s hs m1 m2 e w1 (h.heap hc hm1) (h.heap hb hm2)
  have hpl := pplain_ok k
  rw [decide_eq_false hnp] at hpl
  have hkl : (senderI s to).length = 32 := derive_len _ _ _
  have hkb : Byt (senderI s to) := derive_byt _ _ _
  have htl : (pkT (senderI s to) k c to boot (cnt + 1) body).length = 32 := by unfold pkT; exact hmac_len _ _
  have htg := fun bk w1 (h : Chg [bn] w w1) hK => ptagged_ok k c to boot (cnt + 1) p n cap (zI 32) body hz hnp hE hn hbb bk (senderI s to) (by rw [hkl]; decide) hkb w1 hK (hbd.chg' h hq)
  have hE2 : pckE k c to boot (cnt + 1) n (pkT (senderI s to) k c to boot (cnt + 1) body) = 0 := by rw [pckE_np _ (zI 32) hnp]; exact hE
  have hby := fun p2 cap2 w1 h => pbytes_ok k c to boot (cnt + 1) p2 n cap2 (pkT (senderI s to) k c to boot (cnt + 1) body) body htl hE2 hn w1 h
  have hl1 := fun p2 cap2 => pk_len k c to boot (cnt + 1) p2 n cap2 htl
  have ho1 := fun p2 cap2 => pk_one k c to boot (cnt + 1) p2 n cap2 (pkT (senderI s to) k c to boot (cnt + 1) body)
  unfold wrI
  generalize pkT (senderI s to) k c to boot (cnt + 1) body = TG at *
  generalize pkB k c to boot (cnt + 1) body TG = PB at *
  generalize hSD : senderI s to = SD at *
  refine enterK (tb := tb) Tryz.func59 rfl Tryz.ntmps59 rfl ?_
  simp only [pkC] at hl1 ho1 htg hby
  repeat' (first | (apply R.is1; first | (apply R.isBin; (apply R.pure; exact rfl; first | (apply Ok1.eqlP; (iterate 5 exact rfl)) | (apply Ok1.gtr_f; exact rfl; exact rfl; omega) | (apply Ok1.neq_f; exact rfl; exact rfl; omega))) | (apply R.isCall; first | (apply R.callE (vs := [.pointer (some ⟨bc, 0, none⟩), .int .i64 k, .int .i64 to]); (iterate 3 exact rfl); exact Ext.none _; intro w1 hw1; exact hky w1 hw1.chg; rintro x Lo ⟨bk, ovk, rfl, hovk, rfl⟩) | (apply R.pure; exact rfl; (apply Ok1.lenS; (iterate 3 exact rfl)))) | (apply R.pure; exact rfl; first | (apply Ok1.load; exact rfl; (apply Ld.blk1; exact rfl; exact rfl; exact hc; exact hm1; exact rfl)) | (apply Ok1.move; exact rfl) | (apply Ok1.fieldAddr; (iterate 5 exact rfl)) | (apply Ok1.assign; exact rfl) | (apply Ok1.extract; exact rfl; exact rfl) | (apply Ok1.nilCheck; exact rfl))) | apply R.nil | (apply T.is; first | apply T.seq | apply T.region | apply T.block | apply T.skip | (apply T.cond_f; exact rfl)))
  have hovk2 : OvOk 1 ovk SD.length (u8s SD) := by rw [hkl]; exact hovk
  have hkr : ∀ L w1, Hp w [bn] L w1 → (∀ z ∈ KL bk ovk SD, z ∈ L) → KeyR w1 bk SD := fun L w1 h4 h5 => KeyR.of hovk2 h4 h5
  generalize KL bk ovk SD = KK at hkr ⊢
  repeat' (first | (apply R.is1; first | (apply R.isBin; (apply R.pure; exact rfl; (apply Ok1.neq_f; exact rfl; exact rfl; omega))) | (apply R.isCall; (apply R.callE (Li := [(bn, .cells ⟨[.int .i64 boot, .int .i64 cnt]⟩ 379 (0, 0))]) (vs := [.pointer (some ⟨bn, 0, none⟩)]); (iterate 3 exact rfl); (focus ((repeat' (first | exact Ext.one _ _ | apply Ext.app)); done)); intro w1 hw1; exact wnext_ok bn boot cnt h0 h3 w1; rintro x Lo ⟨rfl, rfl⟩)) | (apply R.pure; exact rfl; first | (apply Ok1.move; exact rfl) | (apply Ok1.assign; exact rfl) | (apply Ok1.extract; exact rfl; exact rfl)) | (apply R.alloc; (iterate 3 exact rfl); intro)) | (apply R.is0; (apply R.store; (iterate 6 exact rfl); exact Upd.head; exact rfl)) | apply R.nil | (apply T.is; first | (apply T.drawC (id := 11) [0] (by decide); ((apply A.take 0; exact rfl; exact rfl; kernel_rfl; kernel_rfl; kernel_rfl; (apply Ok1.move; exact rfl)) <;> (apply A.take 1; exact rfl; exact rfl; kernel_rfl; kernel_rfl; kernel_rfl; (apply Ok1.move; exact rfl)) <;> (apply A.take 3; exact rfl; exact rfl; kernel_rfl; kernel_rfl; kernel_rfl; (apply Ok1.move; exact rfl)) <;> (apply A.take 4; exact rfl; exact rfl; kernel_rfl; kernel_rfl; kernel_rfl; (apply Ok1.load; exact rfl; (apply Ld.ownk; exact rfl; exact rfl; exact At.head; exact rfl))) <;> (apply A.take 5; exact rfl; exact rfl; kernel_rfl; kernel_rfl; kernel_rfl; (apply Ok1.move; exact rfl)) <;> (apply A.two 2 7; kernel_rfl; exact rfl; exact rfl; rotate_left 1; (focus (((((apply R.alloc; (iterate 3 exact rfl); intro))); apply R.nil; refine ⟨?_, ?_⟩; (focus ((repeat' (first | exact trivial | (refine ⟨?_, ?_⟩; (focus ((repeat' (first | exact At.head | apply At.tail)); done)))))))) <;> (apply A.one 2; kernel_rfl; exact rfl; (((apply R.callE (vs := [.pointer (some ⟨bc, 0, none⟩)]); (iterate 3 exact rfl); exact Ext.none _; intro w1 hw1; exact how w1 hw1.chg; rintro x Lo ⟨rfl, rfl⟩))); apply R.nil; refine ⟨?_, ?_⟩; (focus ((repeat' (first | exact trivial | (refine ⟨?_, ?_⟩; (focus ((repeat' (first | exact At.head | apply At.tail)); done)))))))) <;> (apply A.take 6; exact rfl; exact rfl; kernel_rfl; kernel_rfl; kernel_rfl; (apply Ok1.build; (iterate 5 exact rfl))) <;> (apply A.one 8; kernel_rfl; exact rfl; (((apply R.store; (iterate 6 exact rfl); exact Upd.head; exact rfl))); apply R.nil; refine ⟨?_, ?_⟩; (focus ((repeat' (first | exact trivial | (refine ⟨?_, ?_⟩; (focus ((repeat' (first | exact At.head | apply At.tail)); done)))))))) <;> (apply A.done; kernel_rfl))); rotate_right 1; (focus (((((apply R.callE (vs := [.pointer (some ⟨bc, 0, none⟩)]); (iterate 3 exact rfl); exact Ext.none _; intro w1 hw1; exact how w1 hw1.chg; rintro x Lo ⟨rfl, rfl⟩))); apply R.nil; refine ⟨?_, ?_⟩; (focus ((repeat' (first | exact trivial | (refine ⟨?_, ?_⟩; exact At.head)))))) <;> (apply A.take 6; exact rfl; exact rfl; kernel_rfl; kernel_rfl; kernel_rfl; (apply Ok1.build; (iterate 5 exact rfl))) <;> (apply A.one 7; kernel_rfl; exact rfl; (((apply R.alloc; (iterate 3 exact rfl); intro))); apply R.nil; refine ⟨?_, ?_⟩; (focus ((repeat' (first | exact trivial | (refine ⟨?_, ?_⟩; (focus ((repeat' (first | exact At.head | apply At.tail)); done)))))))) <;> (apply A.one 8; kernel_rfl; exact rfl; (((apply R.store; (iterate 6 exact rfl); exact Upd.head; exact rfl))); apply R.nil; refine ⟨?_, ?_⟩; (focus ((repeat' (first | exact trivial | (refine ⟨?_, ?_⟩; (focus ((repeat' (first | exact At.head | apply At.tail)); done)))))))) <;> (apply A.done; kernel_rfl)))))) | apply T.seq | apply T.region | apply T.skip | (apply T.cond_f; exact rfl)))
  all_goals repeat' (first | (apply R.is1; first | (apply R.isBin; (apply R.pure; exact rfl; (apply Ok1.neq_f; exact rfl; exact rfl; omega))) | (apply R.isCall; first | apply R.callP rfl rfl rfl hpl | (apply R.callE (vs := [.agg _, .pointer (some ⟨bk, 0, none⟩)]); (iterate 3 exact rfl); exact Ext.none _; intro w1 hw1; exact htg bk w1 hw1.chg (hkr _ w1 hw1 (Ext.mem (by (focus ((repeat' (first | exact Ext.here _ _ | apply Ext.cons | apply Ext.app)); done))))); rintro x Lo ⟨ovt, hovt, rfl, rfl⟩) | (apply R.callE (vs := [.agg _]); (iterate 3 exact rfl); exact Ext.none _; intro w1 hw1; exact hby (ovp ovt) (ovc ovt n) w1 (RdSl.own' hw1 (Ext.mem (by rw [fl_u8]; (focus ((repeat' (exact Ext.here _ _)); done)))) (by rw [fl_u8, ← hn]; exact hovt) u8V_len); rintro x Lo ⟨ovb, hovb, rfl, rfl⟩)) | (apply R.pure; exact rfl; first | (apply Ok1.load; exact rfl; first | (apply Ld.ownk; exact rfl; exact rfl; (focus ((repeat' (first | exact At.head | apply At.right)); done)); exact rfl) | (apply Ld.ownk; exact rfl; exact rfl; (focus ((repeat' (first | exact At.head | apply At.right)); done)); exact subE_all (hl1 _ _))) | (apply Ok1.move; exact rfl) | (apply Ok1.assign; exact rfl) | (apply Ok1.extract; exact rfl; exact rfl) | (apply Ok1.not_f; exact rfl))) | (apply R.is0; (apply R.store; (iterate 4 exact rfl); exact (hl1 _ _); exact (ho1 _ _); (focus ((repeat' (first | exact Upd.head | apply Upd.right)); done)); exact setE_all (hl1 _ _))) | apply R.nil | (apply T.is; first | apply T.seq | apply T.region | apply T.skip | apply T.ret | (apply T.cond_t; exact rfl) | (apply T.cond_f; exact rfl)))
  all_goals (apply RetOk.tt; exact rfl; exact rfl)
  all_goals exact ⟨_, by (focus ((repeat' (first | exact Ext.one _ _ | exact Ext.here _ _ | apply Keep.cons | apply Keep.last | apply Ext.cons | apply Ext.app)); done)), ovb, hovb, rfl, rfl⟩
end Go.Proofs.YtidjnjlejhoalaaGreat
set_option linter.unusedSimpArgs false
set_option linter.unusedVariables false
namespace Go.Proofs.YtidjnjlejhoalaaGreat
open Go.RowKit Go.Shelf
set_option maxRecDepth 100000
/-- The next n bytes, one by one; what is left. -/
def Rs.raws (s : Rs) : Nat → List Int × Rs
  | 0 => ([], s)
  | n + 1 => ((s.raws n).1 ++ [((s.raws n).2.num 1).1], ((s.raws n).2.num 1).2.2)
theorem Rs.raws_len (s : Rs) (n : Nat) : (s.raws n).1.length = n := by
  induction n with
  | zero => rfl
  | succ n ih => simp [Rs.raws, ih]
theorem Rs.ok.raws {s : Rs} {br : Nat} {w : World} (h : s.ok br w) (n : Nat) : (s.raws n).2.ok br w := by
  induction n with
  | zero => exact h
  | succ n ih => exact ih.num 1
theorem Rs.num1_range9 {s : Rs} (h : Byt s.xs) : 0 ≤ (s.num 1).1 ∧ (s.num 1).1 ≤ 255 := by
  unfold Rs.num
  by_cases h1 : s.e ≠ 0 ∨ s.xs.length < 1
  · rw [if_pos h1]; exact ⟨Int.le_refl 0, by show (0 : Int) ≤ 255; decide⟩
  rw [if_neg h1]
  have hb := be_range 1 (s.xs.take 1) (by rw [List.length_take]; omega) fun y hy => h y (List.mem_of_mem_take hy)
  split <;> simp only <;> omega
theorem raw_ok (br : Nat) (s : Rs) (n : Nat) (hn : n ≤ 1000) (w : World) (hs : s.ok br w) : CallM Tryz.prog 176 [.agg ⟨[.pointer (some ⟨br, 0, none⟩)]⟩, .int .i64 n] (s.L br) w fun v L => ∃ ov, OvOk 1 ov n (u8s (s.raws n).1) ∧ v = slV ov n ∧ L = (s.raws n).2.L br ++ blkL 5 ov (u8s (s.raws n).1) := by
  have hbl0 := rL_blk s br
  refine enterK (tb := tb) Tryz.func176 rfl Tryz.ntmps176 rfl ?_
  generalize hL0 : s.L br = L0 at *
  repeat' (first | (apply R.is1; first | (apply R.pure; exact rfl; first | (apply Ok1.move; exact rfl) | (apply Ok1.assign; exact rfl)) | (apply R.box; (iterate 3 exact rfl); intro)) | apply R.nil | (apply T.is; first | apply T.seq | apply T.region | apply T.block))
  rename_i b2
  apply T.loopK (α := Nat × Ov) (I := fun y => y.1 ≤ n ∧ OvOk 1 y.2 y.1 (u8s (s.raws y.1).1)) (σi := fun y => [(1, .int .i64 n), (2, .pointer (some ⟨b2, 0, none⟩)), (5, slV y.2 y.1), (6, .int .i64 n), (7, .int .i64 y.1)]) (Li := fun y => (s.raws y.1).2.L br ++ ((b2, .cells ⟨[.pointer (some ⟨br, 0, none⟩)]⟩ 321 (0, 0)) :: blkL 5 y.2 (u8s (s.raws y.1).1))) (μ := fun y => n - y.1) (i0 := (0, none))
  · exact ⟨Nat.zero_le _, OvOk.start 1⟩
  · exact ⟨rfl, rfl, rfl, rfl, rfl, trivial⟩
  · simp only [Rs.raws, hL0]
    (focus ((repeat' (first | exact Keep.nil _ | exact Ext.one _ _ | exact Ext.all _ | apply Keep.cons | apply Keep.app | apply Ext.cons)); done))
  · rintro ⟨i, ov⟩ ⟨hi, hov⟩
    simp only at hi hov ⊢
    have hsi := hs.raws i
    have hrl := s.raws_len i
    rcases Nat.lt_or_ge i n with hlt | hge
    · have hnum := fun w1 h => rnum_ok br (s.raws i).2 0 1 (by decide) rfl w1 h
      have hrg := Rs.num1_range9 hsi.byt
      have hr1 : (s.raws (i + 1)).1 = (s.raws i).1 ++ [((s.raws i).2.num 1).1] := rfl
      have hr2 : (s.raws (i + 1)).2 = ((s.raws i).2.num 1).2.2 := rfl
      generalize hL1 : ((s.raws i).2.num 1).2.2.L br = L1 at *
      generalize hx : ((s.raws i).2.num 1).1 = x at *
      generalize (s.raws i).1 = RX at *
      generalize hLi : (s.raws i).2.L br = LI at *
      generalize (s.raws i).2 = si at *
      repeat' (first | (apply R.is1; first | (apply R.isBin; (apply R.pure; exact rfl; first | (apply Ok1.add64; exact rfl; exact rfl; omega; omega) | (apply Ok1.lss_t; exact rfl; exact rfl; omega))) | (apply R.isCall; first | (apply R.callE (Li := LI); (iterate 3 exact rfl); (focus ((repeat' (exact Ext.here _ _)); done)); intro w1 hw1; exact hnum w1 (hsi.chg hw1.chg hbl0); rintro v Lo ⟨rfl, hq⟩; rw [hq]; clear hq) | (apply R.appendRd (xs := [x]) (v := u8V) (sz := 1) (ov := ov) (n := i) (m := 1) (old := u8s RX); (iterate 12 exact rfl); exact hov; (focus ((repeat' (first | exact Ext.all _ | apply Ext.cons | apply Ext.app)); done)); exact rfl; exact u8V_len; exact rfl; (intro w1 hw1; exact RdSl.of (junk := []) hw1 (by exact At.head) rfl); (focus (rw [fl_u8]; exact u8s_one _)); omega; intro ov1 hov1 hsome; rw [fl_u8, ← u8s_app]; rw [fl_u8, ← u8s_app] at hov1)) | (apply R.pure; exact rfl; first | (apply Ok1.move; exact rfl) | (apply Ok1.fieldAddr; (iterate 5 exact rfl)) | (apply Ok1.load; exact rfl; (apply Ld.own1; exact rfl; exact rfl; (focus ((repeat' (first | exact At.head | apply At.right)); done)); exact rfl)) | (apply Ok1.assign; exact rfl) | (apply Ok1.convU8; (iterate 5 exact rfl); omega; omega)) | (apply R.buildSlice; (iterate 12 exact rfl); intro)) | apply R.nil | (apply T.is; first | apply T.seq | apply T.region | apply T.block | apply T.skip | (apply T.cond_t; exact rfl)))
      refine ⟨(i + 1, ov1), ⟨by simp only; omega, ?_⟩, by simp only; omega, ⟨rfl, rfl, rfl, rfl, rfl, trivial⟩, ?_⟩
      · show OvOk 1 ov1 (i + 1) (u8s (s.raws (i + 1)).1)
        rw [hr1]; exact hov1
      · show Keep _ ((s.raws (i + 1)).2.L br ++ (_ :: blkL 5 ov1 (u8s (s.raws (i + 1)).1)))
        rw [hr1, hr2, hL1]
        (focus ((repeat' (first | exact Ext.one _ _ | exact Ext.here _ _ | apply Keep.cons | apply Keep.app | apply Keep.last | apply Ext.cons | apply Ext.app)); done))
    · have him : n = i := by omega
      subst him
      generalize (s.raws n).2.L br = LI at *
      repeat' (first | (apply R.is1; first | (apply R.isBin; (apply R.pure; exact rfl; (apply Ok1.lss_f; exact rfl; exact rfl; omega))) | (apply R.pure; exact rfl; first | (apply Ok1.move; exact rfl) | (apply Ok1.assign; exact rfl))) | apply R.nil | (apply T.is; first | apply T.seq | apply T.region | apply T.exit | apply T.ret | (apply T.cond_f; exact rfl)))
      (apply RetOk.t; exact rfl)
      exact ⟨_, by (focus ((repeat' (first | exact Ext.here _ _ | exact Ext.all _ | apply Keep.app | apply Keep.last | apply Ext.cons)); done)), ov, hov, rfl, rfl⟩
end Go.Proofs.YtidjnjlejhoalaaGreat
set_option linter.unusedSimpArgs false
set_option linter.unusedVariables false
namespace Go.Proofs.YtidjnjlejhoalaaGreat
open Go.RowKit Go.Shelf
set_option maxRecDepth 100000
/-- The next bytes behind their number; what is left. -/
def Rs.gb (s : Rs) : List Int × Rs :=
  if (s.num 2).2.1 = false then ([], (s.num 2).2.2) else if 512 < (s.num 2).1 then ([], (s.num 2).2.2.fail 3) else if (s.num 2).2.2.xs.length < (s.num 2).1.toNat then ([], (s.num 2).2.2.fail 4) else ((s.num 2).2.2.xs.take (s.num 2).1.toNat, (s.num 2).2.2.drop (s.num 2).1.toNat)
theorem Rs.num_true {s : Rs} {k : Nat} (h : (s.num k).2.1 = true) : (s.num k).2.2.e = 0 := by
  unfold Rs.num at h ⊢
  by_cases h1 : s.e ≠ 0 ∨ s.xs.length < k
  · rw [if_pos h1] at h; cases h
  rw [if_neg h1] at h ⊢
  have he : s.e = 0 := Classical.byContradiction fun g => h1 (.inl g)
  split at h
  · rw [if_pos ‹_›]; exact he
  · cases h
theorem Rs.num_nonneg {s : Rs} (k : Nat) (h : Byt s.xs) : 0 ≤ (s.num k).1 := by
  unfold Rs.num
  by_cases h1 : s.e ≠ 0 ∨ s.xs.length < k
  · rw [if_pos h1]; exact Int.le_refl 0
  rw [if_neg h1]
  have hb := be_range k (s.xs.take k) (by rw [List.length_take]; omega) fun y hy => h y (List.mem_of_mem_take hy)
  split
  · exact hb.1
  · exact Int.le_refl 0
theorem Rs.gb_len (s : Rs) : s.gb.1.length ≤ 512 := by
  unfold Rs.gb
  split
  · exact Nat.zero_le _
  split
  · exact Nat.zero_le _
  split
  · exact Nat.zero_le _
  · simp only [List.length_take]; omega
theorem rgetB_ok (br : Nat) (s : Rs) (w : World) (hs : s.ok br w) : CallM Tryz.prog 200 [.pointer (some ⟨br, 0, none⟩), .int .i64 4] (s.L br) w fun v L => ∃ ov z, OvOk 1 ov s.gb.1.length (u8s s.gb.1) ∧ v = .agg ⟨[.int .i64 z, .int .i64 0, .slice (ovp ov) s.gb.1.length (ovc ov s.gb.1.length)]⟩ ∧ L = s.gb.2.L br ++ blkL 5 ov (u8s s.gb.1) := by
  have hbl0 := rL_blk s br
  have hn := fun w1 h1 => rnumber_ok br s 1 2 (by decide) rfl w1 h1
  have ht := hs.num 2
  have htr := fun h => Rs.num_true (s := s) (k := 2) h
  have hn0 := Rs.num_nonneg (s := s) 2 hs.byt
  unfold Rs.gb
  generalize s.num 2 = r at *
  obtain ⟨v1, v2, t⟩ := r
  simp only at hn ht htr hn0 ⊢
  cases v2 with
  | false =>
    rw [if_pos rfl]
    generalize s.L br = L0 at *
    generalize t.L br = L1 at *
    refine enterK (tb := tb) Tryz.func200 rfl Tryz.ntmps200 rfl ?_
    repeat' (first | (apply R.is1; first | (apply R.isBin; (apply R.pure; exact rfl; first | (apply Ok1.lss_f; exact rfl; exact rfl; omega) | (apply Ok1.gtr_f; exact rfl; exact rfl; omega) | (apply Ok1.eqlP; (iterate 5 exact rfl)))) | (apply R.isCall; (apply R.callE (Li := L0); (iterate 3 exact rfl); (focus ((repeat' (first | exact Ext.all _ | apply Ext.cons)); done)); intro w1 hw1; exact hn w1 (hs.chg hw1.chg hbl0); rintro v Lo ⟨rfl, hq⟩; rw [hq]; clear hq)) | (apply R.pure; exact rfl; first | (apply Ok1.move; exact rfl) | (apply Ok1.fieldAddr; (iterate 5 exact rfl)) | (apply Ok1.assign; exact rfl) | (apply Ok1.build; (iterate 5 exact rfl)) | (apply Ok1.extract; exact rfl; exact rfl) | (apply Ok1.pick_f; exact rfl; exact rfl) | (apply Ok1.not_f; exact rfl) | (apply Ok1.nilCheck; exact rfl)) | (apply R.alloc; (iterate 3 exact rfl); intro)) | (apply R.is0; (apply R.store; (iterate 6 exact rfl); (focus ((repeat' (first | exact Upd.head | apply Upd.right)); done)); exact rfl)) | (apply R.isG; first | (apply R.guard_run; exact rfl; exact rfl) | (apply R.guard_not; (iterate 3 exact rfl))) | apply R.nil | (apply T.is; first | apply T.seq | apply T.region | apply T.block | apply T.skip | apply T.ret | (apply T.cond_t; exact rfl) | (apply T.cond_f; exact rfl)))
    (apply RetOk.c; exact rfl; ((apply Ld.ownk; exact rfl; exact rfl; (focus ((repeat' (first | exact At.head | apply At.right)); done)); exact rfl)))
    exact ⟨_, by (focus ((repeat' (first | exact Ext.here _ _ | apply Keep.last)); done)), none, 0, OvOk.start 1, rfl, (List.append_nil _).symm⟩
  | true =>
    rw [if_neg (by decide)]
    have hte := htr rfl
    by_cases h5 : 512 < v1
    · rw [if_pos h5]
      have hf := fun w1 => rfail_ok br t 3 w1
      simp only
      generalize s.L br = L0 at *
      generalize t.L br = L1 at *
      generalize (t.fail 3).L br = L2 at *
      refine enterK (tb := tb) Tryz.func200 rfl Tryz.ntmps200 rfl ?_
      repeat' (first | (apply R.is1; first | (apply R.isBin; (apply R.pure; exact rfl; first | (apply Ok1.lss_f; exact rfl; exact rfl; omega) | (apply Ok1.gtr_t; exact rfl; exact rfl; omega) | (apply Ok1.gtr_f; exact rfl; exact rfl; omega) | (apply Ok1.eqlP; (iterate 5 exact rfl)))) | (apply R.isCall; first | (apply R.callE (Li := L0); (iterate 3 exact rfl); (focus ((repeat' (first | exact Ext.all _ | apply Ext.cons | apply Ext.app)); done)); intro w1 hw1; exact hn w1 (hs.chg hw1.chg hbl0); rintro v Lo ⟨rfl, hq⟩; rw [hq]; clear hq) | (apply R.callE (Li := L1); (iterate 3 exact rfl); (focus ((repeat' (exact Ext.here _ _)); done)); intro w1 hw1; exact hf w1; rintro v Lo ⟨rfl, hq⟩; rw [hq]; clear hq)) | (apply R.pure; exact rfl; first | (apply Ok1.move; exact rfl) | (apply Ok1.fieldAddr; (iterate 5 exact rfl)) | (apply Ok1.assign; exact rfl) | (apply Ok1.build; (iterate 5 exact rfl)) | (apply Ok1.extract; exact rfl; exact rfl) | (apply Ok1.pick_t; exact rfl; exact rfl) | (apply Ok1.pick_f; exact rfl; exact rfl) | (apply Ok1.not_f; exact rfl) | (apply Ok1.nilCheck; exact rfl)) | (apply R.alloc; (iterate 3 exact rfl); intro)) | (apply R.is0; (apply R.store; (iterate 6 exact rfl); (focus ((repeat' (first | exact Upd.head | apply Upd.right)); done)); exact rfl)) | (apply R.isG; (apply R.guard_run; exact rfl; exact rfl)) | apply R.nil | (apply T.is; first | apply T.seq | apply T.region | apply T.block | apply T.skip | apply T.ret | (apply T.cond_t; exact rfl) | (apply T.cond_f; exact rfl)))
      (apply RetOk.c; exact rfl; ((apply Ld.ownk; exact rfl; exact rfl; (focus ((repeat' (first | exact At.head | apply At.right)); done)); exact rfl)))
      exact ⟨_, by (focus ((repeat' (first | exact Ext.here _ _ | apply Keep.last)); done)), none, 0, OvOk.start 1, rfl, (List.append_nil _).symm⟩
    rw [if_neg h5]
    obtain ⟨n, rfl⟩ : ∃ n : Nat, v1 = n := ⟨v1.toNat, by omega⟩
    rw [Int.toNat_natCast]
    by_cases h6 : t.xs.length < n
    · rw [if_pos h6]
      have hk := fun w1 => rtake_no br t n (.inr h6) w1
      have hfe : t.fail 4 = ⟨none, 0, [], 4⟩ := by unfold Rs.fail; rw [if_pos hte]
      simp only [hfe] at hk ⊢
      simp only [Rs.L, List.length_nil] at hk ⊢
      have e1 : (s.L br) = [(br, .cells ⟨[.slice s.q s.xs.length s.cap, .int .i64 s.e]⟩ 249 (0, 0))] := rfl
      have e2 : (t.L br) = [(br, .cells ⟨[.slice t.q t.xs.length t.cap, .int .i64 t.e]⟩ 249 (0, 0))] := rfl
      rw [← e1] 
      rw [← e2] at hk
      generalize s.L br = L0 at *
      generalize t.L br = L1 at *
      refine enterK (tb := tb) Tryz.func200 rfl Tryz.ntmps200 rfl ?_
      repeat' (first | (apply R.is1; first | (apply R.isBin; (apply R.pure; exact rfl; first | (apply Ok1.lss_f; exact rfl; exact rfl; omega) | (apply Ok1.gtr_f; exact rfl; exact rfl; omega) | (apply Ok1.neq_t; exact rfl; exact rfl; omega) | (apply Ok1.eqlP; (iterate 5 exact rfl)))) | (apply R.isCall; first | (apply R.callE (Li := L0) (vs := [.pointer (some ⟨br, 0, none⟩), .int .i64 1]); (iterate 3 exact rfl); (focus ((repeat' (first | exact Ext.all _ | apply Ext.cons)); done)); intro w1 hw1; exact hn w1 (hs.chg hw1.chg hbl0); rintro v Lo ⟨rfl, hq⟩; rw [hq]; clear hq) | (apply R.callE (Li := L1) (vs := [.pointer (some ⟨br, 0, none⟩), .int .i64 n]); (iterate 3 exact rfl); (focus ((repeat' (exact Ext.here _ _)); done)); intro w1 hw1; exact hk w1; rintro v Lo ⟨rfl, rfl⟩)) | (apply R.pure; exact rfl; first | (apply Ok1.move; exact rfl) | (apply Ok1.fieldAddr; (iterate 5 exact rfl)) | (apply Ok1.load; exact rfl; (apply Ld.own1; exact rfl; exact rfl; exact At.head; exact rfl)) | (apply Ok1.assign; exact rfl) | (apply Ok1.build; (iterate 5 exact rfl)) | (apply Ok1.extract; exact rfl; exact rfl) | (apply Ok1.pick_t; exact rfl; exact rfl) | (apply Ok1.pick_f; exact rfl; exact rfl) | (apply Ok1.not_t; exact rfl) | (apply Ok1.nilCheck; exact rfl)) | (apply R.alloc; (iterate 3 exact rfl); intro)) | (apply R.is0; (apply R.store; (iterate 6 exact rfl); (focus ((repeat' (first | exact Upd.head | apply Upd.tail)); done)); exact rfl)) | (apply R.isG; (apply R.guard_run; exact rfl; exact rfl)) | apply R.nil | (apply T.is; first | apply T.seq | apply T.region | apply T.block | apply T.skip | apply T.ret | (apply T.cond_t; exact rfl) | (apply T.cond_f; exact rfl)))
      (apply RetOk.c; exact rfl; ((apply Ld.ownk; exact rfl; exact rfl; (focus ((repeat' (first | exact At.head | apply At.tail)); done)); exact rfl)))
      exact ⟨_, by (focus ((repeat' (first | exact Keep.nil _ | exact Ext.one _ _ | apply Keep.cons)); done)), none, 0, OvOk.start 1, rfl, rfl⟩
    · rw [if_neg h6]
      have hk := fun w1 => rtake_ok br t n hte (by omega) ht.cap w1
      have hpre := ht.rd.pre u8V_len n
      have hlt : (t.xs.take n).length = n := by rw [List.length_take]; omega
      have hcl := fun w1 h1 => clone_ok t.q n n (t.xs.take n) hlt.symm (by omega) w1 h1
      have hof : t.xs.take n ≠ [] → Off t.q [br] := fun h => ht.off (fun h0 => h (by rw [h0]; exact List.take_nil))
      simp only [hlt]
      have e3 : (t.drop n).L br = [(br, .cells ⟨[.slice (t.drop n).q (t.drop n).xs.length (t.drop n).cap, .int .i64 0]⟩ 249 (0, 0))] := by
        have : (t.drop n).e = 0 := hte
        simp only [Rs.L, this]
      rw [e3] at hk ⊢
      generalize t.xs.take n = ys at *
      generalize t.q = tq at *
      generalize t.drop n = t2 at *
      generalize s.L br = L0 at *
      generalize t.L br = L1 at *
      refine enterK (tb := tb) Tryz.func200 rfl Tryz.ntmps200 rfl ?_
      repeat' (first | (apply R.is1; first | (apply R.isBin; (apply R.pure; exact rfl; first | (apply Ok1.lss_f; exact rfl; exact rfl; omega) | (apply Ok1.gtr_f; exact rfl; exact rfl; omega) | (apply Ok1.neq_f; exact rfl; exact rfl; omega) | (apply Ok1.eqlP; (iterate 5 exact rfl)))) | (apply R.isCall; first | (apply R.callE (Li := L0) (vs := [.pointer (some ⟨br, 0, none⟩), .int .i64 1]); (iterate 3 exact rfl); (focus ((repeat' (first | exact Ext.all _ | apply Ext.cons)); done)); intro w1 hw1; exact hn w1 (hs.chg hw1.chg hbl0); rintro v Lo ⟨rfl, hq⟩; rw [hq]; clear hq) | (apply R.callE (Li := L1) (vs := [.pointer (some ⟨br, 0, none⟩), .int .i64 n]); (iterate 3 exact rfl); (focus ((repeat' (exact Ext.here _ _)); done)); intro w1 hw1; exact hk w1; rintro v Lo ⟨rfl, rfl⟩) | (apply R.callE (vs := [.slice tq n n]); (iterate 3 exact rfl); exact Ext.none _; intro w1 hw1; exact hcl w1 (hpre.chg' hw1.chg (fun h => hbl0.symm ▸ hof h)); rintro v Lo ⟨ov, hov, hso, rfl, rfl⟩; rw [slV_eq hov])) | (apply R.pure; exact rfl; first | (apply Ok1.move; exact rfl) | (apply Ok1.fieldAddr; (iterate 5 exact rfl)) | (apply Ok1.load; exact rfl; (apply Ld.own1; exact rfl; exact rfl; exact At.head; exact rfl)) | (apply Ok1.assign; exact rfl) | (apply Ok1.build; (iterate 5 exact rfl)) | (apply Ok1.extract; exact rfl; exact rfl) | (apply Ok1.pick_t; exact rfl; exact rfl) | (apply Ok1.pick_f; exact rfl; exact rfl) | (apply Ok1.not_t; exact rfl) | (apply Ok1.nilCheck; exact rfl)) | (apply R.alloc; (iterate 3 exact rfl); intro)) | (apply R.is0; (apply R.store; (iterate 6 exact rfl); (focus ((repeat' (first | exact Upd.head | apply Upd.tail | apply Upd.right)); done)); exact rfl)) | (apply R.isG; (apply R.guard_run; exact rfl; exact rfl)) | apply R.nil | (apply T.is; first | apply T.seq | apply T.region | apply T.block | apply T.skip | apply T.ret | (apply T.cond_f; exact rfl)))
      (apply RetOk.c; exact rfl; ((apply Ld.ownk; exact rfl; exact rfl; (focus ((repeat' (first | exact At.head | apply At.tail | apply At.right)); done)); exact rfl)))
      exact ⟨_, by (focus ((repeat' (first | exact Ext.one _ _ | exact Ext.here _ _ | exact Ext.all _ | apply Keep.cons | apply Keep.app | apply Keep.last | apply Ext.cons | apply Ext.app)); done)), ov, 4, hov, rfl, rfl⟩
theorem rbytes_ok (br : Nat) (s : Rs) (w : World) (hs : s.ok br w) : CallM Tryz.prog 177 [.pointer (some ⟨br, 0, none⟩), .int .i64 512] (s.L br) w fun v L => ∃ ov, OvOk 1 ov s.gb.1.length (u8s s.gb.1) ∧ v = .slice (ovp ov) s.gb.1.length (ovc ov s.gb.1.length) ∧ L = s.gb.2.L br ++ blkL 5 ov (u8s s.gb.1) := by
  have hbl0 := rL_blk s br
  have hg := fun w1 h1 => rgetB_ok br s w1 h1
  have hl := s.gb_len
  generalize s.gb = g at *
  obtain ⟨ys, t⟩ := g
  simp only at hg hl ⊢
  generalize s.L br = L0 at *
  generalize t.L br = L1 at *
  refine enterK (tb := tb) Tryz.func177 rfl Tryz.ntmps177 rfl ?_
  repeat' (first | (apply R.is1; first | (apply R.isBin; (apply R.pure; exact rfl; first | (apply Ok1.gtr_f; exact rfl; exact rfl; omega) | (apply Ok1.neqP; (iterate 5 exact rfl)))) | (apply R.isCall; first | (apply R.callE (Li := L0); (iterate 3 exact rfl); (focus ((repeat' (exact Ext.all _)); done)); intro w1 hw1; exact hg w1 (hs.chg hw1.chg hbl0); rintro v Lo ⟨ov, z, hov, rfl, hq⟩; rw [hq, List.append_assoc]; clear hq) | (apply R.pure; exact rfl; (apply Ok1.lenS; (iterate 3 exact rfl)))) | (apply R.pure; exact rfl; first | (apply Ok1.move; exact rfl) | (apply Ok1.fieldAddr; (iterate 5 exact rfl)) | (apply Ok1.load; exact rfl; (apply Ld.own1; exact rfl; exact rfl; exact At.head; exact rfl)) | (apply Ok1.assign; exact rfl) | (apply Ok1.pick_t; exact rfl; exact rfl)) | (apply R.alloc; (iterate 3 exact rfl); intro)) | (apply R.is0; (apply R.store; (iterate 6 exact rfl); exact Upd.head; exact rfl)) | (apply R.isG; (apply R.guard_run; exact rfl; exact rfl)) | apply R.nil | (apply T.is; first | apply T.seq | apply T.region | apply T.skip | apply T.ret | (apply T.cond_f; exact rfl)))
  (apply RetOk.t; exact rfl)
  exact ⟨_, by (focus ((repeat' (first | exact Ext.here _ _ | apply Keep.app | apply Keep.last | apply Ext.cons)); done)), ov, hov, rfl, rfl⟩
end Go.Proofs.YtidjnjlejhoalaaGreat
set_option linter.unusedSimpArgs false
set_option linter.unusedVariables false
namespace Go.Proofs.YtidjnjlejhoalaaGreat
open Go.RowKit Go.Shelf
set_option maxRecDepth 100000
theorem RsO.okB {s : Rs} {M : Lst} (h : RsO s M) (br : Nat) : ∀ (w0 w : World) (S : List Nat) (L Lr : Lst), Hp w0 S L w → Ext L (s.L br) Lr → (∀ z ∈ M, z ∈ Lr) → s.ok br w := fun _ _ _ _ _ a b c => h.ok a b c
def prC (s : Rs) : Cl × Int := if (rdC s).2 ≠ 0 then (cl0, (rdC s).2) else if s.c4.fin ≠ 0 then (cl0, s.c4.fin) else ((rdC s).1, 0)
theorem clparse_ok (p : Option Addr) (n cap : Nat) (xs : List Int) (hn : n = xs.length) (hbig : n ≤ 1000000000) (hb : Byt xs) (w : World) (hp : RdSl w p u8V xs) :
    CallM Tryz.prog 95 [.slice p n cap] [] w fun v L => ∃ s : Rs, s.xs = (if n ≤ 1024 then xs else []) ∧ s.e = (if n ≤ 1024 then 0 else 2) ∧ v = .tuple #[kvC (prC s).1, .int .i64 (prC s).2] ∧ L = [] := by
  have hnew := fun w1 (hc : Chg [] w w1) => rnewr_ok p n cap xs hn hbig hb w1 (hp.chg' hc (fun _ => Off.nil _))
  refine enterK (tb := tb) Tryz.func95 rfl Tryz.ntmps95 rfl ?_
  repeat' (first | (apply R.is1; first | (apply R.isCall; (apply R.callE (vs := [.slice p n cap]); (iterate 3 exact rfl); exact Ext.none _; intro w1 hw1; exact hnew w1 hw1.chg; rintro v Lo ⟨br, s, M, rfl, hs1, hs2, hso, rfl⟩; rw [List.append_assoc])) | (apply R.pure; exact rfl; first | (apply Ok1.move; exact rfl) | (apply Ok1.assign; exact rfl)) | (apply R.alloc; (iterate 3 exact rfl); intro)) | apply R.nil | (apply T.is; first | apply T.seq | apply T.region))
  have hsk := hso.okB br
  have hrd := fun w1 h1 => cread_ok br s w1 h1
  have hen := fun w1 h1 => rend_ok br s.c4 w1 h1
  have hm3 : (br, Obj.cells ⟨[.slice s.c4.q s.c4.xs.length s.c4.cap, .int .i64 s.c4.e]⟩ 249 (0, 0)) ∈ s.c4.L br := by simp [Rs.L]
  have hP : prC s = if (rdC s).2 ≠ 0 then (cl0, (rdC s).2) else if s.c4.fin ≠ 0 then (cl0, s.c4.fin) else ((rdC s).1, 0) := rfl
  generalize hpp : prC s = pr at *
  generalize hL4 : s.c4.L br = L4 at *
  generalize s.c4 = s4 at *
  generalize rdC s = rd at *
  obtain ⟨c, e⟩ := rd
  generalize hLS : s.L br = LS at *
  simp only at hP
  simp only [kvC] at hrd
  by_cases h1 : e = 0
  · rw [if_neg (fun h => h h1)] at hP
    by_cases h2 : s4.fin = 0
    · rw [if_neg (fun h => h h2)] at hP
      subst hP
      rw [h2] at hen
      subst h1
      repeat' (first | (apply R.is1; first | (apply R.isBin; (apply R.pure; exact rfl; first | (apply Ok1.eql_t; exact rfl; exact rfl; omega) | (apply Ok1.neq_f; exact rfl; exact rfl; omega))) | (apply R.isCall; first | (apply R.callE (Li := LS) (vs := [.pointer (some ⟨br, 0, none⟩)]); (iterate 3 exact rfl); (focus ((repeat' (first | exact Ext.here _ _ | apply Ext.cons | apply Ext.app)); done)); intro w1 hw1; exact hrd w1 (hsk _ _ _ _ _ hw1 (by (focus ((repeat' (exact Ext.here _ _)); done))) (Ext.mem (by (focus ((repeat' (exact Ext.here _ _)); done))))); rintro v Lo ⟨rfl, hq⟩; rw [hq]; clear hq) | (apply R.callV (vs := [.pointer (some ⟨br, 0, none⟩)]); (iterate 3 exact rfl); intro w1 hw1; (apply hen w1; apply hw1.get; apply Ext.memI9 hm3; (focus ((repeat' (first | exact Ext.here _ _ | apply Ext.cons)); done))))) | (apply R.pure; exact rfl; first | (apply Ok1.move; exact rfl) | (apply Ok1.load; exact rfl; (apply Ld.ownk; exact rfl; exact rfl; exact At.head; exact rfl)) | (apply Ok1.assign; exact rfl) | (apply Ok1.extract; exact rfl; exact rfl)) | (apply R.alloc; (iterate 3 exact rfl); intro)) | (apply R.is0; (apply R.store; (iterate 6 exact rfl); (focus ((repeat' (first | exact Upd.head | apply Upd.tail | apply Upd.right)); done)); exact rfl)) | apply R.nil | (apply T.is; first | apply T.seq | apply T.region | apply T.skip | apply T.ret | (apply T.cond_t; exact rfl) | (apply T.cond_f; exact rfl)))
      (apply RetOk.ct; exact rfl; ((apply Ld.ownk; exact rfl; exact rfl; (focus ((repeat' (first | exact At.head | apply At.tail | apply At.right)); done)); exact rfl)); exact rfl)
      exact ⟨_, by (focus ((repeat' (exact Keep.nil _)); done)), s, hs1, hs2, by rw [hpp]; rfl, rfl⟩
    · rw [if_pos h2] at hP
      subst hP
      subst h1
      generalize s4.fin = e9 at *
      repeat' (first | (apply R.is1; first | (apply R.isBin; (apply R.pure; exact rfl; first | (apply Ok1.eql_t; exact rfl; exact rfl; omega) | (apply Ok1.neq_t; exact rfl; exact rfl; omega))) | (apply R.isCall; first | (apply R.callE (Li := LS) (vs := [.pointer (some ⟨br, 0, none⟩)]); (iterate 3 exact rfl); (focus ((repeat' (first | exact Ext.here _ _ | apply Ext.cons | apply Ext.app)); done)); intro w1 hw1; exact hrd w1 (hsk _ _ _ _ _ hw1 (by (focus ((repeat' (exact Ext.here _ _)); done))) (Ext.mem (by (focus ((repeat' (exact Ext.here _ _)); done))))); rintro v Lo ⟨rfl, hq⟩; rw [hq]; clear hq) | (apply R.callV (vs := [.pointer (some ⟨br, 0, none⟩)]); (iterate 3 exact rfl); intro w1 hw1; (apply hen w1; apply hw1.get; apply Ext.memI9 hm3; (focus ((repeat' (first | exact Ext.here _ _ | apply Ext.cons)); done))))) | (apply R.pure; exact rfl; first | (apply Ok1.move; exact rfl) | (apply Ok1.assign; exact rfl) | (apply Ok1.build; (iterate 5 exact rfl)) | (apply Ok1.extract; exact rfl; exact rfl)) | (apply R.alloc; (iterate 3 exact rfl); intro)) | (apply R.is0; (apply R.store; (iterate 6 exact rfl); (focus ((repeat' (first | exact Upd.head | apply Upd.tail | apply Upd.right)); done)); exact rfl)) | apply R.nil | (apply T.is; first | apply T.seq | apply T.region | apply T.ret | (apply T.cond_t; exact rfl)))
      (apply RetOk.ct; exact rfl; ((apply Ld.ownk; exact rfl; exact rfl; (focus ((repeat' (first | exact At.head | apply At.tail | apply At.right)); done)); exact rfl)); exact rfl)
      exact ⟨_, by (focus ((repeat' (exact Keep.nil _)); done)), s, hs1, hs2, by rw [hpp]; rfl, rfl⟩
  · rw [if_pos h1] at hP
    subst hP
    repeat' (first | (apply R.is1; first | (apply R.isBin; (apply R.pure; exact rfl; first | (apply Ok1.eql_f; exact rfl; exact rfl; omega) | (apply Ok1.neq_t; exact rfl; exact rfl; omega))) | (apply R.isCall; (apply R.callE (Li := LS) (vs := [.pointer (some ⟨br, 0, none⟩)]); (iterate 3 exact rfl); (focus ((repeat' (exact Ext.here _ _)); done)); intro w1 hw1; exact hrd w1 (hsk _ _ _ _ _ hw1 (by (focus ((repeat' (exact Ext.here _ _)); done))) (Ext.mem (by (focus ((repeat' (exact Ext.here _ _)); done))))); rintro v Lo ⟨rfl, hq⟩; rw [hq]; clear hq)) | (apply R.pure; exact rfl; first | (apply Ok1.move; exact rfl) | (apply Ok1.assign; exact rfl) | (apply Ok1.build; (iterate 5 exact rfl)) | (apply Ok1.extract; exact rfl; exact rfl)) | (apply R.alloc; (iterate 3 exact rfl); intro)) | (apply R.is0; (apply R.store; (iterate 6 exact rfl); (focus ((repeat' (first | exact Upd.head | apply Upd.tail | apply Upd.right)); done)); exact rfl)) | apply R.nil | (apply T.is; first | apply T.seq | apply T.region | apply T.skip | apply T.ret | (apply T.cond_t; exact rfl) | (apply T.cond_f; exact rfl)))
    (apply RetOk.ct; exact rfl; ((apply Ld.ownk; exact rfl; exact rfl; (focus ((repeat' (first | exact At.head | apply At.tail | apply At.right)); done)); exact rfl)); exact rfl)
    exact ⟨_, by (focus ((repeat' (exact Keep.nil _)); done)), s, hs1, hs2, by rw [hpp]; rfl, rfl⟩
end Go.Proofs.YtidjnjlejhoalaaGreat
set_option linter.unusedSimpArgs false
set_option linter.unusedVariables false
namespace Go.Proofs.YtidjnjlejhoalaaGreat
open Go.RowKit Go.Shelf
set_option maxRecDepth 100000
/-- A reader's object. -/
def Rs.O (s : Rs) : Obj := .cells ⟨[.slice s.q s.xs.length s.cap, .int .i64 s.e]⟩ 249 (0, 0)
theorem Rs.L_O (s : Rs) (br : Nat) : s.L br = [(br, s.O)] := rfl
def Rs.s1 (s : Rs) : Rs := (s.num 1).2.2
def Rs.s2 (s : Rs) : Rs := (s.s1.raws 9).2
def Rs.s3 (s : Rs) : Rs := (s.s2.num 2).2.2
def Rs.s4 (s : Rs) : Rs := (s.s3.num 2).2.2
def Rs.s5 (s : Rs) : Rs := (s.s4.num 4).2.2
def Rs.s6 (s : Rs) : Rs := s.s5.gb.2
def Rs.s7 (s : Rs) : Rs := (s.s6.raws 32).2
/-- The parts that are read of a packet, and what is wrong with them; sc: what the claims' bytes are read by. -/
def Rs.pk (s : Rs) : Int := (s.num 1).1
def Rs.pc (s : Rs) : List Int := (s.s1.raws 9).1
def Rs.pto (s : Rs) : Int := (s.s2.num 2).1
def Rs.pa (s : Rs) : Int := (s.s3.num 2).1
def Rs.pb (s : Rs) : Int := (s.s4.num 4).1
def Rs.pbd (s : Rs) : List Int := s.s5.gb.1
def Rs.ptg (s : Rs) : List Int := (s.s6.raws 32).1
def Rs.pE (s sc : Rs) : Int := if s.s7.e ≠ 0 then s.s7.e else if ¬ (0 < s.pk ∧ s.pk < 15) then 13 else if (prC sc).2 ≠ 0 then 3 else if 0 < s.s7.xs.length then 3 else if pckE s.pk (prC sc).1 s.pto s.pa s.pb s.pbd.length s.ptg ≠ 0 then 3 else 0
theorem RsO.raws {s : Rs} {M : Lst} (h : RsO s M) (n : Nat) : RsO (s.raws n).2 M := by
  induction n with
  | zero => exact h
  | succ n ih => exact ih.num 1
theorem RsO.raws_byt {s : Rs} {M : Lst} (h : RsO s M) (n : Nat) : Byt (s.raws n).1 := by
  induction n with
  | zero => intro y hy; cases hy
  | succ n ih =>
    intro y hy
    simp only [Rs.raws, List.mem_append, List.mem_singleton] at hy
    rcases hy with hy | rfl
    · exact ih y hy
    · have := Rs.num1_range9 (h.raws n).byt; omega
theorem RsO.gb {s : Rs} {M : Lst} (h : RsO s M) : RsO s.gb.2 M := by
  have h2 := h.num 2
  unfold Rs.gb
  split
  · exact h2
  split
  · exact h2.fail 3
  split
  · exact h2.fail 4
  · exact h2.drop (by omega)
def ParsePost (n : Nat) (xs : List Int) (v : Value) (L : Lst) : Prop := ∃ s sc : Rs, s.xs = (if n ≤ 1024 then xs else []) ∧ s.e = (if n ≤ 1024 then 0 else 2) ∧ sc.xs = s.pc ∧ sc.e = 0 ∧ ((s.pE sc ≠ 0 ∧ v = .tuple #[.agg ⟨pkC 0 cl0 0 0 0 none 0 0 (zI 32)⟩, .int .i64 (s.pE sc)] ∧ L = []) ∨ (s.pE sc = 0 ∧ ∃ ov, OvOk 1 ov s.pbd.length (u8s s.pbd) ∧ v = .tuple #[.agg ⟨pkC s.pk (prC sc).1 s.pto s.pa s.pb (ovp ov) s.pbd.length (ovc ov s.pbd.length) s.ptg⟩, .int .i64 0] ∧ L = blkL 5 ov (u8s s.pbd)))
theorem pkparse_ok (p : Option Addr) (n cap : Nat) (xs : List Int) (hn : n = xs.length) (hbig : n ≤ 1000000000) (hb : Byt xs) (w : World) (hp : RdSl w p u8V xs) :
    CallM Tryz.prog 88 [.slice p n cap] [] w (ParsePost n xs) := by
  have hnew := fun w1 (hc : Chg [] w w1) => rnewr_ok p n cap xs hn hbig hb w1 (hp.chg' hc (fun _ => Off.nil _))
  refine enterK (tb := tb) Tryz.func88 rfl Tryz.ntmps88 rfl ?_
  repeat' (first | (apply R.is1; first | (apply R.isCall; (apply R.callE (vs := [.slice p n cap]); (iterate 3 exact rfl); exact Ext.none _; intro w1 hw1; exact hnew w1 hw1.chg; rintro v Lo ⟨br, s, M, rfl, hs1, hs2, hso, rfl⟩; rw [List.append_assoc])) | (apply R.pure; exact rfl; first | (apply Ok1.move; exact rfl) | (apply Ok1.fieldAddr; (iterate 5 exact rfl)) | (apply Ok1.load; exact rfl; (apply Ld.own1; exact rfl; exact rfl; exact At.head; exact rfl)) | (apply Ok1.assign; exact rfl) | (apply Ok1.build; (iterate 5 exact rfl))) | (apply R.alloc; (iterate 3 exact rfl); intro)) | (apply R.is0; (apply R.store; (iterate 6 exact rfl); exact Upd.head; exact rfl)) | apply R.nil | (apply T.is; first | apply T.seq | apply T.region))
  have o1 : RsO s.s1 M := hso.num 1
  have o2 : RsO s.s2 M := o1.raws 9
  have o3 : RsO s.s3 M := o2.num 2
  have o4 : RsO s.s4 M := o3.num 2
  have o5 : RsO s.s5 M := o4.num 4
  have o6 : RsO s.s6 M := o5.gb
  have o7 : RsO s.s7 M := o6.raws 32
  have k0 := hso.okB br
  have k1 := o1.okB br
  have k2 := o2.okB br
  have k3 := o3.okB br
  have k4 := o4.okB br
  have k5 := o5.okB br
  have k6 := o6.okB br
  have h1 : ∀ w1, s.ok br w1 → CallM Tryz.prog 112 [.pointer (some ⟨br, 0, none⟩), .int .i64 0] (s.L br) w1 fun v L => v = .int .i64 s.pk ∧ L = s.s1.L br := fun w1 h => rnum_ok br s 0 1 (by decide) rfl w1 h
  have h2 : ∀ w1, s.s1.ok br w1 → CallM Tryz.prog 176 [.agg ⟨[.pointer (some ⟨br, 0, none⟩)]⟩, .int .i64 9] (s.s1.L br) w1 fun v L => ∃ ov, OvOk 1 ov 9 (u8s s.pc) ∧ v = slV ov 9 ∧ L = s.s2.L br ++ blkL 5 ov (u8s s.pc) := fun w1 h => raw_ok br s.s1 9 (by decide) w1 h
  have h3 : ∀ w1, s.s2.ok br w1 → CallM Tryz.prog 112 [.pointer (some ⟨br, 0, none⟩), .int .i64 1] (s.s2.L br) w1 fun v L => v = .int .i64 s.pto ∧ L = s.s3.L br := fun w1 h => rnum_ok br s.s2 1 2 (by decide) rfl w1 h
  have h4 : ∀ w1, s.s3.ok br w1 → CallM Tryz.prog 112 [.pointer (some ⟨br, 0, none⟩), .int .i64 1] (s.s3.L br) w1 fun v L => v = .int .i64 s.pa ∧ L = s.s4.L br := fun w1 h => rnum_ok br s.s3 1 2 (by decide) rfl w1 h
  have h5 : ∀ w1, s.s4.ok br w1 → CallM Tryz.prog 112 [.pointer (some ⟨br, 0, none⟩), .int .i64 2] (s.s4.L br) w1 fun v L => v = .int .i64 s.pb ∧ L = s.s5.L br := fun w1 h => rnum_ok br s.s4 2 4 (by decide) rfl w1 h
  have h6 : ∀ w1, s.s5.ok br w1 → CallM Tryz.prog 177 [.pointer (some ⟨br, 0, none⟩), .int .i64 512] (s.s5.L br) w1 fun v L => ∃ ov, OvOk 1 ov s.pbd.length (u8s s.pbd) ∧ v = .slice (ovp ov) s.pbd.length (ovc ov s.pbd.length) ∧ L = s.s6.L br ++ blkL 5 ov (u8s s.pbd) := fun w1 h => rbytes_ok br s.s5 w1 h
  have h7 : ∀ w1, s.s6.ok br w1 → CallM Tryz.prog 176 [.agg ⟨[.pointer (some ⟨br, 0, none⟩)]⟩, .int .i64 32] (s.s6.L br) w1 fun v L => ∃ ov, OvOk 1 ov 32 (u8s s.ptg) ∧ v = slV ov 32 ∧ L = s.s7.L br ++ blkL 5 ov (u8s s.ptg) := fun w1 h => raw_ok br s.s6 32 (by decide) w1 h
  have hre := fun w1 h => rerr_ok br s.s7 w1 h
  have hrl := fun w1 h => rleft_ok br s.s7 w1 h
  have hcpb : Byt s.pc := o1.raws_byt 9
  have hcb : s.pc.length = 9 := Rs.raws_len _ _
  have htl : s.ptg.length = 32 := Rs.raws_len _ _
  have hO7 : s.s7.O = .cells ⟨[.slice s.s7.q s.s7.xs.length s.s7.cap, .int .i64 s.s7.e]⟩ 249 (0, 0) := rfl
  rw [← hO7] at hre hrl
  simp only [Rs.L_O] at *
  have hpost : ∀ (sc : Rs) (v : Value) (L : Lst), sc.xs = s.pc → sc.e = 0 → ((s.pE sc ≠ 0 ∧ v = .tuple #[.agg ⟨pkC 0 cl0 0 0 0 none 0 0 (zI 32)⟩, .int .i64 (s.pE sc)] ∧ L = []) ∨ (s.pE sc = 0 ∧ ∃ ov, OvOk 1 ov s.pbd.length (u8s s.pbd) ∧ v = .tuple #[.agg ⟨pkC s.pk (prC sc).1 s.pto s.pa s.pb (ovp ov) s.pbd.length (ovc ov s.pbd.length) s.ptg⟩, .int .i64 0] ∧ L = blkL 5 ov (u8s s.pbd))) → ParsePost n xs v L := fun sc v L a1 a2 a3 => ⟨s, sc, hs1, hs2, a1, a2, a3⟩
  have hpE : ∀ sc, s.pE sc = if s.s7.e ≠ 0 then s.s7.e else if ¬ (0 < s.pk ∧ s.pk < 15) then 13 else if (prC sc).2 ≠ 0 then 3 else if 0 < s.s7.xs.length then 3 else if pckE s.pk (prC sc).1 s.pto s.pa s.pb s.pbd.length s.ptg ≠ 0 then 3 else 0 := fun sc => rfl
  obtain ⟨PE, hPE⟩ : ∃ f : Rs → Int, f = fun sc => s.pE sc := ⟨_, rfl⟩
  have hPE2 : ∀ sc, s.pE sc = PE sc := fun sc => by rw [hPE]
  simp only [hPE2] at hpE hpost
  clear hPE hPE2 hnew hO7
  generalize s.pk = xk at *
  generalize s.pc = xc at *
  generalize s.pto = xto at *
  generalize s.pa = xa at *
  generalize s.pb = xb at *
  generalize s.pbd = xbd at *
  generalize s.ptg = xt at *
  generalize s.s7.e = e7 at *
  generalize s.s7.xs.length = l7 at *
  generalize s.s7.O = O7 at *
  generalize s.s6.O = O6 at *
  generalize s.s5.O = O5 at *
  generalize s.s4.O = O4 at *
  generalize s.s3.O = O3 at *
  generalize s.s2.O = O2 at *
  generalize s.s1.O = O1 at *
  generalize s.O = O0 at *
  repeat' (first | (apply R.is1; first | (apply R.isCall; first | (apply R.callE (Li := [(br, O0)]) (vs := [.pointer (some ⟨br, 0, none⟩), .int .i64 0]); (iterate 3 exact rfl); (focus ((repeat' (first | exact Ext.one _ _ | apply Ext.cons)); done)); intro w1 hw1; exact h1 w1 (k0 _ _ _ _ _ hw1 (by (focus ((repeat' (first | exact Ext.one _ _ | apply Ext.cons)); done))) (Ext.mem (by (focus ((repeat' (first | exact Ext.here _ _ | apply Ext.cons | apply Ext.app)); done))))); rintro v Lo ⟨rfl, rfl⟩) | (apply R.callE (Li := [(br, O1)]) (vs := [.agg ⟨[.pointer (some ⟨br, 0, none⟩)]⟩, .int .i64 9]); (iterate 3 exact rfl); (focus ((repeat' (first | exact Ext.one _ _ | apply Ext.cons)); done)); intro w1 hw1; exact h2 w1 (k1 _ _ _ _ _ hw1 (by (focus ((repeat' (first | exact Ext.one _ _ | apply Ext.cons)); done))) (Ext.mem (by (focus ((repeat' (first | exact Ext.here _ _ | apply Ext.cons | apply Ext.app)); done))))); rintro v Lo ⟨ovc9, hovc9, rfl, rfl⟩; rw [slV_eq hovc9, List.append_assoc]) | (apply R.callE (Li := [(br, O2)]) (vs := [.pointer (some ⟨br, 0, none⟩), .int .i64 1]); (iterate 3 exact rfl); (focus ((repeat' (exact Ext.one _ _)); done)); intro w1 hw1; exact h3 w1 (k2 _ _ _ _ _ hw1 (by (focus ((repeat' (exact Ext.one _ _)); done))) (Ext.mem (by (focus ((repeat' (first | exact Ext.here _ _ | apply Ext.cons | apply Ext.app)); done))))); rintro v Lo ⟨rfl, rfl⟩)) | (apply R.pure; exact rfl; first | (apply Ok1.fieldAddr; (iterate 5 exact rfl)) | (apply Ok1.load; exact rfl; first | (apply Ld.own1; exact rfl; exact rfl; (focus ((repeat' (first | exact At.head | apply At.tail | apply At.right)); done)); exact rfl) | (apply Ld.ownk; exact rfl; exact rfl; (focus ((repeat' (first | exact At.head | apply At.tail)); done)); exact rfl)) | (apply Ok1.assign; exact rfl) | (apply Ok1.build; (iterate 5 exact rfl))) | (apply R.alloc; (iterate 3 exact rfl); intro)) | (apply R.is0; (apply R.store; (iterate 6 exact rfl); (focus ((repeat' (first | exact Upd.head | apply Upd.tail | apply Upd.right)); done)); exact rfl)) | apply R.nil | (apply T.is; first | apply T.seq | apply T.region))
  rename_i b2 b4 b5
  refine T.weakK (σ' := [(2, .pointer (some ⟨b2, 0, none⟩)), (3, .int .i64 0), (4, .pointer (some ⟨b4, 0, none⟩)), (5, .pointer (some ⟨b5, 0, none⟩)), (6, .slice (ovp ovc9) 9 (ovc ovc9 9))]) (L' := (b4, .cells ⟨[.pointer (some ⟨br, 0, none⟩)]⟩ 321 (0, 0)) :: (b5, .cells ⟨pkC xk cl0 xto 0 0 none 0 0 (zI 32)⟩ 144 (0, 0)) :: (br, O3) :: (b2, .cells ⟨pkC 0 cl0 0 0 0 none 0 0 (zI 32)⟩ 144 (0, 0)) :: (blkL 5 ovc9 (u8s xc) ++ M)) ?_ (by (focus ((repeat' (first | exact Ext.one _ _ | exact Ext.here _ _ | apply Keep.cons | apply Keep.app | apply Keep.last | apply Ext.cons | apply Ext.app)); done))) ⟨rfl, rfl, rfl, rfl, rfl, trivial⟩
  repeat' (first | (apply R.is1; first | (apply R.isCall; (apply R.callE (Li := [(br, O5)]) (vs := [.pointer (some ⟨br, 0, none⟩), .int .i64 512]); (iterate 3 exact rfl); (focus ((repeat' (exact Ext.one _ _)); done)); intro w1 hw1; exact h6 w1 (k5 _ _ _ _ _ hw1 (by (focus ((repeat' (exact Ext.one _ _)); done))) (Ext.mem (by (focus ((repeat' (first | exact Ext.all _ | apply Ext.cons | apply Ext.app)); done))))); rintro v Lo ⟨ovb, hovb, rfl, rfl⟩; rw [List.append_assoc])) | (apply R.pure; exact rfl; first | (apply Ok1.fieldAddr; (iterate 5 exact rfl)) | (apply Ok1.load; exact rfl; (apply Ld.own1; exact rfl; exact rfl; (focus ((repeat' (first | exact At.head | apply At.tail)); done)); exact rfl)))) | (apply R.is0; (apply R.store; (iterate 6 exact rfl); (focus ((repeat' (first | exact Upd.head | apply Upd.tail | apply Upd.right)); done)); exact rfl)) | apply R.nil | (apply T.is; first | (apply T.drawC (id := 5) [0] (by decide); ((apply A.take 0; exact rfl; exact rfl; kernel_rfl; kernel_rfl; kernel_rfl; (apply Ok1.fieldAddr; (iterate 5 exact rfl))) <;> (apply A.take 1; exact rfl; exact rfl; kernel_rfl; kernel_rfl; kernel_rfl; (apply Ok1.load; exact rfl; (apply Ld.own1; exact rfl; exact rfl; exact At.head; exact rfl))) <;> (apply A.take 3; exact rfl; exact rfl; kernel_rfl; kernel_rfl; kernel_rfl; (apply Ok1.fieldAddr; (iterate 5 exact rfl))) <;> (apply A.take 4; exact rfl; exact rfl; kernel_rfl; kernel_rfl; kernel_rfl; (apply Ok1.load; exact rfl; (apply Ld.own1; exact rfl; exact rfl; exact At.head; exact rfl))) <;> (apply A.one 2; kernel_rfl; exact rfl; (((apply R.callE (Li := [(br, O3)]) (vs := [.pointer (some ⟨br, 0, none⟩), .int .i64 1]); (iterate 3 exact rfl); (focus ((repeat' (first | exact Ext.one _ _ | apply Ext.cons)); done)); intro w1 hw1; exact h4 w1 (k3 _ _ _ _ _ hw1 (by (focus ((repeat' (first | exact Ext.one _ _ | apply Ext.cons)); done))) (Ext.mem (by (focus ((repeat' (first | exact Ext.all _ | apply Ext.cons | apply Ext.app)); done))))); rintro v Lo ⟨rfl, rfl⟩))); apply R.nil; refine ⟨?_, ?_⟩; (focus ((repeat' (first | exact trivial | (refine ⟨?_, ?_⟩; (focus ((repeat' (first | exact At.head | apply At.tail)); done)))))))) <;> (apply A.one 5; kernel_rfl; exact rfl; (((apply R.callE (Li := [(br, O4)]) (vs := [.pointer (some ⟨br, 0, none⟩), .int .i64 2]); (iterate 3 exact rfl); (focus ((repeat' (exact Ext.one _ _)); done)); intro w1 hw1; exact h5 w1 (k4 _ _ _ _ _ hw1 (by (focus ((repeat' (exact Ext.one _ _)); done))) (Ext.mem (by (focus ((repeat' (first | exact Ext.all _ | apply Ext.cons | apply Ext.app)); done))))); rintro v Lo ⟨rfl, rfl⟩))); apply R.nil; refine ⟨?_, ?_⟩; (focus ((repeat' (first | exact trivial | (refine ⟨?_, ?_⟩; (focus ((repeat' (first | exact At.head | apply At.tail)); done)))))))) <;> (apply A.take 6; exact rfl; exact rfl; kernel_rfl; kernel_rfl; kernel_rfl; (apply Ok1.build; (iterate 5 exact rfl))) <;> (apply A.take 7; exact rfl; exact rfl; kernel_rfl; kernel_rfl; kernel_rfl; (apply Ok1.fieldAddr; (iterate 5 exact rfl))) <;> (apply A.one 8; kernel_rfl; exact rfl; (((apply R.store; (iterate 6 exact rfl); (focus ((repeat' (first | exact Upd.head | apply Upd.tail)); done)); exact rfl))); apply R.nil; refine ⟨?_, ?_⟩; (focus ((repeat' (first | exact trivial | (refine ⟨?_, ?_⟩; (focus ((repeat' (first | exact At.head | apply At.tail)); done)))))))) <;> (apply A.done; kernel_rfl))) | apply T.seq | apply T.region))
  refine T.weakK (σ' := [(2, .pointer (some ⟨b2, 0, none⟩)), (3, .int .i64 0), (4, .pointer (some ⟨b4, 0, none⟩)), (5, .pointer (some ⟨b5, 0, none⟩)), (6, .slice (ovp ovc9) 9 (ovc ovc9 9))]) (L' := (b4, .cells ⟨[.pointer (some ⟨br, 0, none⟩)]⟩ 321 (0, 0)) :: (b5, .cells ⟨pkC xk cl0 xto xa xb (ovp ovb) xbd.length (ovc ovb xbd.length) (zI 32)⟩ 144 (0, 0)) :: (br, O6) :: (b2, .cells ⟨pkC 0 cl0 0 0 0 none 0 0 (zI 32)⟩ 144 (0, 0)) :: (blkL 5 ovc9 (u8s xc) ++ (blkL 5 ovb (u8s xbd) ++ M))) ?_ (by (focus ((repeat' (first | exact Ext.one _ _ | exact Ext.here _ _ | exact Ext.all _ | apply Keep.cons | apply Keep.app | apply Keep.last | apply Ext.cons | apply Ext.app)); done))) ⟨rfl, rfl, rfl, rfl, rfl, trivial⟩
  repeat' (first | (apply R.is1; (apply R.pure; exact rfl; first | (apply Ok1.fieldAddr; (iterate 5 exact rfl)) | (apply Ok1.load; exact rfl; (apply Ld.own1; exact rfl; exact rfl; (focus ((repeat' (first | exact At.head | apply At.tail | apply At.right)); done)); exact rfl)))) | (apply T.is; first | (apply T.drawC (id := 7) [0] (by decide); ((apply A.take 0; exact rfl; exact rfl; kernel_rfl; kernel_rfl; kernel_rfl; (apply Ok1.fieldAddr; (iterate 5 exact rfl))) <;> (apply A.take 1; exact rfl; exact rfl; kernel_rfl; kernel_rfl; kernel_rfl; (apply Ok1.sliceArr; (iterate 4 exact rfl))) <;> (apply A.take 2; exact rfl; exact rfl; kernel_rfl; kernel_rfl; kernel_rfl; (apply Ok1.load; exact rfl; (apply Ld.ownk; exact rfl; exact rfl; exact At.head; exact rfl))) <;> (apply A.one 3; kernel_rfl; exact rfl; (((apply R.callE (Li := [(br, O6)]) (vs := [.agg ⟨[.pointer (some ⟨br, 0, none⟩)]⟩, .int .i64 32]); (iterate 3 exact rfl); (focus ((repeat' (first | exact Ext.one _ _ | apply Ext.cons)); done)); intro w1 hw1; exact h7 w1 (k6 _ _ _ _ _ hw1 (by (focus ((repeat' (first | exact Ext.one _ _ | apply Ext.cons)); done))) (Ext.mem (by (focus ((repeat' (first | exact Ext.all _ | apply Ext.cons | apply Ext.app)); done))))); rintro v Lo ⟨ovt, hovt, rfl, rfl⟩; rw [slV_eq hovt, List.append_assoc]))); apply R.nil; refine ⟨?_, ?_⟩; (focus ((repeat' (first | exact trivial | (refine ⟨?_, ?_⟩; (focus ((repeat' (first | exact At.head | apply At.tail | apply At.right)); done)))))))) <;> (apply A.one 4; kernel_rfl; exact rfl; (((apply R.copyAll (xs := xt) (v := u8V) (o' := 9); (iterate 7 exact rfl); exact htl.symm; exact u8V_len; (intro w1 hw1; exact RdSl.own' hw1 (Ext.mem (by rw [fl_u8]; (focus ((repeat' (first | exact Ext.here _ _ | apply Ext.cons | apply Ext.app)); done)))) (by rw [fl_u8, htl]; exact hovt) u8V_len); (rw [fl_u8]; exact u8s_one _); (rw [htl]; omega); exact rfl; (focus ((repeat' (first | exact Upd.head | apply Upd.tail | apply Upd.right)); done)); (rw [fl_u8]; exact pk_set _ _ _ _ _ _ _ _ rfl htl)))); apply R.nil; refine ⟨?_, ?_⟩; (focus ((repeat' (first | exact trivial | (refine ⟨?_, ?_⟩; (focus ((repeat' (first | exact At.head | apply At.tail | apply At.right)); done)))))))) <;> (apply A.done; kernel_rfl))) | apply T.seq | apply T.region))
  by_cases he : e7 = 0
  case neg =>
    have hD := hpE ⟨none, 0, xc, 0⟩
    rw [if_pos he] at hD
    repeat' (first | (apply R.is1; first | (apply R.isBin; (apply R.pure; exact rfl; (apply Ok1.neq_t; exact rfl; exact rfl; omega))) | (apply R.isCall; (apply R.callV (vs := [.pointer (some ⟨br, 0, none⟩)]); (iterate 3 exact rfl); intro w1 hw1; exact hre w1 (hw1.get _ _ (At.mem (by exact At.head))))) | (apply R.pure; exact rfl; first | (apply Ok1.move; exact rfl) | (apply Ok1.assign; exact rfl) | (apply Ok1.build; (iterate 5 exact rfl)))) | (apply R.is0; (apply R.store; (iterate 6 exact rfl); (focus ((repeat' (first | exact Upd.head | apply Upd.tail | apply Upd.right)); done)); exact rfl)) | apply R.nil | (apply T.is; first | apply T.seq | apply T.region | apply T.ret | (apply T.cond_t; exact rfl)))
    all_goals (apply RetOk.ct; exact rfl; (apply Ld.ownk; exact rfl; exact rfl; (focus ((repeat' (first | exact At.head | apply At.tail | apply At.right)); done)); exact rfl); exact rfl)
    all_goals exact ⟨_, by (focus ((repeat' (exact Keep.nil _)); done)), hpost ⟨none, 0, xc, 0⟩ _ _ rfl rfl (.inl ⟨by rw [hD]; exact he, by rw [hD]; rfl, rfl⟩)⟩
  subst he
  have hcp := fun w1 h => clparse_ok (ovp ovc9) 9 (ovc ovc9 9) xc hcb.symm (by decide) hcpb w1 h
  repeat' (first | (apply R.is1; first | (apply R.isBin; (apply R.pure; exact rfl; (apply Ok1.neq_f; exact rfl; exact rfl; omega))) | (apply R.isCall; first | (apply R.callV (vs := [.pointer (some ⟨br, 0, none⟩)]); (iterate 3 exact rfl); intro w1 hw1; exact hre w1 (hw1.get _ _ (At.mem (by exact At.head)))) | (apply R.callE (vs := [.slice (ovp ovc9) 9 (ovc ovc9 9)]); (iterate 3 exact rfl); exact Ext.none _; intro w1 hw1; exact hcp w1 (RdSl.own' hw1 (Ext.mem (by rw [fl_u8]; (focus ((repeat' (first | exact Ext.here _ _ | apply Ext.cons | apply Ext.app)); done)))) (by rw [fl_u8, hcb]; exact hovc9) u8V_len); rintro v Lo ⟨sc, hsc1, hsc2, rfl, rfl⟩; simp only [kvC])) | (apply R.pure; exact rfl; first | (apply Ok1.move; exact rfl) | (apply Ok1.fieldAddr; (iterate 5 exact rfl)) | (apply Ok1.assign; exact rfl) | (apply Ok1.extract; exact rfl; exact rfl))) | (apply R.is0; (apply R.store; (iterate 6 exact rfl); (focus ((repeat' (first | exact Upd.head | apply Upd.tail | apply Upd.right)); done)); exact rfl)) | apply R.nil | (apply T.is; first | (apply T.stop1 13) | apply T.seq | apply T.region | apply T.skip | (apply T.cond_f; exact rfl)))
  refine ⟨?_⟩
  have hD := hpE sc
  rw [if_neg (fun h => h rfl)] at hD
  rw [if_pos (by decide)] at hsc1 hsc2
  generalize hpr : prC sc = pr at *
  obtain ⟨cl, ec⟩ := pr
  simp only at hD
  refine T.weakK (σ' := [(2, .pointer (some ⟨b2, 0, none⟩)), (3, .int .i64 0), (4, .pointer (some ⟨b4, 0, none⟩)), (5, .pointer (some ⟨b5, 0, none⟩)), (8, .int .i64 ec)]) (L' := (b4, .cells ⟨[.pointer (some ⟨br, 0, none⟩)]⟩ 321 (0, 0)) :: (b5, .cells ⟨pkC xk cl xto xa xb (ovp ovb) xbd.length (ovc ovb xbd.length) xt⟩ 144 (0, 0)) :: (br, O7) :: (b2, .cells ⟨pkC 0 cl0 0 0 0 none 0 0 (zI 32)⟩ 144 (0, 0)) :: blkL 5 ovb (u8s xbd)) ?_ (by (focus ((repeat' (first | exact Ext.one _ _ | exact Ext.here _ _ | apply Keep.cons | apply Keep.last | apply Ext.cons | apply Ext.app)); done))) ⟨rfl, rfl, rfl, rfl, rfl, trivial⟩
  have hck := pcheck_ok xk cl xto xa xb (ovp ovb) xbd.length (ovc ovb xbd.length) xt htl
  have hkd := pkind_ok xk
  have hpl := pk_len xk cl xto xa xb (ovp ovb) xbd.length (ovc ovb xbd.length) htl
  have hpo := pk_one xk cl xto xa xb (ovp ovb) xbd.length (ovc ovb xbd.length) xt
  obtain ⟨qk, hqk⟩ : ∃ q, q = decide (0 < xk ∧ xk < 15) := ⟨_, rfl⟩
  rw [← hqk] at hkd
  have key : (qk = false ∧ PE sc = 13) ∨ (qk = true ∧ ec ≠ 0 ∧ PE sc = 3) ∨ (qk = true ∧ ec = 0 ∧ 0 < l7 ∧ PE sc = 3) ∨ (qk = true ∧ ec = 0 ∧ l7 = 0 ∧ pckE xk cl xto xa xb xbd.length xt ≠ 0 ∧ PE sc = 3) ∨ (qk = true ∧ ec = 0 ∧ l7 = 0 ∧ pckE xk cl xto xa xb xbd.length xt = 0 ∧ PE sc = 0) := by
    by_cases g1 : 0 < xk ∧ xk < 15
    case neg => rw [if_pos g1] at hD; exact .inl ⟨by rw [hqk]; exact decide_eq_false g1, hD⟩
    rw [if_neg (fun g => g g1)] at hD
    have q1 : qk = true := by rw [hqk]; exact decide_eq_true g1
    by_cases g2 : ec = 0
    case neg => rw [if_pos g2] at hD; exact .inr (.inl ⟨q1, g2, hD⟩)
    rw [if_neg (fun g => g g2)] at hD
    by_cases g3 : 0 < l7
    · rw [if_pos g3] at hD; exact .inr (.inr (.inl ⟨q1, g2, g3, hD⟩))
    rw [if_neg g3] at hD
    by_cases g4 : pckE xk cl xto xa xb xbd.length xt = 0
    · rw [if_neg (fun g => g g4)] at hD; exact .inr (.inr (.inr (.inr ⟨q1, g2, by omega, g4, hD⟩)))
    · rw [if_pos g4] at hD; exact .inr (.inr (.inr (.inl ⟨q1, g2, by omega, g4, hD⟩)))
  clear hD hqk hpE
  generalize pckE xk cl xto xa xb xbd.length xt = EE at *
  generalize hPS : PE sc = PS at *
  simp only [pkC] at hck hpl hpo ⊢
  have hfin : ∀ x : Value, True := fun _ => trivial
  rcases key with ⟨rfl, rfl⟩ | ⟨rfl, g2, rfl⟩ | ⟨rfl, rfl, g3, rfl⟩ | ⟨rfl, rfl, rfl, g4, rfl⟩ | ⟨rfl, rfl, rfl, rfl, rfl⟩
  all_goals repeat' (first | (apply R.is1; first | (apply R.isBin; first | (apply R.pure; exact rfl; first | (apply Ok1.gtr_t; exact rfl; exact rfl; omega) | (apply Ok1.gtr_f; exact rfl; exact rfl; omega) | (apply Ok1.neq_t; exact rfl; exact rfl; omega) | (apply Ok1.neq_f; exact rfl; exact rfl; omega)) | (apply R.neq rfl rfl rfl <;> intro)) | (apply R.isCall; first | apply R.callP rfl rfl rfl hkd | (apply R.callV (vs := [.pointer (some ⟨br, 0, none⟩)]); (iterate 3 exact rfl); intro w1 hw1; exact hrl w1 (hw1.get _ _ (At.mem (by (focus ((repeat' (first | exact At.head | apply At.tail)); done)))))) | apply R.callP rfl rfl rfl hck) | (apply R.pure; exact rfl; first | (apply Ok1.load; exact rfl; first | (apply Ld.own1; exact rfl; exact rfl; (focus ((repeat' (first | exact At.head | apply At.tail)); done)); exact rfl) | (apply Ld.ownk; exact rfl; exact rfl; (focus ((repeat' (first | exact At.head | apply At.tail)); done)); exact subE_all hpl)) | (apply Ok1.move; exact rfl) | (apply Ok1.fieldAddr; (iterate 5 exact rfl)) | (apply Ok1.assign; exact rfl) | (apply Ok1.build; (iterate 5 exact rfl)) | (apply Ok1.pick_t; exact rfl; exact rfl) | (apply Ok1.pick_f; exact rfl; exact rfl) | (apply Ok1.not_t; exact rfl) | (apply Ok1.not_f; exact rfl))) | (apply R.is0; first | (apply R.store; (iterate 4 exact rfl); exact hpl; exact hpo; (focus ((repeat' (first | exact Upd.head | apply Upd.tail)); done)); exact setE_all hpl) | (apply R.store; (iterate 6 exact rfl); (focus ((repeat' (first | exact Upd.head | apply Upd.tail)); done)); exact rfl)) | (apply R.isG; first | (apply R.guard_run; exact rfl; exact rfl) | (apply R.guard_not; (iterate 3 exact rfl))) | apply R.nil | (apply T.is; first | apply T.seq | apply T.region | apply T.block | apply T.skip | apply T.ret | (apply T.cond_t; exact rfl) | (apply T.cond_f; exact rfl)))
  all_goals (apply RetOk.ct; exact rfl; (first | (apply Ld.ownk; exact rfl; exact rfl; (focus ((repeat' (first | exact At.head | apply At.tail)); done)); exact rfl) | (apply Ld.ownk; exact rfl; exact rfl; (focus ((repeat' (first | exact At.head | apply At.tail)); done)); exact subE_all hpl)); exact rfl)
  all_goals first
    | exact ⟨_, by (focus ((repeat' (exact Keep.nil _)); done)), hpost sc _ _ hsc1 hsc2 (.inl ⟨by rw [hPS]; decide, by rw [hPS]; rfl, rfl⟩)⟩
    | exact ⟨_, by (focus ((repeat' (first | exact Ext.all _ | apply Keep.last | apply Ext.cons)); done)), hpost sc _ _ hsc1 hsc2 (.inr ⟨hPS, ovb, hovb, by rw [hpr]; rfl, rfl⟩)⟩
end Go.Proofs.YtidjnjlejhoalaaGreat
set_option linter.unusedSimpArgs false
set_option linter.unusedVariables false
namespace Go.Proofs.YtidjnjlejhoalaaGreat
open Go.RowKit Go.Shelf
set_option maxRecDepth 100000
theorem Rs.raws_fwd {s : Rs} {l rest : List Int} (hb : Byt l) (hs : s.xs = l ++ rest) (he : s.e = 0) : ∀ n, n ≤ l.length → (s.raws n).1 = l.take n ∧ (s.raws n).2.xs = l.drop n ++ rest ∧ (s.raws n).2.e = 0 := by
  intro n
  induction n with
  | zero => intro _; exact ⟨rfl, hs, he⟩
  | succ n ih =>
    intro hn
    obtain ⟨h1, h2, h3⟩ := ih (by omega)
    obtain ⟨x, hx⟩ : ∃ x, l[n]? = some x := ⟨_, List.getElem?_eq_getElem (by omega)⟩
    have hxb := hb x (List.mem_of_getElem? hx)
    have hd : l.drop n = x :: l.drop (n + 1) := by
      have hlt : n < l.length := by omega
      rw [List.drop_eq_getElem_cons hlt]
      rw [List.getElem?_eq_getElem hlt] at hx
      cases hx; rfl
    have hnx : numI 0 x = [x] := by show [x % 256] = [x]; congr 1; omega
    have h2' : (s.raws n).2.xs = numI 0 x ++ (l.drop (n + 1) ++ rest) := by rw [h2, hd, hnx]; rfl
    obtain ⟨a1, a2, a3⟩ := Rs.num_fwd (s := (s.raws n).2) (z := 0) (k := 1) (.inl ⟨rfl, rfl⟩) (by omega) (by omega) (by omega) (by omega) h2' h3
    refine ⟨?_, a2, a3⟩
    show (s.raws n).1 ++ [((s.raws n).2.num 1).1] = l.take (n + 1)
    rw [a1, h1, List.take_add_one, hx]; rfl
theorem Rs.gb_fwd {s : Rs} {l rest : List Int} (hl : l.length ≤ 512) (hs : s.xs = numI 1 l.length ++ (l ++ rest)) (he : s.e = 0) : s.gb.1 = l ∧ s.gb.2.xs = rest ∧ s.gb.2.e = 0 := by
  have hz : (s.num 2) = (beN (s.xs.take 2), true, s.drop 2) := by
    obtain ⟨g1, g2⟩ := be_numI (z := 1) (k := 2) (v := (l.length : Int)) (.inr (.inl ⟨rfl, rfl⟩)) (by omega) (by omega) (by omega) (by omega)
    have ht : s.xs.take 2 = numI 1 l.length := by rw [hs]; rfl
    refine Rs.num_many he (by rw [hs, List.length_append, g2]; omega) (by rw [ht, g1]; omega)
  obtain ⟨a1, a2, a3⟩ := Rs.num_fwd (s := s) (z := 1) (k := 2) (v := (l.length : Int)) (.inr (.inl ⟨rfl, rfl⟩)) (by omega) (by omega) (by omega) (by omega) hs he
  have a0 : (s.num 2).2.1 = true := by rw [hz]
  unfold Rs.gb
  rw [a0, a1, if_neg (by decide), if_neg (by omega), if_neg (by rw [a2, List.length_append]; omega), Int.toNat_natCast]
  refine ⟨by rw [a2]; exact List.take_left, ?_, a3⟩
  show ((s.num 2).2.2.xs).drop l.length = rest
  rw [a2]; exact List.drop_left
theorem prC_fwd {s : Rs} {c : Cl} (hr : c.right) (hs : s.xs = clI c) (he : s.e = 0) : prC s = (c, 0) := by
  have hs' : s.xs = clI c ++ [] := by rw [hs, List.append_nil]
  have h1 := rdC_fwd hr hs' he
  obtain ⟨_, h2, h3⟩ := Rs.c4_fwd hr hs' he
  unfold prC
  rw [h1, if_neg (fun h => h rfl)]
  have hf : s.c4.fin = 0 := by unfold Rs.fin; rw [if_neg (fun h => h h3), h2, if_neg (by decide)]
  rw [hf, if_neg (fun h => h rfl)]
theorem parse_fwd {s : Rs} {k : Int} {c : Cl} {to a b : Int} {body t : List Int} (ht : t.length = 32) (htb : Byt t) (hE : pckE k c to a b body.length t = 0) (hs : s.xs = pkB k c to a b body t) (he : s.e = 0) :
    s.pk = k ∧ s.pc = clI c ∧ s.pto = to ∧ s.pa = a ∧ s.pb = b ∧ s.pbd = body ∧ s.ptg = t ∧ s.s7.xs = [] ∧ s.s7.e = 0 := by
  obtain ⟨g1, g2, g3, g4, g5, g6⟩ := pckE_zero hE
  unfold NR at g4
  simp only [pkB, pkH, nbI, List.nil_append, List.append_assoc] at hs
  obtain ⟨a1, a2, a3⟩ := Rs.num_fwd (s := s) (z := 0) (k := 1) (.inl ⟨rfl, rfl⟩) (by omega) (by omega) (by omega) (by omega) hs he
  obtain ⟨b1, b2, b3⟩ := Rs.raws_fwd (s := s.s1) (clI_byt c) a2 a3 9 (Nat.le_refl _)
  have b2' : s.s2.xs = _ := b2
  rw [show (clI c).drop 9 = [] from rfl, List.nil_append] at b2'
  obtain ⟨c1, c2, c3⟩ := Rs.num_fwd (s := s.s2) (z := 1) (k := 2) (.inr (.inl ⟨rfl, rfl⟩)) (by omega) (by omega) (by omega) (by omega) b2' b3
  obtain ⟨d1, d2, d3⟩ := Rs.num_fwd (s := s.s3) (z := 1) (k := 2) (.inr (.inl ⟨rfl, rfl⟩)) (by omega) (by omega) (by omega) (by omega) c2 c3
  obtain ⟨e1, e2, e3⟩ := Rs.num_fwd (s := s.s4) (z := 2) (k := 4) (.inr (.inr ⟨rfl, rfl⟩)) (by omega) (by omega) (by omega) (by omega) d2 d3
  obtain ⟨f1, f2, f3⟩ := Rs.gb_fwd (s := s.s5) (l := body) g5 e2 e3
  have f2' : s.s6.xs = t ++ [] := by rw [List.append_nil]; exact f2
  obtain ⟨h1, h2, h3⟩ := Rs.raws_fwd (s := s.s6) htb f2' f3 32 (by omega)
  refine ⟨a1, ?_, c1, d1, e1, f1, ?_, ?_, h3⟩
  · exact b1
  · show (s.s6.raws 32).1 = t
    rw [h1, List.take_of_length_le (by omega)]
  · show (s.s6.raws 32).2.xs = []
    rw [h2, List.drop_of_length_le (by omega)]; rfl
theorem parse_wr (p : Option Addr) (n cap : Nat) (k : Int) (c : Cl) (to a b : Int) (body t : List Int) (ht : t.length = 32) (htb : Byt t) (hbb : Byt body) (hE : pckE k c to a b body.length t = 0) (hn : n = (pkB k c to a b body t).length) (w : World) (hp : RdSl w p u8V (pkB k c to a b body t)) :
    CallM Tryz.prog 88 [.slice p n cap] [] w fun v L => ∃ ov, OvOk 1 ov body.length (u8s body) ∧ v = .tuple #[.agg ⟨pkC k c to a b (ovp ov) body.length (ovc ov body.length) t⟩, .int .i64 0] ∧ L = blkL 5 ov (u8s body) := by
  have hz := pckE_zero hE
  have hl := pkB_len k c to a b body ht
  refine (pkparse_ok p n cap _ hn (by omega) (Byt.app (pkH_byt k c to a b hbb) htb) w hp).imp ?_
  rintro v L ⟨s, sc, h1, h2, h3, h4, h5⟩
  rw [if_pos (by omega)] at h1 h2
  obtain ⟨f1, f2, f3, f4, f5, f6, f7, f8, f9⟩ := parse_fwd ht htb hE h1 h2
  have hpr := prC_fwd hz.2.1 (by rw [h3, f2]) h4
  have hPE : s.pE sc = 0 := by
    unfold Rs.pE
    rw [if_neg (fun h => h f9), f1, if_neg (fun h => h hz.1), hpr, if_neg (fun h => h rfl), f8, if_neg (by decide), f3, f4, f5, f6, f7, if_neg (fun h => h hE)]
  rcases h5 with ⟨g, _⟩ | ⟨_, ov, hov, rfl, rfl⟩
  · exact absurd hPE g
  · rw [f6] at hov ⊢
    rw [f1, f3, f4, f5, f7, hpr]
    exact ⟨ov, hov, rfl, rfl⟩
end Go.Proofs.YtidjnjlejhoalaaGreat
set_option linter.unusedSimpArgs false
set_option linter.unusedVariables false
namespace Go.Proofs.YtidjnjlejhoalaaGreat
open Go.RowKit Go.Shelf
set_option maxRecDepth 100000
def kch : List Int := [48, 49, 50, 51, 52, 53, 54, 55, 56, 57, 97, 98, 99, 100, 101, 102]
def cch : Cl := ⟨5, 0, 0, 1⟩
theorem known16_ok : CallP Tryz.prog 25 [] (.bool true) := by
  have hkb : Byt kch := by intro x hx; simp only [kch, List.mem_cons, List.not_mem_nil, or_false] at hx; omega
  have hkl : kch.length = 16 := rfl
  have hr : cch.right := by decide
  have hsl := secret_len kch cch
  have hsb := secret_byt kch cch
  have hmk := fun bk w1 hk => make_ok cch hr bk kch (by decide) hkb w1 hk
  have hcell : u8s kch ++ [] = [.int .u8 48, .int .u8 49, .int .u8 50, .int .u8 51, .int .u8 52, .int .u8 53, .int .u8 54, .int .u8 55, .int .u8 56, .int .u8 57, .int .u8 97, .int .u8 98, .int .u8 99, .int .u8 100, .int .u8 101, .int .u8 102] := rfl
  generalize hd : secretI kch cch = d at *
  have hE0 : pckE 7 cch 6 3 (0 + 1) 0 (zI 32) = 0 := by decide
  have hnew := fun w1 => chnew_ok cch hr d hsl 3 (by unfold NR; omega) w1
  have hwr := fun bc bn br bb bd sd m1 m2 w1 a1 a2 a3 a4 => chwrite_ok bc bn br bb bd sd 275 (0, 0) cch d hsl hsb m1 m2 300 7 6 (by decide) (by decide) (by decide) 3 0 (by decide) (by decide) none 0 0 [] rfl hE0 byt_nil w1 a1 a2 a3 a4 (.inl rfl) (fun h => absurd rfl h)
  have htt : (pkT (senderI d 6) 7 cch 6 3 (0 + 1) []).length = 32 := by unfold pkT; exact hmac_len _ _
  have htb : Byt (pkT (senderI d 6) 7 cch 6 3 (0 + 1) []) := by unfold pkT; exact hmac_byt _ _
  have hE1 : pckE 7 cch 6 3 (0 + 1) ([] : List Int).length (pkT (senderI d 6) 7 cch 6 3 (0 + 1) []) = 0 := by rw [pckE_np _ (zI 32) (by decide)]; exact hE0
  have hpa := fun p n cap hn w1 h => parse_wr p n cap 7 cch 6 3 (0 + 1) [] (pkT (senderI d 6) 7 cch 6 3 (0 + 1) []) htt htb byt_nil hE1 hn w1 h
  have hl1 := fun p2 cap2 => pk_len 7 cch 6 3 (0 + 1) p2 0 cap2 htt
  have ho1 := fun p2 cap2 => pk_one 7 cch 6 3 (0 + 1) p2 0 cap2 (pkT (senderI d 6) 7 cch 6 3 (0 + 1) [])
  unfold wrI at hwr
  generalize pkT (senderI d 6) 7 cch 6 3 (0 + 1) [] = TG at *
  generalize pkB 7 cch 6 3 (0 + 1) [] TG = PB at *
  have htl := tk_len (c := cch) hsl
  have hto := tk_one cch d
  refine enterP (tb := tb) Tryz.func25 rfl Tryz.ntmps25 rfl fun w0 => ?_
  repeat' (first | (apply R.is1; first | (apply R.convSame; (iterate 6 exact rfl); exact Upd.head) | (apply R.isCall; first | (apply R.callE (vs := [.slice (some ⟨_, 0, none⟩) 16 16]); (iterate 3 exact rfl); exact Ext.none _; intro w1 hw1; exact new_ok (some ⟨_, 0, none⟩) 16 16 kch hkl.symm (by decide) w1 (RdSl.of (junk := []) hw1 (by exact At.head) (by rw [fl_u8]; exact hcell.symm)); rintro v Lo ⟨bk, ov, rfl, hov, _, rfl⟩) | (apply R.callV (vs := [.pointer (some ⟨bk, 0, none⟩), .agg _]); (iterate 3 exact rfl); intro w1 hw1; exact hmk bk w1 (KeyR.of hov hw1 (Ext.mem (by (focus ((repeat' (exact Ext.here _ _)); done)))))) | (apply R.callE (vs := [.agg ⟨tkC cch d⟩, .int .i64 3]); (iterate 3 exact rfl); exact Ext.none _; intro w1 hw1; exact hnew w1; rintro v Lo ⟨bc, bn, br, bb, bd, bm, m1, m2, sd, dr, rfl, rfl⟩; unfold ChL RL0)) | (apply R.pure; exact rfl; first | (apply Ok1.load; exact rfl; (apply Ld.ownk; exact rfl; exact rfl; exact At.head; exact subE_all htl)) | (apply Ok1.move; exact rfl) | (apply Ok1.assign; exact rfl) | (apply Ok1.build; (iterate 5 exact rfl)) | (apply Ok1.extract; exact rfl; exact rfl)) | (apply R.alloc; (iterate 3 exact rfl); intro) | (apply R.buildSlice; (iterate 12 exact rfl); intro)) | (apply R.is0; (apply R.store; (iterate 4 exact rfl); exact htl; exact hto; exact Upd.head; exact setE_all htl)) | apply R.nil | (apply T.is; first | apply T.seq | apply T.region))
  rename_i bt
  have hwr2 : ∀ (S : List Nat) (L Lr : Lst) (w1 : World), Hp w0 S L w1 → Ext L [(bn, .cells ⟨[.int .i64 3, .int .i64 0]⟩ 379 (0, 0))] Lr → (bc, .cells ⟨chC bn br bb bd sd⟩ 275 (0, 0)) ∈ Lr → (br, .cells ⟨ringC cch d m1 m2⟩ 300 (0, 0)) ∈ Lr → _ := fun S L Lr w1 hw he h1 h2 => hwr bc bn br bb bd sd m1 m2 w1 (hw.get _ _ (he.perm.subset (List.mem_append_right _ h1))) (hw.get _ _ (he.perm.subset (List.mem_append_right _ h2))) (by have := RdSl.off hw he h1; simpa [blks] using this) (by have := RdSl.off hw he h2; simpa [blks] using this)
  simp only [List.cons_append, List.nil_append, List.append_assoc]
  generalize BL bb bm [] 0 = BB at *
  generalize KL bk ov kch = KK at *
  repeat' (first | (apply R.is1; first | (apply R.isBin; first | (apply R.pure; exact rfl; (apply Ok1.eql_t; exact rfl; exact rfl; omega)) | (apply R.eqlF; (iterate 8 exact rfl); all_goals intro)) | (apply R.isCall; first | (apply R.callE (Li := [(bn, .cells ⟨[.int .i64 3, .int .i64 0]⟩ 379 (0, 0))]) (vs := [.pointer (some ⟨bc, 0, none⟩), .int .i64 7, .int .i64 6, .slice none 0 0]); (iterate 3 exact rfl); (focus ((repeat' (first | exact Ext.one _ _ | apply Ext.cons)); done)); intro w1 hw1; exact hwr2 _ _ _ w1 hw1 (by (focus ((repeat' (first | exact Ext.one _ _ | apply Ext.cons)); done))) (At.mem (by exact At.head)) (At.mem (by (focus ((repeat' (first | exact At.head | apply At.tail)); done)))); rintro v Lo ⟨ovw, hovw, rfl, rfl⟩; rw [slV_eq hovw]) | (apply R.callE (vs := [.slice (ovp ovw) PB.length (ovc ovw PB.length)]); (iterate 3 exact rfl); exact Ext.none _; intro w1 hw1; exact hpa (ovp ovw) PB.length (ovc ovw PB.length) rfl w1 (RdSl.own' hw1 (Ext.mem (by rw [fl_u8]; (focus ((repeat' (first | exact Ext.here _ _ | apply Ext.cons)); done)))) (by rw [fl_u8]; exact hovw) u8V_len); rintro v Lo ⟨ovp2, hovp2, rfl, rfl⟩; simp only [pkC])) | (apply R.pure; exact rfl; first | (apply Ok1.move; exact rfl) | (apply Ok1.fieldAddr; (iterate 5 exact rfl)) | (apply Ok1.load; exact rfl; (apply Ld.ownk; exact rfl; exact rfl; exact At.head; exact rfl)) | (apply Ok1.assign; exact rfl) | (apply Ok1.build; (iterate 5 exact rfl)) | (apply Ok1.extract; exact rfl; exact rfl) | (apply Ok1.pick_t; exact rfl; exact rfl)) | (apply R.alloc; (iterate 3 exact rfl); intro)) | (apply R.is0; (apply R.store; (iterate 4 exact rfl); exact (hl1 _ _); exact (ho1 _ _); exact Upd.head; exact setE_all (hl1 _ _))) | (apply R.isG; (apply R.guard_run; exact rfl; exact rfl)) | apply R.nil | (apply T.is; first | apply T.seq | apply T.region | apply T.ret))
  all_goals (apply RetOk.t; exact rfl)
  all_goals first | rfl | (rename_i h; exact absurd rfl h)
end Go.Proofs.YtidjnjlejhoalaaGreat
set_option linter.unusedSimpArgs false
set_option linter.unusedVariables false
namespace Go.Proofs.YtidjnjlejhoalaaGreat
open Go.ChangeShapes Go.WideShapes Go.ChangeAt Go.RowKit
theorem ownJ : ownKnob Tryz.prog.godebug = none := by kernel_rfl
theorem laidJ : laidOutB Tryz.prog = true := by kernel_rfl
theorem and_tt {a b : Bool} (h1 : a = true) (h2 : b = true) : (a && b) = true := by rw [h1, h2]; rfl
theorem joined_of {P : Program} {f : FuncId} {fn : Func} {s : ChangeSpec} {c : OpenClaim} (k0 : (c.wf (OpenSpec.ofChange s)) = true) (k1 : (laidOutB P) = true) (k2 : (mapsRowed P) = true) (k3 : (fn.params.all (P.readableRec ·)) = true) (k4 : (namedTie P c.named s.vars) = true) (k5 : (c.stops == []) = true) (k6 : (P.stops == []) = true) (k7 : (c.knobs == []) = true) (k8 : (P.stopKnobs == []) = true) (k9 : (c.inPlace == P.inPlace f) = true) (k10 : (c.unfollowed == P.unfollowed f) = true) (k11 : (c.recurses == P.recurses f) = true) (k12 : (c.named == P.varsNamed f) = true) (k13 : (c.maps == (fn.params.toList ++ s.plain.varTypes P).any (P.mapsRec ·)) = true) (k14 : (c.ifaces == (fn.params.toList ++ s.plain.varTypes P).any (P.ifacesRec ·)) = true) (k15 : (c.mapsOut == P.mapsAmong fn.resultTypes.toList) = true) (k16 : (c.loops == (fn.params.toList ++ s.plain.varTypes P).any (P.loopsFrom ·)) = true) (k17 : (c.wideKeys == (fn.params.toList ++ s.plain.varTypes P ++ fn.resultTypes.toList).any (P.wideKeysFrom ·)) = true) (k18 : (s.vars.all (P.varReadable ·)) = true) (k19 : (fn.resultTypes.all (fun t => P.readableRec t && decide (t < P.types.size))) = true) (k20 : (c.ifacesOut == fn.resultTypes.toList.any (P.ifacesRec ·)) = true) (k21 : (c.loopsOut == fn.resultTypes.toList.any (P.loopsFrom ·)) = true) (k22 : (c.plainKeys == P.plainKeys) = true) (k23 : (c.shortTexts.isNone) = true) (k24 : (P.stopsHeard) = true) (k25 : (P.mayEnter) = true) (k26 : (c.lifted == P.liftsFinal) = true) (k27 : (P.make == some c.make) = true) (k28 : (c.kinds == (if c.domain.isEmpty then [] else fn.params.toList.map fun t => match P.underlying t with | some (.int k) => some k | _ => none)) = true) (k29 : (c.pinned == c.pinnedBy) = true) (k30 : (c.veiled == (fn.params.toList ++ s.plain.varTypes P ++ fn.resultTypes.toList).any (P.veiledRec ·)) = true) (k31 : (c.veiledFits P fn.params.toList (fn.params.toList ++ s.plain.varTypes P ++ fn.resultTypes.toList)) = true) : joinedFacts P f fn s c = true := by
  unfold joinedFacts
  exact and_tt (and_tt (and_tt (and_tt (and_tt (and_tt (and_tt (and_tt (and_tt (and_tt (and_tt (and_tt (and_tt (and_tt (and_tt (and_tt (and_tt (and_tt (and_tt (and_tt (and_tt (and_tt (and_tt (and_tt (and_tt (and_tt (and_tt (and_tt (and_tt (and_tt (and_tt (k0) k1) k2) k3) k4) k5) k6) k7) k8) k9) k10) k11) k12) k13) k14) k15) k16) k17) k18) k19) k20) k21) k22) k23) k24) k25) k26) k27) k28) k29) k30) k31
def clKsJ : List TK := [.int .i64, .int .i64, .int .i64, .int .i64]
theorem cl_decJ : ∀ cs, allW clKsJ cs → ∃ c : Cl, c.v = cs := by
  rintro cs h
  simp only [clKsJ] at h
  match cs, h with
  | [.int k1 a, .int k2 b, .int k3 c, .int k4 d], h =>
    obtain ⟨⟨rfl, _⟩, ⟨rfl, _⟩, ⟨rfl, _⟩, ⟨rfl, _⟩, _⟩ := h
    exact ⟨⟨a, b, c, d⟩, rfl⟩
def byKsJ : List TK := [.int .u8]
theorem by_decJ : ∀ cs, allW byKsJ cs → ∃ x : Int, u8V x = cs := by
  rintro cs h
  simp only [byKsJ] at h
  match cs, h with
  | [.int k1 a], h =>
    obtain ⟨⟨rfl, _⟩, _⟩ := h
    exact ⟨a, rfl⟩
theorem byt_ofJ {xs : List Int} (h : ∀ x ∈ xs, allW byKsJ (u8V x)) : Byt xs := by
  intro x hx
  obtain ⟨⟨_, h2⟩, _⟩ := h x hx
  have e0 : IntKind.u8.min = 0 := rfl
  have e1 : IntKind.u8.max = 255 := rfl
  omega
end Go.Proofs.YtidjnjlejhoalaaGreat
set_option linter.unusedSimpArgs false
set_option linter.unusedVariables false
namespace Go.Proofs.YtidjnjlejhoalaaGreat
open Go.RowKit Go.Shelf
set_option maxRecDepth 100000
theorem to_off (br : Nat) (c : Cl) (s : List Int) (hs : s.length = 32) (m1 m2 : Nat) (e : TypeId) (n : Int) (h : n < 1 ∨ n > 65535) (w : World) (hb : w.heap[br]? = some (.cells ⟨ringC c s m1 m2⟩ e (0, 0))) :
    CallM Tryz.prog 227 [.pointer (some ⟨br, 0, none⟩), .int .i64 n] [] w fun v L => v = .tuple #[.pointer none, .int .i64 10] ∧ L = [] := by
  refine enterK (tb := tb) Tryz.func227 rfl Tryz.ntmps227 rfl ?_
  repeat' (first | (apply R.is1; first | (apply R.isBin; (apply R.pure; exact rfl; (apply Ok1.eqlP; (iterate 5 exact rfl)))) | (apply R.isCall; first | (apply R.callE (vs := [.agg ⟨tkC c s⟩]); (iterate 3 exact rfl); exact Ext.none _; intro w1 hw1; exact key_ok c s hs w1; rintro v Lo ⟨bk2, ov2, rfl, hov2, rfl⟩) | apply R.callP rfl rfl rfl (sender_off _ n h)) | (apply R.pure; exact rfl; first | (apply Ok1.load; exact rfl; apply Ld.blkk; exact rfl; exact rfl; exact hb; exact List.not_mem_nil; exact ring_tk c hs m1 m2) | (apply Ok1.move; exact rfl) | (apply Ok1.fieldAddr; (iterate 5 exact rfl)) | (apply Ok1.assign; exact rfl) | (apply Ok1.extract; exact rfl; exact rfl) | (apply Ok1.nilCheck; exact rfl))) | apply R.nil | (apply T.is; first | apply T.seq | apply T.region | apply T.skip | apply T.ret | (apply T.cond_f; exact rfl)))
  all_goals (apply RetOk.tt; exact rfl; exact rfl)
  all_goals exact ⟨_, by (focus ((repeat' (exact Keep.nil _)); done)), rfl, rfl⟩
theorem rseed_off (br : Nat) (c : Cl) (s : List Int) (hs : s.length = 32) (m1 m2 : Nat) (e : TypeId) (n : Int) (h : n < 0 ∨ n > 3) (w : World) (hb : w.heap[br]? = some (.cells ⟨ringC c s m1 m2⟩ e (0, 0))) :
    CallM Tryz.prog 226 [.pointer (some ⟨br, 0, none⟩), .int .i64 n] [] w fun v L => v = .tuple #[.pointer none, .int .i64 10] ∧ L = [] := by
  refine enterK (tb := tb) Tryz.func226 rfl Tryz.ntmps226 rfl ?_
  repeat' (first | (apply R.is1; first | (apply R.isBin; (apply R.pure; exact rfl; (apply Ok1.eqlP; (iterate 5 exact rfl)))) | (apply R.isCall; first | (apply R.callE (vs := [.agg ⟨tkC c s⟩]); (iterate 3 exact rfl); exact Ext.none _; intro w1 hw1; exact key_ok c s hs w1; rintro v Lo ⟨bk2, ov2, rfl, hov2, rfl⟩) | apply R.callP rfl rfl rfl (seed_off _ n h)) | (apply R.pure; exact rfl; first | (apply Ok1.load; exact rfl; apply Ld.blkk; exact rfl; exact rfl; exact hb; exact List.not_mem_nil; exact ring_tk c hs m1 m2) | (apply Ok1.move; exact rfl) | (apply Ok1.fieldAddr; (iterate 5 exact rfl)) | (apply Ok1.assign; exact rfl) | (apply Ok1.extract; exact rfl; exact rfl) | (apply Ok1.nilCheck; exact rfl))) | apply R.nil | (apply T.is; first | apply T.seq | apply T.region | apply T.skip | apply T.ret | (apply T.cond_f; exact rfl)))
  all_goals (apply RetOk.tt; exact rfl; exact rfl)
  all_goals exact ⟨_, by (focus ((repeat' (exact Keep.nil _)); done)), rfl, rfl⟩
theorem rseed_ok (br : Nat) (c : Cl) (s : List Int) (hs : s.length = 32) (hsb : Byt s) (m1 m2 : Nat) (e : TypeId) (n : Int) (h1 : 0 ≤ n) (h2 : n ≤ 3) (w : World) (hb : w.heap[br]? = some (.cells ⟨ringC c s m1 m2⟩ e (0, 0))) :
    CallM Tryz.prog 226 [.pointer (some ⟨br, 0, none⟩), .int .i64 n] [] w fun v L => ∃ bk' ov, v = .tuple #[.pointer (some ⟨bk', 0, none⟩), .int .i64 0] ∧ OvOk 1 ov 32 (u8s (seedI s n)) ∧ L = KL bk' ov (seedI s n) := by
  refine enterK (tb := tb) Tryz.func226 rfl Tryz.ntmps226 rfl ?_
  repeat' (first | (apply R.is1; first | (apply R.isBin; (apply R.pure; exact rfl; (apply Ok1.eqlP; (iterate 5 exact rfl)))) | (apply R.isCall; first | (apply R.callE (vs := [.agg ⟨tkC c s⟩]); (iterate 3 exact rfl); exact Ext.none _; intro w1 hw1; exact key_ok c s hs w1; rintro v Lo ⟨bk2, ov2, rfl, hov2, rfl⟩) | (apply R.callE (vs := [.pointer (some ⟨bk2, 0, none⟩), .int .i64 n]); (iterate 3 exact rfl); exact Ext.none _; intro w1 hw1; exact seed_ok bk2 s (by rw [hs]; decide) hsb n h1 h2 w1 (KeyR.of (by rw [hs]; exact hov2) hw1 (Ext.mem (by (focus ((repeat' (exact Ext.here _ _)); done))))); rintro v Lo ⟨bk3, ov3, rfl, hov3, rfl⟩)) | (apply R.pure; exact rfl; first | (apply Ok1.load; exact rfl; apply Ld.blkk; exact rfl; exact rfl; exact hb; exact List.not_mem_nil; exact ring_tk c hs m1 m2) | (apply Ok1.move; exact rfl) | (apply Ok1.fieldAddr; (iterate 5 exact rfl)) | (apply Ok1.assign; exact rfl) | (apply Ok1.extract; exact rfl; exact rfl) | (apply Ok1.nilCheck; exact rfl))) | apply R.nil | (apply T.is; first | apply T.seq | apply T.region | apply T.skip | apply T.ret | (apply T.cond_f; exact rfl)))
  all_goals (apply RetOk.tt; exact rfl; exact rfl)
  all_goals refine ⟨_, ?_, bk3, ov3, rfl, hov3, rfl⟩
  all_goals (focus ((repeat' (first | exact Ext.one _ _ | exact Ext.here _ _ | apply Keep.cons | apply Keep.last)); done))
/-- What is wrong with a kind and its place; the key for it. -/
def chE (k to : Int) : Int := if wayI k = 1 then (if 0 ≤ to ∧ to ≤ 3 then 0 else 10) else if wayI k = 3 then (if 1 ≤ to ∧ to ≤ 65535 then 0 else 10) else 13
def chK (s : List Int) (k to : Int) : List Int := if wayI k = 1 then seedI s to else senderI s to
theorem chK_len (s : List Int) (k to : Int) : (chK s k to).length = 32 := by
  unfold chK
  split <;> exact derive_len _ _ _
theorem chK_byt (s : List Int) (k to : Int) : Byt (chK s k to) := by
  unfold chK
  split <;> exact derive_byt _ _ _
def ChKey (s : List Int) (k to : Int) (v : Value) (L : Lst) : Prop := (chE k to ≠ 0 ∧ v = .tuple #[.pointer none, .int .i64 (chE k to)] ∧ L = []) ∨ (chE k to = 0 ∧ ∃ bk' ov, v = .tuple #[.pointer (some ⟨bk', 0, none⟩), .int .i64 0] ∧ OvOk 1 ov 32 (u8s (chK s k to)) ∧ L = KL bk' ov (chK s k to))
theorem chkeyG (bc bn br bb bd : Nat) (sd : List Value) (e1 : TypeId) (f1 : Nat × Nat) (c : Cl) (s : List Int) (hs : s.length = 32) (hsb : Byt s) (m1 m2 : Nat) (e : TypeId) (k to : Int) (w : World) (hc : w.heap[bc]? = some (.cells ⟨chC bn br bb bd sd⟩ e1 f1)) (hb : w.heap[br]? = some (.cells ⟨ringC c s m1 m2⟩ e (0, 0))) :
    CallM Tryz.prog 152 [.pointer (some ⟨bc, 0, none⟩), .int .i64 k, .int .i64 to] [] w (ChKey s k to) := by
  have hw := way_ok k
  unfold chC at hc
  by_cases h1 : wayI k = 1
  · rw [h1] at hw
    by_cases ht : 0 ≤ to ∧ to ≤ 3
    · have hE : chE k to = 0 := by unfold chE; rw [if_pos h1, if_pos ht]
      have hK : chK s k to = seedI s to := by unfold chK; rw [if_pos h1]
      unfold ChKey
      rw [hK]
      have hto := fun w1 (h : Chg [] w w1) => rseed_ok br c s hs hsb m1 m2 e to ht.1 ht.2 w1 (h.heap hb List.not_mem_nil)
      refine enterK (tb := tb) Tryz.func152 rfl Tryz.ntmps152 rfl ?_
      repeat' (first | (apply R.is1; first | (apply R.isBin; (apply R.pure; exact rfl; (apply Ok1.eql_t; exact rfl; exact rfl; omega))) | (apply R.isCall; first | apply R.callP rfl rfl rfl hw | (apply R.callE (vs := [.pointer (some ⟨br, 0, none⟩), .int .i64 to]); (iterate 3 exact rfl); exact Ext.none _; intro w1 hw1; exact hto w1 hw1.chg; rintro x Lo ⟨bk, ov, rfl, hov, rfl⟩)) | (apply R.pure; exact rfl; first | (apply Ok1.load; exact rfl; (apply Ld.blk1; exact rfl; exact rfl; exact hc; exact List.not_mem_nil; exact rfl)) | (apply Ok1.move; exact rfl) | (apply Ok1.fieldAddr; (iterate 5 exact rfl)) | (apply Ok1.assign; exact rfl) | (apply Ok1.extract; exact rfl; exact rfl) | (apply Ok1.nilCheck; exact rfl))) | apply R.nil | (apply T.is; first | apply T.seq | apply T.region | apply T.block | apply T.ret | (apply T.cond_t; exact rfl)))
      (apply RetOk.tt; exact rfl; exact rfl)
      exact ⟨_, by (focus ((repeat' (first | exact Ext.one _ _ | exact Ext.here _ _ | apply Keep.cons | apply Keep.last)); done)), .inr ⟨hE, bk, ov, rfl, hov, rfl⟩⟩
    · have hE : chE k to = 10 := by unfold chE; rw [if_pos h1, if_neg ht]
      have hto := fun w1 (h : Chg [] w w1) => rseed_off br c s hs m1 m2 e to (by omega) w1 (h.heap hb List.not_mem_nil)
      refine enterK (tb := tb) Tryz.func152 rfl Tryz.ntmps152 rfl ?_
      repeat' (first | (apply R.is1; first | (apply R.isBin; (apply R.pure; exact rfl; (apply Ok1.eql_t; exact rfl; exact rfl; omega))) | (apply R.isCall; first | apply R.callP rfl rfl rfl hw | (apply R.callE (vs := [.pointer (some ⟨br, 0, none⟩), .int .i64 to]); (iterate 3 exact rfl); exact Ext.none _; intro w1 hw1; exact hto w1 hw1.chg; rintro x Lo ⟨rfl, rfl⟩)) | (apply R.pure; exact rfl; first | (apply Ok1.load; exact rfl; (apply Ld.blk1; exact rfl; exact rfl; exact hc; exact List.not_mem_nil; exact rfl)) | (apply Ok1.move; exact rfl) | (apply Ok1.fieldAddr; (iterate 5 exact rfl)) | (apply Ok1.assign; exact rfl) | (apply Ok1.extract; exact rfl; exact rfl) | (apply Ok1.nilCheck; exact rfl))) | apply R.nil | (apply T.is; first | apply T.seq | apply T.region | apply T.block | apply T.ret | (apply T.cond_t; exact rfl)))
      (apply RetOk.tt; exact rfl; exact rfl)
      exact ⟨_, by (focus ((repeat' (exact Keep.nil _)); done)), .inl ⟨by rw [hE]; decide, by rw [hE], rfl⟩⟩
  by_cases h3 : wayI k = 3
  · rw [h3] at hw
    by_cases ht : 1 ≤ to ∧ to ≤ 65535
    · have hE : chE k to = 0 := by unfold chE; rw [if_neg h1, if_pos h3, if_pos ht]
      have hK : chK s k to = senderI s to := by unfold chK; rw [if_neg h1]
      unfold ChKey
      rw [hK]
      have hto := fun w1 (h : Chg [] w w1) => to_ok br c s hs hsb m1 m2 e to ht.1 ht.2 w1 (h.heap hb List.not_mem_nil)
      refine enterK (tb := tb) Tryz.func152 rfl Tryz.ntmps152 rfl ?_
      repeat' (first | (apply R.is1; first | (apply R.isBin; (apply R.pure; exact rfl; first | (apply Ok1.eql_t; exact rfl; exact rfl; omega) | (apply Ok1.eql_f; exact rfl; exact rfl; omega))) | (apply R.isCall; first | apply R.callP rfl rfl rfl hw | (apply R.callE (vs := [.pointer (some ⟨br, 0, none⟩), .int .i64 to]); (iterate 3 exact rfl); exact Ext.none _; intro w1 hw1; exact hto w1 hw1.chg; rintro x Lo ⟨bk, ov, rfl, hov, rfl⟩)) | (apply R.pure; exact rfl; first | (apply Ok1.load; exact rfl; (apply Ld.blk1; exact rfl; exact rfl; exact hc; exact List.not_mem_nil; exact rfl)) | (apply Ok1.move; exact rfl) | (apply Ok1.fieldAddr; (iterate 5 exact rfl)) | (apply Ok1.assign; exact rfl) | (apply Ok1.extract; exact rfl; exact rfl) | (apply Ok1.nilCheck; exact rfl))) | apply R.nil | (apply T.is; first | apply T.seq | apply T.region | apply T.block | apply T.ret | (apply T.cond_t; exact rfl) | (apply T.cond_f; exact rfl)))
      (apply RetOk.tt; exact rfl; exact rfl)
      exact ⟨_, by (focus ((repeat' (first | exact Ext.one _ _ | exact Ext.here _ _ | apply Keep.cons | apply Keep.last)); done)), .inr ⟨hE, bk, ov, rfl, hov, rfl⟩⟩
    · have hE : chE k to = 10 := by unfold chE; rw [if_neg h1, if_pos h3, if_neg ht]
      have hto := fun w1 (h : Chg [] w w1) => to_off br c s hs m1 m2 e to (by omega) w1 (h.heap hb List.not_mem_nil)
      refine enterK (tb := tb) Tryz.func152 rfl Tryz.ntmps152 rfl ?_
      repeat' (first | (apply R.is1; first | (apply R.isBin; (apply R.pure; exact rfl; first | (apply Ok1.eql_t; exact rfl; exact rfl; omega) | (apply Ok1.eql_f; exact rfl; exact rfl; omega))) | (apply R.isCall; first | apply R.callP rfl rfl rfl hw | (apply R.callE (vs := [.pointer (some ⟨br, 0, none⟩), .int .i64 to]); (iterate 3 exact rfl); exact Ext.none _; intro w1 hw1; exact hto w1 hw1.chg; rintro x Lo ⟨rfl, rfl⟩)) | (apply R.pure; exact rfl; first | (apply Ok1.load; exact rfl; (apply Ld.blk1; exact rfl; exact rfl; exact hc; exact List.not_mem_nil; exact rfl)) | (apply Ok1.move; exact rfl) | (apply Ok1.fieldAddr; (iterate 5 exact rfl)) | (apply Ok1.assign; exact rfl) | (apply Ok1.extract; exact rfl; exact rfl) | (apply Ok1.nilCheck; exact rfl))) | apply R.nil | (apply T.is; first | apply T.seq | apply T.region | apply T.block | apply T.ret | (apply T.cond_t; exact rfl) | (apply T.cond_f; exact rfl)))
      (apply RetOk.tt; exact rfl; exact rfl)
      exact ⟨_, by (focus ((repeat' (exact Keep.nil _)); done)), .inl ⟨by rw [hE]; decide, by rw [hE], rfl⟩⟩
  · have hE : chE k to = 13 := by unfold chE; rw [if_neg h1, if_neg h3]
    generalize wayI k = wk at *
    refine enterK (tb := tb) Tryz.func152 rfl Tryz.ntmps152 rfl ?_
    repeat' (first | (apply R.is1; first | (apply R.isBin; (apply R.pure; exact rfl; (apply Ok1.eql_f; exact rfl; exact rfl; omega))) | (apply R.isCall; apply R.callP rfl rfl rfl hw) | (apply R.pure; exact rfl; first | (apply Ok1.move; exact rfl) | (apply Ok1.assign; exact rfl))) | apply R.nil | (apply T.is; first | apply T.seq | apply T.region | apply T.block | apply T.skip | apply T.ret | (apply T.cond_f; exact rfl)))
    all_goals (apply RetOk.tt; exact rfl; exact rfl)
    all_goals exact ⟨_, by (focus ((repeat' (exact Keep.nil _)); done)), .inl ⟨by rw [hE]; decide, by rw [hE], rfl⟩⟩
/-- What is wrong with what is to be written; its bytes. -/
def wrE (k to : Int) (n : Nat) : Int := if chE k to ≠ 0 then chE k to else if 512 < n then 2 else 0
def wrT (s : List Int) (k : Int) (c : Cl) (to boot n : Int) (body : List Int) : List Int := if k = 1 then zI 32 else pkT (chK s k to) k c to boot n body
def wrG (c : Cl) (s : List Int) (k to boot n : Int) (body : List Int) : List Int := pkB k c to boot n body (wrT s k c to boot n body)
theorem wrT_len (s : List Int) (k : Int) (c : Cl) (to boot n : Int) (body : List Int) : (wrT s k c to boot n body).length = 32 := by
  unfold wrT
  split
  · rfl
  · unfold pkT; exact hmac_len _ _
theorem way_kind {k : Int} (h : wayI k = 1 ∨ wayI k = 3) : 0 < k ∧ k < 15 ∧ k ≠ 2 := by
  unfold wayI at h
  (repeat' split at h) <;> omega
theorem chE_zero {k to : Int} (h : chE k to = 0) : (0 < k ∧ k < 15 ∧ k ≠ 2) ∧ 0 ≤ to ∧ to ≤ 65535 := by
  unfold chE at h
  by_cases h1 : wayI k = 1
  · rw [if_pos h1] at h
    by_cases ht : 0 ≤ to ∧ to ≤ 3
    · exact ⟨way_kind (.inl h1), by omega, by omega⟩
    · rw [if_neg ht] at h; exact absurd h (by decide)
  · rw [if_neg h1] at h
    by_cases h3 : wayI k = 3
    · rw [if_pos h3] at h
      by_cases ht : 1 ≤ to ∧ to ≤ 65535
      · exact ⟨way_kind (.inr h3), by omega, by omega⟩
      · rw [if_neg ht] at h; exact absurd h (by decide)
    · rw [if_neg h3] at h; exact absurd h (by decide)
theorem wr_check {k to : Int} {n : Nat} (h : wrE k to n = 0) {c : Cl} (hr : c.right) {boot cnt : Int} (hn : NR boot cnt) (s body : List Int) : pckE k c to boot cnt n (wrT s k c to boot cnt body) = 0 := by
  unfold wrE at h
  by_cases h0 : chE k to = 0
  · rw [if_neg (fun g => g h0)] at h
    by_cases h5 : 512 < n
    · rw [if_pos h5] at h; exact absurd h (by decide)
    obtain ⟨hk, ht⟩ := chE_zero h0
    unfold pckE
    rw [if_neg (fun g => g ⟨hk.1, hk.2.1⟩), if_neg (fun g => g ⟨hr, ht.1, ht.2, hn⟩), if_neg h5]
    by_cases h1 : k = 1
    · have : wrT s k c to boot cnt body = zI 32 := by unfold wrT; rw [if_pos h1]
      rw [this, if_neg (fun g => g.2 rfl)]
    · rw [if_neg (fun g => by have := g.1; omega)]
  · rw [if_pos h0] at h; exact absurd h h0
def ChWr (bn : Nat) (c : Cl) (s : List Int) (k to boot cnt : Int) (n : Nat) (body : List Int) (v : Value) (L : Lst) : Prop := (wrE k to n ≠ 0 ∧ v = .tuple #[.slice none 0 0, .int .i64 (wrE k to n)] ∧ L = [(bn, .cells ⟨[.int .i64 boot, .int .i64 cnt]⟩ 379 (0, 0))]) ∨ (wrE k to n = 0 ∧ ∃ ov, OvOk 1 ov (wrG c s k to boot (cnt + 1) body).length (u8s (wrG c s k to boot (cnt + 1) body)) ∧ v = .tuple #[slV ov (wrG c s k to boot (cnt + 1) body).length, .int .i64 0] ∧ L = (bn, .cells ⟨[.int .i64 boot, .int .i64 (cnt + 1)]⟩ 379 (0, 0)) :: blkL 5 ov (u8s (wrG c s k to boot (cnt + 1) body)))
theorem chwriteG (bc bn br bb bd : Nat) (sd : List Value) (e1 : TypeId) (f1 : Nat × Nat) (c : Cl) (hr : c.right) (s : List Int) (hs : s.length = 32) (hsb : Byt s) (m1 m2 : Nat) (e : TypeId) (k to : Int) (boot cnt : Int) (hnr : NR boot (cnt + 1)) (h0 : 0 ≤ cnt) (p : Option Addr) (n cap : Nat) (body : List Int) (hn : n = body.length) (hbb : Byt body) (w : World) (hc : w.heap[bc]? = some (.cells ⟨chC bn br bb bd sd⟩ e1 f1)) (hb : w.heap[br]? = some (.cells ⟨ringC c s m1 m2⟩ e (0, 0))) (hne1 : bc ≠ bn) (hne2 : br ≠ bn) (hbd : RdSl w p u8V body) (hq : body ≠ [] → Off p [bn]) :
    CallM Tryz.prog 59 [.pointer (some ⟨bc, 0, none⟩), .int .i64 k, .int .i64 to, .slice p n cap] [(bn, .cells ⟨[.int .i64 boot, .int .i64 cnt]⟩ 379 (0, 0))] w (ChWr bn c s k to boot cnt n body) := by
  have h3 : cnt < 2147483647 := by unfold NR at hnr; omega
  have hm1 : bc ∉ [bn] := by simpa using hne1
  have hm2 : br ∉ [bn] := by simpa using hne2
  have hky := fun w1 (h : Chg [bn] w w1) => chkeyG bc bn br bb bd sd e1 f1 c s hs hsb m1 m2 e k to w1 (h.heap hc hm1) (h.heap hb hm2)
  by_cases hE0 : chE k to = 0
  case neg =>
    have hw : wrE k to n = chE k to := by unfold wrE; rw [if_pos hE0]
    have hky2 := fun w1 h => (hky w1 h).imp (R' := fun v L => v = .tuple #[.pointer none, .int .i64 (chE k to)] ∧ L = []) (by rintro v L (⟨_, g⟩ | ⟨g, _⟩); exact g; exact absurd g hE0)
    clear hky
    unfold ChWr
    rw [hw]
    generalize chE k to = E at *
    refine enterK (tb := tb) Tryz.func59 rfl Tryz.ntmps59 rfl ?_
    repeat' (first | (apply R.is1; first | (apply R.isBin; (apply R.pure; exact rfl; first | (apply Ok1.eqlP; (iterate 5 exact rfl)) | (apply Ok1.neq_t; exact rfl; exact rfl; omega))) | (apply R.isCall; (apply R.callE (vs := [.pointer (some ⟨bc, 0, none⟩), .int .i64 k, .int .i64 to]); (iterate 3 exact rfl); exact Ext.none _; intro w1 hw1; exact hky2 w1 hw1.chg; rintro x Lo ⟨rfl, rfl⟩)) | (apply R.pure; exact rfl; first | (apply Ok1.move; exact rfl) | (apply Ok1.assign; exact rfl) | (apply Ok1.extract; exact rfl; exact rfl))) | apply R.nil | (apply T.is; first | apply T.seq | apply T.region | apply T.block | apply T.skip | apply T.ret | (apply T.cond_t; exact rfl) | (apply T.cond_f; exact rfl)))
    all_goals (apply RetOk.tt; exact rfl; exact rfl)
    all_goals exact ⟨_, by (focus ((repeat' (first | exact Keep.nil _ | exact Ext.one _ _ | apply Keep.cons)); done)), .inl ⟨hE0, rfl, rfl⟩⟩
  have hky2 := fun w1 h => (hky w1 h).imp (R' := fun v L => ∃ bk' ov, v = .tuple #[.pointer (some ⟨bk', 0, none⟩), .int .i64 0] ∧ OvOk 1 ov 32 (u8s (chK s k to)) ∧ L = KL bk' ov (chK s k to)) (by rintro v L (⟨g, _⟩ | ⟨_, g⟩); exact absurd hE0 g; exact g)
  clear hky
  have hKl := chK_len s k to
  have hKb := chK_byt s k to
  by_cases h5 : 512 < n
  · have hw : wrE k to n = 2 := by unfold wrE; rw [if_neg (fun g => g hE0), if_pos h5]
    unfold ChWr
    rw [hw]
    generalize chK s k to = SD at *
    refine enterK (tb := tb) Tryz.func59 rfl Tryz.ntmps59 rfl ?_
    repeat' (first | (apply R.is1; first | (apply R.isBin; (apply R.pure; exact rfl; first | (apply Ok1.eqlP; (iterate 5 exact rfl)) | (apply Ok1.gtr_t; exact rfl; exact rfl; omega) | (apply Ok1.neq_f; exact rfl; exact rfl; omega))) | (apply R.isCall; first | (apply R.callE (vs := [.pointer (some ⟨bc, 0, none⟩), .int .i64 k, .int .i64 to]); (iterate 3 exact rfl); exact Ext.none _; intro w1 hw1; exact hky2 w1 hw1.chg; rintro x Lo ⟨bk, ovk, rfl, hovk, rfl⟩) | (apply R.pure; exact rfl; (apply Ok1.lenS; (iterate 3 exact rfl)))) | (apply R.pure; exact rfl; first | (apply Ok1.move; exact rfl) | (apply Ok1.assign; exact rfl) | (apply Ok1.extract; exact rfl; exact rfl))) | apply R.nil | (apply T.is; first | apply T.seq | apply T.region | apply T.block | apply T.skip | apply T.ret | (apply T.cond_t; exact rfl) | (apply T.cond_f; exact rfl)))
    all_goals (apply RetOk.tt; exact rfl; exact rfl)
    all_goals exact ⟨_, by (focus ((repeat' (first | exact Keep.nil _ | exact Ext.one _ _ | apply Keep.cons | apply Ext.cons | apply Ext.app)); done)), .inl ⟨by decide, rfl, rfl⟩⟩
  have hw : wrE k to n = 0 := by unfold wrE; rw [if_neg (fun g => g hE0), if_neg h5]
  have hck := wr_check hw hr hnr s body
  have hwl := wrT_len s k c to boot (cnt + 1) body
  obtain ⟨hkk, htt⟩ := chE_zero hE0
  have hz : (zI 32).length = 32 := rfl
  have how := fun w1 (h : Chg [bn] w w1) => chown_ok bc bn br bb bd sd e1 f1 c s hs m1 m2 e w1 (h.heap hc hm1) (h.heap hb hm2)
  have hpl := pplain_ok k
  unfold ChWr
  rw [hw]
  unfold wrG
  by_cases h1 : k = 1
  · have hT : wrT s k c to boot (cnt + 1) body = zI 32 := by unfold wrT; rw [if_pos h1]
    rw [hT] at hck ⊢
    rw [decide_eq_true (.inl h1)] at hpl
    have hby := fun w1 (h : Chg [bn] w w1) => pbytes_ok k c to boot (cnt + 1) p n cap (zI 32) body hz hck hn w1 (hbd.chg' h hq)
    have hl1 := pk_len k c to boot (cnt + 1) p n cap hz
    have ho1 := pk_one k c to boot (cnt + 1) p n cap (zI 32)
    generalize pkB k c to boot (cnt + 1) body (zI 32) = PB at *
    generalize chK s k to = SD at *
    refine enterK (tb := tb) Tryz.func59 rfl Tryz.ntmps59 rfl ?_
    simp only [pkC] at hl1 ho1 hby
    repeat' (first | (apply R.is1; first | (apply R.isBin; (apply R.pure; exact rfl; first | (apply Ok1.eqlP; (iterate 5 exact rfl)) | (apply Ok1.gtr_f; exact rfl; exact rfl; omega) | (apply Ok1.neq_f; exact rfl; exact rfl; omega))) | (apply R.isCall; first | (apply R.callE (vs := [.pointer (some ⟨bc, 0, none⟩), .int .i64 k, .int .i64 to]); (iterate 3 exact rfl); exact Ext.none _; intro w1 hw1; exact hky2 w1 hw1.chg; rintro x Lo ⟨bk, ovk, rfl, hovk, rfl⟩) | (apply R.pure; exact rfl; (apply Ok1.lenS; (iterate 3 exact rfl)))) | (apply R.pure; exact rfl; first | (apply Ok1.load; exact rfl; (apply Ld.blk1; exact rfl; exact rfl; exact hc; exact hm1; exact rfl)) | (apply Ok1.move; exact rfl) | (apply Ok1.fieldAddr; (iterate 5 exact rfl)) | (apply Ok1.assign; exact rfl) | (apply Ok1.extract; exact rfl; exact rfl) | (apply Ok1.nilCheck; exact rfl))) | apply R.nil | (apply T.is; first | apply T.seq | apply T.region | apply T.block | apply T.skip | (apply T.cond_f; exact rfl)))
    generalize KL bk ovk SD = KK at *
    repeat' (first | (apply R.is1; first | (apply R.isBin; (apply R.pure; exact rfl; (apply Ok1.neq_f; exact rfl; exact rfl; omega))) | (apply R.isCall; (apply R.callE (Li := [(bn, .cells ⟨[.int .i64 boot, .int .i64 cnt]⟩ 379 (0, 0))]) (vs := [.pointer (some ⟨bn, 0, none⟩)]); (iterate 3 exact rfl); (focus ((repeat' (first | exact Ext.one _ _ | apply Ext.app)); done)); intro w1 hw1; exact wnext_ok bn boot cnt h0 h3 w1; rintro x Lo ⟨rfl, rfl⟩)) | (apply R.pure; exact rfl; first | (apply Ok1.move; exact rfl) | (apply Ok1.assign; exact rfl) | (apply Ok1.extract; exact rfl; exact rfl)) | (apply R.alloc; (iterate 3 exact rfl); intro)) | (apply R.is0; (apply R.store; (iterate 6 exact rfl); exact Upd.head; exact rfl)) | apply R.nil | (apply T.is; first | (apply T.drawC (id := 11) [0] (by decide); ((apply A.take 0; exact rfl; exact rfl; kernel_rfl; kernel_rfl; kernel_rfl; (apply Ok1.move; exact rfl)) <;> (apply A.take 1; exact rfl; exact rfl; kernel_rfl; kernel_rfl; kernel_rfl; (apply Ok1.move; exact rfl)) <;> (apply A.take 3; exact rfl; exact rfl; kernel_rfl; kernel_rfl; kernel_rfl; (apply Ok1.move; exact rfl)) <;> (apply A.take 4; exact rfl; exact rfl; kernel_rfl; kernel_rfl; kernel_rfl; (apply Ok1.load; exact rfl; (apply Ld.ownk; exact rfl; exact rfl; exact At.head; exact rfl))) <;> (apply A.take 5; exact rfl; exact rfl; kernel_rfl; kernel_rfl; kernel_rfl; (apply Ok1.move; exact rfl)) <;> (apply A.two 2 7; kernel_rfl; exact rfl; exact rfl; rotate_left 1; (focus (((((apply R.alloc; (iterate 3 exact rfl); intro))); apply R.nil; refine ⟨?_, ?_⟩; (focus ((repeat' (first | exact trivial | (refine ⟨?_, ?_⟩; (focus ((repeat' (first | exact At.head | apply At.tail)); done)))))))) <;> (apply A.one 2; kernel_rfl; exact rfl; (((apply R.callE (vs := [.pointer (some ⟨bc, 0, none⟩)]); (iterate 3 exact rfl); exact Ext.none _; intro w1 hw1; exact how w1 hw1.chg; rintro x Lo ⟨rfl, rfl⟩))); apply R.nil; refine ⟨?_, ?_⟩; (focus ((repeat' (first | exact trivial | (refine ⟨?_, ?_⟩; (focus ((repeat' (first | exact At.head | apply At.tail)); done)))))))) <;> (apply A.take 6; exact rfl; exact rfl; kernel_rfl; kernel_rfl; kernel_rfl; (apply Ok1.build; (iterate 5 exact rfl))) <;> (apply A.one 8; kernel_rfl; exact rfl; (((apply R.store; (iterate 6 exact rfl); exact Upd.head; exact rfl))); apply R.nil; refine ⟨?_, ?_⟩; (focus ((repeat' (first | exact trivial | (refine ⟨?_, ?_⟩; (focus ((repeat' (first | exact At.head | apply At.tail)); done)))))))) <;> (apply A.done; kernel_rfl))); rotate_right 1; (focus (((((apply R.callE (vs := [.pointer (some ⟨bc, 0, none⟩)]); (iterate 3 exact rfl); exact Ext.none _; intro w1 hw1; exact how w1 hw1.chg; rintro x Lo ⟨rfl, rfl⟩))); apply R.nil; refine ⟨?_, ?_⟩; (focus ((repeat' (first | exact trivial | (refine ⟨?_, ?_⟩; exact At.head)))))) <;> (apply A.take 6; exact rfl; exact rfl; kernel_rfl; kernel_rfl; kernel_rfl; (apply Ok1.build; (iterate 5 exact rfl))) <;> (apply A.one 7; kernel_rfl; exact rfl; (((apply R.alloc; (iterate 3 exact rfl); intro))); apply R.nil; refine ⟨?_, ?_⟩; (focus ((repeat' (first | exact trivial | (refine ⟨?_, ?_⟩; (focus ((repeat' (first | exact At.head | apply At.tail)); done)))))))) <;> (apply A.one 8; kernel_rfl; exact rfl; (((apply R.store; (iterate 6 exact rfl); exact Upd.head; exact rfl))); apply R.nil; refine ⟨?_, ?_⟩; (focus ((repeat' (first | exact trivial | (refine ⟨?_, ?_⟩; (focus ((repeat' (first | exact At.head | apply At.tail)); done)))))))) <;> (apply A.done; kernel_rfl)))))) | apply T.seq | apply T.region | apply T.skip | (apply T.cond_f; exact rfl)))
    all_goals repeat' (first | (apply R.is1; first | (apply R.isCall; first | apply R.callP rfl rfl rfl hpl | (apply R.callE (vs := [.agg _]); (iterate 3 exact rfl); exact Ext.none _; intro w1 hw1; exact hby w1 hw1.chg; rintro x Lo ⟨ovb, hovb, rfl, rfl⟩)) | (apply R.pure; exact rfl; first | (apply Ok1.load; exact rfl; (apply Ld.ownk; exact rfl; exact rfl; exact At.head; exact rfl)) | (apply Ok1.assign; exact rfl) | (apply Ok1.extract; exact rfl; exact rfl) | (apply Ok1.not_t; exact rfl))) | apply R.nil | (apply T.is; first | apply T.seq | apply T.region | apply T.skip | apply T.ret | (apply T.cond_f; exact rfl)))
    all_goals (apply RetOk.tt; exact rfl; exact rfl)
    all_goals exact ⟨_, by (focus ((repeat' (first | exact Ext.one _ _ | exact Ext.here _ _ | apply Keep.cons | apply Keep.last | apply Ext.cons | apply Ext.app)); done)), .inr ⟨rfl, ovb, hovb, rfl, rfl⟩⟩
  · have hT : wrT s k c to boot (cnt + 1) body = pkT (chK s k to) k c to boot (cnt + 1) body := by unfold wrT; rw [if_neg h1]
    have hnp : ¬ (k = 1 ∨ k = 2) := by omega
    have hE : pckE k c to boot (cnt + 1) n (zI 32) = 0 := by rw [pckE_np _ (wrT s k c to boot (cnt + 1) body) hnp]; exact hck
    rw [hT] at hck hwl ⊢
    rw [decide_eq_false hnp] at hpl
    have htg := fun bk w1 (h : Chg [bn] w w1) hK => ptagged_ok k c to boot (cnt + 1) p n cap (zI 32) body hz hnp hE hn hbb bk (chK s k to) (by rw [hKl]; decide) hKb w1 hK (hbd.chg' h hq)
    have hby := fun p2 cap2 w1 h => pbytes_ok k c to boot (cnt + 1) p2 n cap2 (pkT (chK s k to) k c to boot (cnt + 1) body) body hwl hck hn w1 h
    have hl1 := fun p2 cap2 => pk_len k c to boot (cnt + 1) p2 n cap2 hwl
    have ho1 := fun p2 cap2 => pk_one k c to boot (cnt + 1) p2 n cap2 (pkT (chK s k to) k c to boot (cnt + 1) body)
    generalize pkT (chK s k to) k c to boot (cnt + 1) body = TG at *
    generalize pkB k c to boot (cnt + 1) body TG = PB at *
    generalize hSD : chK s k to = SD at *
    refine enterK (tb := tb) Tryz.func59 rfl Tryz.ntmps59 rfl ?_
    simp only [pkC] at hl1 ho1 htg hby
    repeat' (first | (apply R.is1; first | (apply R.isBin; (apply R.pure; exact rfl; first | (apply Ok1.eqlP; (iterate 5 exact rfl)) | (apply Ok1.gtr_f; exact rfl; exact rfl; omega) | (apply Ok1.neq_f; exact rfl; exact rfl; omega))) | (apply R.isCall; first | (apply R.callE (vs := [.pointer (some ⟨bc, 0, none⟩), .int .i64 k, .int .i64 to]); (iterate 3 exact rfl); exact Ext.none _; intro w1 hw1; exact hky2 w1 hw1.chg; rintro x Lo ⟨bk, ovk, rfl, hovk, rfl⟩) | (apply R.pure; exact rfl; (apply Ok1.lenS; (iterate 3 exact rfl)))) | (apply R.pure; exact rfl; first | (apply Ok1.load; exact rfl; (apply Ld.blk1; exact rfl; exact rfl; exact hc; exact hm1; exact rfl)) | (apply Ok1.move; exact rfl) | (apply Ok1.fieldAddr; (iterate 5 exact rfl)) | (apply Ok1.assign; exact rfl) | (apply Ok1.extract; exact rfl; exact rfl) | (apply Ok1.nilCheck; exact rfl))) | apply R.nil | (apply T.is; first | apply T.seq | apply T.region | apply T.block | apply T.skip | (apply T.cond_f; exact rfl)))
    have hovk2 : OvOk 1 ovk SD.length (u8s SD) := by rw [hKl]; exact hovk
    have hkr : ∀ L w1, Hp w [bn] L w1 → (∀ z ∈ KL bk ovk SD, z ∈ L) → KeyR w1 bk SD := fun L w1 h4 h5 => KeyR.of hovk2 h4 h5
    generalize KL bk ovk SD = KK at hkr ⊢
    repeat' (first | (apply R.is1; first | (apply R.isBin; (apply R.pure; exact rfl; (apply Ok1.neq_f; exact rfl; exact rfl; omega))) | (apply R.isCall; (apply R.callE (Li := [(bn, .cells ⟨[.int .i64 boot, .int .i64 cnt]⟩ 379 (0, 0))]) (vs := [.pointer (some ⟨bn, 0, none⟩)]); (iterate 3 exact rfl); (focus ((repeat' (first | exact Ext.one _ _ | apply Ext.app)); done)); intro w1 hw1; exact wnext_ok bn boot cnt h0 h3 w1; rintro x Lo ⟨rfl, rfl⟩)) | (apply R.pure; exact rfl; first | (apply Ok1.move; exact rfl) | (apply Ok1.assign; exact rfl) | (apply Ok1.extract; exact rfl; exact rfl)) | (apply R.alloc; (iterate 3 exact rfl); intro)) | (apply R.is0; (apply R.store; (iterate 6 exact rfl); exact Upd.head; exact rfl)) | apply R.nil | (apply T.is; first | (apply T.drawC (id := 11) [0] (by decide); ((apply A.take 0; exact rfl; exact rfl; kernel_rfl; kernel_rfl; kernel_rfl; (apply Ok1.move; exact rfl)) <;> (apply A.take 1; exact rfl; exact rfl; kernel_rfl; kernel_rfl; kernel_rfl; (apply Ok1.move; exact rfl)) <;> (apply A.take 3; exact rfl; exact rfl; kernel_rfl; kernel_rfl; kernel_rfl; (apply Ok1.move; exact rfl)) <;> (apply A.take 4; exact rfl; exact rfl; kernel_rfl; kernel_rfl; kernel_rfl; (apply Ok1.load; exact rfl; (apply Ld.ownk; exact rfl; exact rfl; exact At.head; exact rfl))) <;> (apply A.take 5; exact rfl; exact rfl; kernel_rfl; kernel_rfl; kernel_rfl; (apply Ok1.move; exact rfl)) <;> (apply A.two 2 7; kernel_rfl; exact rfl; exact rfl; rotate_left 1; (focus (((((apply R.alloc; (iterate 3 exact rfl); intro))); apply R.nil; refine ⟨?_, ?_⟩; (focus ((repeat' (first | exact trivial | (refine ⟨?_, ?_⟩; (focus ((repeat' (first | exact At.head | apply At.tail)); done)))))))) <;> (apply A.one 2; kernel_rfl; exact rfl; (((apply R.callE (vs := [.pointer (some ⟨bc, 0, none⟩)]); (iterate 3 exact rfl); exact Ext.none _; intro w1 hw1; exact how w1 hw1.chg; rintro x Lo ⟨rfl, rfl⟩))); apply R.nil; refine ⟨?_, ?_⟩; (focus ((repeat' (first | exact trivial | (refine ⟨?_, ?_⟩; (focus ((repeat' (first | exact At.head | apply At.tail)); done)))))))) <;> (apply A.take 6; exact rfl; exact rfl; kernel_rfl; kernel_rfl; kernel_rfl; (apply Ok1.build; (iterate 5 exact rfl))) <;> (apply A.one 8; kernel_rfl; exact rfl; (((apply R.store; (iterate 6 exact rfl); exact Upd.head; exact rfl))); apply R.nil; refine ⟨?_, ?_⟩; (focus ((repeat' (first | exact trivial | (refine ⟨?_, ?_⟩; (focus ((repeat' (first | exact At.head | apply At.tail)); done)))))))) <;> (apply A.done; kernel_rfl))); rotate_right 1; (focus (((((apply R.callE (vs := [.pointer (some ⟨bc, 0, none⟩)]); (iterate 3 exact rfl); exact Ext.none _; intro w1 hw1; exact how w1 hw1.chg; rintro x Lo ⟨rfl, rfl⟩))); apply R.nil; refine ⟨?_, ?_⟩; (focus ((repeat' (first | exact trivial | (refine ⟨?_, ?_⟩; exact At.head)))))) <;> (apply A.take 6; exact rfl; exact rfl; kernel_rfl; kernel_rfl; kernel_rfl; (apply Ok1.build; (iterate 5 exact rfl))) <;> (apply A.one 7; kernel_rfl; exact rfl; (((apply R.alloc; (iterate 3 exact rfl); intro))); apply R.nil; refine ⟨?_, ?_⟩; (focus ((repeat' (first | exact trivial | (refine ⟨?_, ?_⟩; (focus ((repeat' (first | exact At.head | apply At.tail)); done)))))))) <;> (apply A.one 8; kernel_rfl; exact rfl; (((apply R.store; (iterate 6 exact rfl); exact Upd.head; exact rfl))); apply R.nil; refine ⟨?_, ?_⟩; (focus ((repeat' (first | exact trivial | (refine ⟨?_, ?_⟩; (focus ((repeat' (first | exact At.head | apply At.tail)); done)))))))) <;> (apply A.done; kernel_rfl)))))) | apply T.seq | apply T.region | apply T.skip | (apply T.cond_f; exact rfl)))
    all_goals repeat' (first | (apply R.is1; first | (apply R.isBin; (apply R.pure; exact rfl; (apply Ok1.neq_f; exact rfl; exact rfl; omega))) | (apply R.isCall; first | apply R.callP rfl rfl rfl hpl | (apply R.callE (vs := [.agg _, .pointer (some ⟨bk, 0, none⟩)]); (iterate 3 exact rfl); exact Ext.none _; intro w1 hw1; exact htg bk w1 hw1.chg (hkr _ w1 hw1 (Ext.mem (by (focus ((repeat' (first | exact Ext.here _ _ | apply Ext.cons | apply Ext.app)); done))))); rintro x Lo ⟨ovt, hovt, rfl, rfl⟩) | (apply R.callE (vs := [.agg _]); (iterate 3 exact rfl); exact Ext.none _; intro w1 hw1; exact hby (ovp ovt) (ovc ovt n) w1 (RdSl.own' hw1 (Ext.mem (by rw [fl_u8]; (focus ((repeat' (exact Ext.here _ _)); done)))) (by rw [fl_u8, ← hn]; exact hovt) u8V_len); rintro x Lo ⟨ovb, hovb, rfl, rfl⟩)) | (apply R.pure; exact rfl; first | (apply Ok1.load; exact rfl; first | (apply Ld.ownk; exact rfl; exact rfl; (focus ((repeat' (first | exact At.head | apply At.right)); done)); exact rfl) | (apply Ld.ownk; exact rfl; exact rfl; (focus ((repeat' (first | exact At.head | apply At.right)); done)); exact subE_all (hl1 _ _))) | (apply Ok1.move; exact rfl) | (apply Ok1.assign; exact rfl) | (apply Ok1.extract; exact rfl; exact rfl) | (apply Ok1.not_f; exact rfl))) | (apply R.is0; (apply R.store; (iterate 4 exact rfl); exact (hl1 _ _); exact (ho1 _ _); (focus ((repeat' (first | exact Upd.head | apply Upd.right)); done)); exact setE_all (hl1 _ _))) | apply R.nil | (apply T.is; first | apply T.seq | apply T.region | apply T.skip | apply T.ret | (apply T.cond_t; exact rfl) | (apply T.cond_f; exact rfl)))
    all_goals (apply RetOk.tt; exact rfl; exact rfl)
    all_goals exact ⟨_, by (focus ((repeat' (first | exact Ext.one _ _ | exact Ext.here _ _ | apply Keep.cons | apply Keep.last | apply Ext.cons | apply Ext.app)); done)), .inr ⟨rfl, ovb, hovb, rfl, rfl⟩⟩
end Go.Proofs.YtidjnjlejhoalaaGreat
set_option linter.unusedSimpArgs false
set_option linter.unusedVariables false
namespace Go.Proofs.YtidjnjlejhoalaaGreat
open Go.RowKit Go.Shelf
set_option maxRecDepth 100000
theorem vtwo_ok (n : Int) (h0 : 0 ≤ n) (h1 : n ≤ 65535) (w : World) : CallM Tryz.prog 284 [.int .i64 n] [] w fun v L => ∃ ov, OvOk 1 ov 2 (u8s (numI 1 n)) ∧ v = slV ov 2 ∧ L = blkL 5 ov (u8s (numI 1 n)) := by
  have o1 := fun w1 => vout_ok 1 (by decide) n h0 (by omega) w1
  rw [show beI (2 ^ 1) n [] = numI 1 n from rfl] at o1
  generalize numI 1 n = N at *
  refine enterK (tb := tb) Tryz.func284 rfl Tryz.ntmps284 rfl ?_
  repeat' (first | (apply R.is1; first | (apply R.isCall; (apply R.callE (vs := [.agg ⟨[.int .i64 1, .int .i64 n, .slice none 0 0]⟩]); (iterate 3 exact rfl); exact Ext.none _; intro w1 hw1; exact o1 w1; rintro v Lo ⟨ova, hova, rfl, rfl⟩)) | (apply R.pure; exact rfl; first | (apply Ok1.move; exact rfl) | (apply Ok1.assign; exact rfl) | (apply Ok1.build; (iterate 5 exact rfl)))) | apply R.nil | (apply T.is; first | apply T.seq | apply T.region | apply T.ret))
  (apply RetOk.t; exact rfl)
  exact ⟨_, by (focus ((repeat' (first | exact Ext.here _ _ | apply Keep.last)); done)), ova, hova, rfl, rfl⟩
theorem vfour_ok (n : Int) (h0 : 0 ≤ n) (h1 : n ≤ 4294967295) (w : World) : CallM Tryz.prog 285 [.int .i64 n] [] w fun v L => ∃ ov, OvOk 1 ov 4 (u8s (numI 2 n)) ∧ v = slV ov 4 ∧ L = blkL 5 ov (u8s (numI 2 n)) := by
  have o1 := fun w1 => vout_ok 2 (by decide) n h0 (by omega) w1
  rw [show beI (2 ^ 2) n [] = numI 2 n from be4 n] at o1
  generalize numI 2 n = N at *
  refine enterK (tb := tb) Tryz.func285 rfl Tryz.ntmps285 rfl ?_
  repeat' (first | (apply R.is1; first | (apply R.isCall; (apply R.callE (vs := [.agg ⟨[.int .i64 2, .int .i64 n, .slice none 0 0]⟩]); (iterate 3 exact rfl); exact Ext.none _; intro w1 hw1; exact o1 w1; rintro v Lo ⟨ova, hova, rfl, rfl⟩)) | (apply R.pure; exact rfl; first | (apply Ok1.move; exact rfl) | (apply Ok1.assign; exact rfl) | (apply Ok1.build; (iterate 5 exact rfl)))) | apply R.nil | (apply T.is; first | apply T.seq | apply T.region | apply T.ret))
  (apply RetOk.t; exact rfl)
  exact ⟨_, by (focus ((repeat' (first | exact Ext.here _ _ | apply Keep.last)); done)), ova, hova, rfl, rfl⟩
theorem pkH_form (k : Int) (c : Cl) (to a b : Int) (body : List Int) (h0 : 0 ≤ k) (h1 : k ≤ 255) : u8s (pkH k c to a b body) = ((((((u8s [k] ++ u8s (clI c)) ++ u8s (numI 1 to)) ++ u8s (numI 1 a)) ++ u8s (numI 2 b)) ++ u8s (numI 1 body.length)) ++ u8s body) := by
  have e : numI 0 k = [k] := by
    show [k % 256] = [k]
    rw [Int.emod_eq_of_lt h0 (by omega)]
  have hn : nbI a b = numI 1 a ++ numI 2 b := rfl
  unfold pkH
  rw [e, hn]
  simp only [u8s_app, List.append_assoc]
theorem ov_some9 {sz n : Nat} {ov : Ov} {xs : List Value} (h : OvOk sz ov n xs) (hn : 0 < n) : ov.isSome = true := by
  cases ov with
  | some _ => rfl
  | none =>
    have h2 : n = 0 := h.2
    omega
theorem vhead14_ok (k : Int) (c : Cl) (to a b : Int) (p : Option Addr) (n cap : Nat) (t : List Int) (body : List Int) (ht : t.length = 32) (h0 : 0 ≤ k) (h1 : k ≤ 255) (hr : c.right) (ht0 : 0 ≤ to) (ht1 : to ≤ 65535) (hnr : NR a b) (hn : n = body.length) (hl : n ≤ 512) (w : World) (hb : RdSl w p u8V body) :
    CallM Tryz.prog 233 [.agg ⟨pkC k c to a b p n cap t⟩] [] w fun v L => ∃ ov, OvOk 1 ov (20 + n) (u8s (pkH k c to a b body)) ∧ ov.isSome = true ∧ v = slV ov (20 + n) ∧ L = blkL 5 ov (u8s (pkH k c to a b body)) := by
  unfold NR at hnr
  have hf := pkH_form k c to a b body h0 h1
  rw [← hn] at hf
  rw [hf]
  have o0 := fun w1 => vcbytes_ok c hr w1
  have o1 := fun w1 => vtwo_ok to ht0 ht1 w1
  have o2 := fun w1 => vtwo_ok a (by omega) (by omega) w1
  have o3 := fun w1 => vfour_ok b (by omega) (by omega) w1
  have o4 := fun w1 => vtwo_ok n (by omega) (by omega) w1
  have hrd := fun w1 (hc : Chg [] w w1) => hb.chg' hc (fun _ => Off.nil _)
  clear hf
  generalize numI 1 to = N1 at *
  generalize numI 1 a = N2 at *
  generalize numI 2 b = N3 at *
  generalize numI 1 (n : Int) = N4 at *
  refine enterK (tb := tb) Tryz.func233 rfl Tryz.ntmps233 rfl ?_
  simp only [kvC] at o0
  repeat' (first | (apply R.is1; first | (apply R.pure; exact rfl; (apply Ok1.assign; exact rfl)) | (apply R.box; (iterate 3 exact rfl); intro)) | apply R.nil | (apply T.is; first | (apply T.stop1 1) | apply T.seq | apply T.region))
  rename_i b1
  refine ⟨?_⟩
  generalize clI c = CI at *
  generalize hPK : (⟨pkC k c to a b p n cap t⟩ : Array Value) = PK at *
  subst hPK
  repeat' ((apply T.is; first | (apply T.stop1 2) | (apply T.drawC (id := 1) [0] (by decide); ((apply A.take 0; exact rfl; exact rfl; kernel_rfl; kernel_rfl; kernel_rfl; (apply Ok1.fieldAddr; (iterate 5 exact rfl))) <;> (apply A.take 1; exact rfl; exact rfl; kernel_rfl; kernel_rfl; kernel_rfl; (apply Ok1.load; exact rfl; (apply Ld.own1; exact rfl; exact rfl; exact At.head; exact rfl))) <;> (apply A.take 2; exact rfl; exact rfl; kernel_rfl; kernel_rfl; kernel_rfl; (apply Ok1.convU8; (iterate 5 exact rfl); omega; omega)) <;> (apply A.take 4; exact rfl; exact rfl; kernel_rfl; kernel_rfl; kernel_rfl; (apply Ok1.fieldAddr; (iterate 5 exact rfl))) <;> (apply A.take 5; exact rfl; exact rfl; kernel_rfl; kernel_rfl; kernel_rfl; (apply Ok1.load; exact rfl; (apply Ld.ownk; exact rfl; exact rfl; exact At.head; exact rfl))) <;> (apply A.two 3 6; kernel_rfl; exact rfl; exact rfl; rotate_left 1; (focus (((((apply R.callE (vs := [.agg _]); (iterate 3 exact rfl); exact Ext.none _; intro w1 hw1; exact o0 w1; rintro v Lo ⟨ovq, hovq, rfl, rfl⟩))); apply R.nil; refine ⟨?_, ?_⟩; (focus ((repeat' (first | exact trivial | (refine ⟨?_, ?_⟩; (focus ((repeat' (first | exact At.head | apply At.right)); done)))))))) <;> (apply A.one 3; kernel_rfl; exact rfl; (((apply R.buildSlice; (iterate 12 exact rfl); intro))); apply R.nil; refine ⟨?_, ?_⟩; (focus ((repeat' (first | exact trivial | (refine ⟨?_, ?_⟩; (focus ((repeat' (first | exact At.head | apply At.tail | apply At.right)); done)))))))) <;> (apply A.one 7; kernel_rfl; exact rfl; (((apply R.appendSl (ov := some (_, 0, [])) (n := 1) (old := u8s [k]) (ov2 := ovq) (m := 9) (news := u8s CI) (e3 := 5); (iterate 12 exact rfl); exact ⟨rfl, rfl⟩; exact hovq; (focus ((repeat' (exact Ext.one _ _)); done)); exact Ext.mem (by (focus ((repeat' (first | exact Ext.here _ _ | apply Ext.cons)); done))); exact u8s_one _; omega; intro ov1 hov1))); apply R.nil; refine ⟨?_, ?_⟩; (focus ((repeat' (first | exact trivial | (refine ⟨?_, ?_⟩; (focus ((repeat' (first | exact At.head | apply At.right)); done)))))))) <;> (apply A.take 8; exact rfl; exact rfl; kernel_rfl; kernel_rfl; kernel_rfl; (apply Ok1.assign; exact rfl)) <;> (apply A.done; kernel_rfl))); rotate_right 1; (focus (((((apply R.buildSlice; (iterate 12 exact rfl); intro))); apply R.nil; refine ⟨?_, ?_⟩; (focus ((repeat' (first | exact trivial | (refine ⟨?_, ?_⟩; (focus ((repeat' (first | exact At.head | apply At.tail)); done)))))))) <;> (apply A.one 6; kernel_rfl; exact rfl; (((apply R.callE (vs := [.agg _]); (iterate 3 exact rfl); exact Ext.none _; intro w1 hw1; exact o0 w1; rintro v Lo ⟨ovq, hovq, rfl, rfl⟩))); apply R.nil; refine ⟨?_, ?_⟩; (focus ((repeat' (first | exact trivial | (refine ⟨?_, ?_⟩; (focus ((repeat' (first | exact At.head | apply At.tail | apply At.right)); done)))))))) <;> (apply A.one 7; kernel_rfl; exact rfl; (((apply R.appendSl (ov := some (_, 0, [])) (n := 1) (old := u8s [k]) (ov2 := ovq) (m := 9) (news := u8s CI) (e3 := 5); (iterate 12 exact rfl); exact ⟨rfl, rfl⟩; exact hovq; (focus ((repeat' (first | exact Ext.one _ _ | apply Ext.app)); done)); exact Ext.mem (by (focus ((repeat' (exact Ext.here _ _)); done))); exact u8s_one _; omega; intro ov1 hov1))); apply R.nil; refine ⟨?_, ?_⟩; (focus ((repeat' (first | exact trivial | (refine ⟨?_, ?_⟩; (focus ((repeat' (first | exact At.head | apply At.right)); done)))))))) <;> (apply A.take 8; exact rfl; exact rfl; kernel_rfl; kernel_rfl; kernel_rfl; (apply Ok1.assign; exact rfl)) <;> (apply A.done; kernel_rfl)))))) | apply T.seq))
  all_goals refine ⟨?_⟩
  all_goals refine T.weakK (σ' := [(1, .pointer (some ⟨b1, 0, none⟩)), (3, slV ov1 (1 + 9))]) (L' := (b1, .cells ⟨pkC k c to a b p n cap t⟩ 172 (0, 0)) :: blkL 5 ov1 (u8s [k] ++ u8s CI)) ?_ (by (focus ((repeat' (first | exact Ext.one _ _ | exact Ext.here _ _ | apply Keep.cons | apply Keep.last | apply Ext.app)); done))) ⟨rfl, rfl, trivial⟩
  all_goals generalize hA1 : u8s [k] ++ u8s CI = A1 at *
  all_goals repeat' ((apply T.is; first | (apply T.stop1 3) | (apply T.drawC (id := 2) [0] (by decide); ((apply A.take 0; exact rfl; exact rfl; kernel_rfl; kernel_rfl; kernel_rfl; (apply Ok1.move; exact rfl)) <;> (apply A.take 1; exact rfl; exact rfl; kernel_rfl; kernel_rfl; kernel_rfl; (apply Ok1.fieldAddr; (iterate 5 exact rfl))) <;> (apply A.take 2; exact rfl; exact rfl; kernel_rfl; kernel_rfl; kernel_rfl; (apply Ok1.load; exact rfl; (apply Ld.own1; exact rfl; exact rfl; exact At.head; exact rfl))) <;> (apply A.take 5; exact rfl; exact rfl; kernel_rfl; kernel_rfl; kernel_rfl; (apply Ok1.fieldAddr; (iterate 5 exact rfl))) <;> (apply A.take 6; exact rfl; exact rfl; kernel_rfl; kernel_rfl; kernel_rfl; (apply Ok1.fieldAddr; (iterate 5 exact rfl))) <;> (apply A.take 7; exact rfl; exact rfl; kernel_rfl; kernel_rfl; kernel_rfl; (apply Ok1.load; exact rfl; (apply Ld.own1; exact rfl; exact rfl; exact At.head; exact rfl))) <;> (apply A.one 3; kernel_rfl; exact rfl; (((apply R.callE (vs := [.int .i64 to]); (iterate 3 exact rfl); exact Ext.none _; intro w1 hw1; exact o1 w1; rintro v Lo ⟨ovq, hovq, rfl, rfl⟩))); apply R.nil; refine ⟨?_, ?_⟩; (focus ((repeat' (first | exact trivial | (refine ⟨?_, ?_⟩; (focus ((repeat' (first | exact At.head | apply At.right)); done)))))))) <;> (apply A.one 4; kernel_rfl; exact rfl; (((apply R.appendSl (ov := ov1) (n := 1 + 9) (old := A1) (ov2 := ovq) (m := 2) (news := u8s N1) (e3 := 5); (iterate 12 exact rfl); exact hov1; exact hovq; (focus ((repeat' (first | exact Ext.all _ | apply Ext.cons | apply Ext.app)); done)); exact Ext.mem (by (focus ((repeat' (exact Ext.here _ _)); done))); exact u8s_one _; omega; intro ov2 hov2))); apply R.nil; refine ⟨?_, ?_⟩; (focus ((repeat' (first | exact trivial | (refine ⟨?_, ?_⟩; (focus ((repeat' (first | exact At.head | apply At.right)); done)))))))) <;> (apply A.one 8; kernel_rfl; exact rfl; (((apply R.callE (vs := [.int .i64 a]); (iterate 3 exact rfl); exact Ext.none _; intro w1 hw1; exact o2 w1; rintro v Lo ⟨ovr, hovr, rfl, rfl⟩))); apply R.nil; refine ⟨?_, ?_⟩; (focus ((repeat' (first | exact trivial | (refine ⟨?_, ?_⟩; (focus ((repeat' (first | exact At.head | apply At.right)); done)))))))) <;> (apply A.one 9; kernel_rfl; exact rfl; (((apply R.appendSl (ov := ov2) (n := 1 + 9 + 2) (old := A1 ++ u8s N1) (ov2 := ovr) (m := 2) (news := u8s N2) (e3 := 5); (iterate 12 exact rfl); exact hov2; exact hovr; (focus ((repeat' (first | exact Ext.here _ _ | apply Ext.app)); done)); exact Ext.mem (by (focus ((repeat' (exact Ext.here _ _)); done))); exact u8s_one _; omega; intro ov3 hov3))); apply R.nil; refine ⟨?_, ?_⟩; (focus ((repeat' (first | exact trivial | (refine ⟨?_, ?_⟩; (focus ((repeat' (first | exact At.head | apply At.right)); done)))))))) <;> (apply A.take 10; exact rfl; exact rfl; kernel_rfl; kernel_rfl; kernel_rfl; (apply Ok1.assign; exact rfl)) <;> (apply A.done; kernel_rfl))) | apply T.seq))
  all_goals refine ⟨?_⟩
  all_goals refine T.weakK (σ' := [(1, .pointer (some ⟨b1, 0, none⟩)), (3, slV ov3 (1 + 9 + 2 + 2))]) (L' := (b1, .cells ⟨pkC k c to a b p n cap t⟩ 172 (0, 0)) :: blkL 5 ov3 (A1 ++ u8s N1 ++ u8s N2)) ?_ (by (focus ((repeat' (first | exact Ext.one _ _ | exact Ext.here _ _ | apply Keep.cons | apply Keep.last | apply Ext.app)); done))) ⟨rfl, rfl, trivial⟩
  all_goals generalize hA2 : A1 ++ u8s N1 ++ u8s N2 = A2 at *
  all_goals repeat' ((apply T.is; first | (apply T.stop1 4) | (apply T.drawC (id := 3) [0] (by decide); ((apply A.take 0; exact rfl; exact rfl; kernel_rfl; kernel_rfl; kernel_rfl; (apply Ok1.move; exact rfl)) <;> (apply A.take 1; exact rfl; exact rfl; kernel_rfl; kernel_rfl; kernel_rfl; (apply Ok1.fieldAddr; (iterate 5 exact rfl))) <;> (apply A.take 2; exact rfl; exact rfl; kernel_rfl; kernel_rfl; kernel_rfl; (apply Ok1.fieldAddr; (iterate 5 exact rfl))) <;> (apply A.take 3; exact rfl; exact rfl; kernel_rfl; kernel_rfl; kernel_rfl; (apply Ok1.load; exact rfl; (apply Ld.own1; exact rfl; exact rfl; exact At.head; exact rfl))) <;> (apply A.take 6; exact rfl; exact rfl; kernel_rfl; kernel_rfl; kernel_rfl; (apply Ok1.fieldAddr; (iterate 5 exact rfl))) <;> (apply A.take 7; exact rfl; exact rfl; kernel_rfl; kernel_rfl; kernel_rfl; (apply Ok1.load; exact rfl; (apply Ld.own1; exact rfl; exact rfl; exact At.head; exact rfl))) <;> (apply A.take 8; exact rfl; exact rfl; kernel_rfl; kernel_rfl; kernel_rfl; (apply Ok1.lenS; (iterate 3 exact rfl))) <;> (apply A.one 4; kernel_rfl; exact rfl; (((apply R.callE (vs := [.int .i64 b]); (iterate 3 exact rfl); exact Ext.none _; intro w1 hw1; exact o3 w1; rintro v Lo ⟨ovq, hovq, rfl, rfl⟩))); apply R.nil; refine ⟨?_, ?_⟩; (focus ((repeat' (first | exact trivial | (refine ⟨?_, ?_⟩; (focus ((repeat' (first | exact At.head | apply At.right)); done)))))))) <;> (apply A.one 5; kernel_rfl; exact rfl; (((apply R.appendSl (ov := ov3) (n := 1 + 9 + 2 + 2) (old := A2) (ov2 := ovq) (m := 4) (news := u8s N3) (e3 := 5); (iterate 12 exact rfl); exact hov3; exact hovq; (focus ((repeat' (first | exact Ext.all _ | apply Ext.cons | apply Ext.app)); done)); exact Ext.mem (by (focus ((repeat' (exact Ext.here _ _)); done))); exact u8s_one _; omega; intro ov4 hov4))); apply R.nil; refine ⟨?_, ?_⟩; (focus ((repeat' (first | exact trivial | (refine ⟨?_, ?_⟩; (focus ((repeat' (first | exact At.head | apply At.right)); done)))))))) <;> (apply A.one 9; kernel_rfl; exact rfl; (((apply R.callE (vs := [.int .i64 n]); (iterate 3 exact rfl); exact Ext.none _; intro w1 hw1; exact o4 w1; rintro v Lo ⟨ovr, hovr, rfl, rfl⟩))); apply R.nil; refine ⟨?_, ?_⟩; (focus ((repeat' (first | exact trivial | (refine ⟨?_, ?_⟩; (focus ((repeat' (first | exact At.head | apply At.right)); done)))))))) <;> (apply A.one 10; kernel_rfl; exact rfl; (((apply R.appendSl (ov := ov4) (n := 1 + 9 + 2 + 2 + 4) (old := A2 ++ u8s N3) (ov2 := ovr) (m := 2) (news := u8s N4) (e3 := 5); (iterate 12 exact rfl); exact hov4; exact hovr; (focus ((repeat' (first | exact Ext.here _ _ | apply Ext.app)); done)); exact Ext.mem (by (focus ((repeat' (exact Ext.here _ _)); done))); exact u8s_one _; omega; intro ov5 hov5))); apply R.nil; refine ⟨?_, ?_⟩; (focus ((repeat' (first | exact trivial | (refine ⟨?_, ?_⟩; (focus ((repeat' (first | exact At.head | apply At.right)); done)))))))) <;> (apply A.take 11; exact rfl; exact rfl; kernel_rfl; kernel_rfl; kernel_rfl; (apply Ok1.assign; exact rfl)) <;> (apply A.done; kernel_rfl))) | apply T.seq))
  all_goals refine ⟨?_⟩
  all_goals refine T.weakK (σ' := [(1, .pointer (some ⟨b1, 0, none⟩)), (3, slV ov5 20)]) (L' := (b1, .cells ⟨pkC k c to a b p n cap t⟩ 172 (0, 0)) :: blkL 5 ov5 (A2 ++ u8s N3 ++ u8s N4)) ?_ (by (focus ((repeat' (first | exact Ext.one _ _ | exact Ext.here _ _ | apply Keep.cons | apply Keep.last | apply Ext.app)); done))) ⟨rfl, rfl, trivial⟩
  all_goals generalize hA3 : A2 ++ u8s N3 ++ u8s N4 = A3 at *
  all_goals have hso : ov5.isSome = true := ov_some9 hov5 (by decide)
  all_goals repeat' (first | (apply R.is1; first | (apply R.isCall; (apply R.appendRd (xs := body) (v := u8V) (sz := 1) (ov := ov5) (n := 20) (m := n) (old := A3); (iterate 12 exact rfl); exact hov5; (focus ((repeat' (first | exact Ext.all _ | apply Ext.cons)); done)); exact hn; exact u8V_len; exact rfl; (intro w1 hw1; exact hrd w1 hw1.chg); (focus (rw [fl_u8]; exact u8s_one _)); omega; intro ov6 hov6 hsome; rw [fl_u8]; rw [fl_u8] at hov6)) | (apply R.pure; exact rfl; first | (apply Ok1.load; exact rfl; (apply Ld.own1; exact rfl; exact rfl; exact At.head; exact rfl)) | (apply Ok1.move; exact rfl) | (apply Ok1.fieldAddr; (iterate 5 exact rfl)) | (apply Ok1.assign; exact rfl))) | apply R.nil | (apply T.is; first | apply T.seq | apply T.region | apply T.ret))
  all_goals (apply RetOk.t; exact rfl)
  all_goals subst hA3 hA2 hA1
  all_goals exact ⟨_, by (focus ((repeat' (first | exact Ext.here _ _ | apply Keep.last)); done)), ov6, hov6, hsome hso, rfl, rfl⟩
theorem vtag14_ok (pk : Option Addr) (nk ck : Nat) (key : List Int) (hkn : nk = key.length) (hkl : nk ≤ 999999000) (hkb : Byt key) (k : Int) (c : Cl) (to a b : Int) (p : Option Addr) (n cap : Nat) (t : List Int) (body : List Int) (ht : t.length = 32) (h0 : 0 ≤ k) (h1 : k ≤ 255) (hr : c.right) (ht0 : 0 ≤ to) (ht1 : to ≤ 65535) (hnr : NR a b) (hn : n = body.length) (hl : n ≤ 512) (hbb : Byt body) (w : World) (hk : RdSl w pk u8V key) (hb : RdSl w p u8V body) :
    CallM Tryz.prog 159 [.agg ⟨tabV⟩, .slice pk nk ck, .agg ⟨pkC k c to a b p n cap t⟩] [] w fun v L => v = .agg ⟨u8s (pkT key k c to a b body)⟩ ∧ L = [] := by
  have htl := tab_len
  have hh := fun w1 (hc : Chg [] w w1) => vhead14_ok k c to a b p n cap t body ht h0 h1 hr ht0 ht1 hnr hn hl w1 (hb.chg' hc (fun _ => Off.nil _))
  have hHl := pkH_len k c to a b body
  have hHb := pkH_byt k c to a b hbb
  have htg := fun ph ch w1 (hc : Chg [] w w1) h => vtag_ok pk nk ck key hkn hkl hkb ph (20 + n) ch (pkH k c to a b body) (by rw [hHl, hn]) hHb (by omega) w1 (hk.chg' hc (fun _ => Off.nil _)) h
  have hpl := pk_len k c to a b p n cap ht
  have hmt : (u8s (pkT key k c to a b body)).length = 32 := by rw [u8s_len]; unfold pkT; exact hmac_len _ _
  replace htg : ∀ ph ch w1 (hc : Chg [] w w1) h, _ := htg
  rw [show hmacI key (pkH k c to a b body) = pkT key k c to a b body from rfl] at htg
  generalize pkT key k c to a b body = TG at *
  generalize hHH : pkH k c to a b body = HH at *
  generalize tabV = tbl at *
  generalize pkC k c to a b p n cap t = PK at *
  refine enterK (tb := tb) Tryz.func159 rfl Tryz.ntmps159 rfl ?_
  repeat' (first | (apply R.is1; first | (apply R.box; (iterate 3 exact rfl); intro) | (apply R.alloc; (iterate 3 exact rfl); intro)) | apply R.nil | (apply T.is; first | (apply T.drawC (id := 1) [1,2] (by decide); ((apply A.take 0; exact rfl; exact rfl; kernel_rfl; kernel_rfl; kernel_rfl; (apply Ok1.load; exact rfl; (apply Ld.ownk; exact rfl; exact rfl; (focus ((repeat' (first | exact At.head | apply At.tail)); done)); exact subE_all htl))) <;> (apply A.take 1; exact rfl; exact rfl; kernel_rfl; kernel_rfl; kernel_rfl; (apply Ok1.move; exact rfl)) <;> (apply A.take 2; exact rfl; exact rfl; kernel_rfl; kernel_rfl; kernel_rfl; (apply Ok1.load; exact rfl; (apply Ld.ownk; exact rfl; exact rfl; exact At.head; exact subE_all hpl))) <;> (apply A.one 3; kernel_rfl; exact rfl; (((apply R.callE (vs := [.agg ⟨PK⟩]); (iterate 3 exact rfl); exact Ext.none _; intro w1 hw1; exact hh w1 hw1.chg; rintro v Lo ⟨ovh, hovh, hsh, rfl, rfl⟩; rw [slV_eq hovh]))); apply R.nil; refine ⟨?_, ?_⟩; (focus ((repeat' (first | exact trivial | (refine ⟨?_, ?_⟩; (focus ((repeat' (first | exact At.head | apply At.tail | apply At.right)); done)))))))) <;> (apply A.one 4; kernel_rfl; exact rfl; (((apply R.callV (vs := [.agg ⟨tbl⟩, .slice pk nk ck, .slice (ovp ovh) (20 + n) (ovc ovh (20 + n))]); (iterate 3 exact rfl); intro w1 hw1; exact htg _ _ w1 hw1.chg (RdSl.own' hw1 (Ext.mem (by rw [fl_u8]; (focus ((repeat' (exact Ext.here _ _)); done)))) (by rw [fl_u8, hHl, ← hn]; exact hovh) u8V_len)))); apply R.nil; refine ⟨?_, ?_⟩; (focus ((repeat' (first | exact trivial | (refine ⟨?_, ?_⟩; (focus ((repeat' (first | exact At.head | apply At.tail | apply At.right)); done)))))))) <;> (apply A.one 5; kernel_rfl; exact rfl; (((apply R.store; (iterate 4 exact rfl); exact hmt; exact u8s_one _; (focus ((repeat' (first | exact Upd.head | apply Upd.right)); done)); exact setE_all hmt))); apply R.nil; refine ⟨?_, ?_⟩; (focus ((repeat' (first | exact trivial | (refine ⟨?_, ?_⟩; (focus ((repeat' (first | exact At.head | apply At.tail | apply At.right)); done)))))))) <;> (apply A.done; kernel_rfl))) | apply T.seq | apply T.region | apply T.ret))
  all_goals (apply RetOk.c; exact rfl; (apply Ld.ownk; exact rfl; exact rfl; (focus ((repeat' (first | exact At.head | apply At.right)); done)); exact subE_all hmt))
  all_goals exact ⟨_, by (focus ((repeat' (exact Keep.nil _)); done)), rfl, rfl⟩
theorem vbytes14_ok (k : Int) (c : Cl) (to a b : Int) (p : Option Addr) (n cap : Nat) (t : List Int) (body : List Int) (ht : t.length = 32) (h0 : 0 ≤ k) (h1 : k ≤ 255) (hr : c.right) (ht0 : 0 ≤ to) (ht1 : to ≤ 65535) (hnr : NR a b) (hn : n = body.length) (hl : n ≤ 512) (w : World) (hb : RdSl w p u8V body) :
    CallM Tryz.prog 160 [.agg ⟨pkC k c to a b p n cap t⟩] [] w fun v L => ∃ ov, OvOk 1 ov (pkB k c to a b body t).length (u8s (pkB k c to a b body t)) ∧ v = slV ov (pkB k c to a b body t).length ∧ L = blkL 5 ov (u8s (pkB k c to a b body t)) := by
  have hh := fun w1 (hc : Chg [] w w1) => vhead14_ok k c to a b p n cap t body ht h0 h1 hr ht0 ht1 hnr hn hl w1 (hb.chg' hc (fun _ => Off.nil _))
  have hpB : u8s (pkB k c to a b body t) = u8s (pkH k c to a b body) ++ u8s t := u8s_app _ _
  have hpBl : (pkB k c to a b body t).length = 20 + n + 32 := by rw [pkB_len _ _ _ _ _ _ ht, hn]; omega
  rw [hpB, hpBl]
  have hpl := pk_len k c to a b p n cap ht
  generalize hHH : pkH k c to a b body = HH at *
  clear hpB hpBl hHH
  refine enterK (tb := tb) Tryz.func160 rfl Tryz.ntmps160 rfl ?_
  simp only [pkC] at hh hpl ⊢
  repeat' (first | (apply R.is1; first | (apply R.pure; exact rfl; (apply Ok1.assign; exact rfl)) | (apply R.box; (iterate 3 exact rfl); intro)) | apply R.nil | (apply T.is; first | (apply T.drawC (id := 1) [0] (by decide); ((apply A.take 0; exact rfl; exact rfl; kernel_rfl; kernel_rfl; kernel_rfl; (apply Ok1.load; exact rfl; (apply Ld.ownk; exact rfl; exact rfl; exact At.head; exact subE_all hpl))) <;> (apply A.take 2; exact rfl; exact rfl; kernel_rfl; kernel_rfl; kernel_rfl; (apply Ok1.fieldAddr; (iterate 5 exact rfl))) <;> (apply A.take 3; exact rfl; exact rfl; kernel_rfl; kernel_rfl; kernel_rfl; (apply Ok1.sliceArr; (iterate 4 exact rfl))) <;> (apply A.one 1; kernel_rfl; exact rfl; (((apply R.callE; (iterate 3 exact rfl); exact Ext.none _; intro w1 hw1; exact hh w1 hw1.chg; rintro v Lo ⟨ovh, hovh, hsh, rfl, rfl⟩))); apply R.nil; refine ⟨?_, ?_⟩; (focus ((repeat' (first | exact trivial | (refine ⟨?_, ?_⟩; (focus ((repeat' (first | exact At.head | apply At.right)); done)))))))) <;> (apply A.one 4; kernel_rfl; exact rfl; (((apply R.appendRd (xs := t) (v := u8V) (sz := 1) (ov := ovh) (n := 20 + n) (m := 32) (old := u8s HH); (iterate 12 exact rfl); exact hovh; (focus ((repeat' (exact Ext.here _ _)); done)); exact ht.symm; exact u8V_len; exact rfl; (intro w1 hw1; exact RdSl.mid (pre := [.int .i64 k, .int .i64 c.id, .int .i64 c.roles, .int .i64 c.exp, .int .i64 c.ser, .int .i64 to, .int .i64 a, .int .i64 b, .slice p n cap]) (junk := []) hw1 (by rw [List.append_nil]; (focus ((repeat' (first | exact At.head | apply At.right)); done))) rfl); (focus (rw [fl_u8]; exact u8s_one _)); omega; intro ov6 hov6 hsome; rw [fl_u8]; rw [fl_u8] at hov6))); apply R.nil; refine ⟨?_, ?_⟩; (focus ((repeat' (first | exact trivial | (refine ⟨?_, ?_⟩; (focus ((repeat' (first | exact At.head | apply At.right)); done)))))))) <;> (apply A.take 5; exact rfl; exact rfl; kernel_rfl; kernel_rfl; kernel_rfl; (apply Ok1.assign; exact rfl)) <;> (apply A.done; kernel_rfl))) | apply T.seq | apply T.region | apply T.ret))
  all_goals (apply RetOk.t; exact rfl)
  all_goals exact ⟨_, by (focus ((repeat' (first | exact Ext.here _ _ | apply Keep.last)); done)), ov6, hov6, rfl, rfl⟩
end Go.Proofs.YtidjnjlejhoalaaGreat
set_option linter.unusedSimpArgs false
set_option linter.unusedVariables false
namespace Go.Proofs.YtidjnjlejhoalaaGreat
open Go.RowKit Go.Shelf
set_option maxRecDepth 100000
theorem vsender_ok (p : Option Addr) (n cap : Nat) (k : List Int) (hn : n = k.length) (hkl : n ≤ 999999000) (hkb : Byt k) (v : Int) (h1 : 1 ≤ v) (h2 : v ≤ 65535) (w : World) (hp : RdSl w p u8V k) : CallW Tryz.prog 231 [.agg ⟨tabV⟩, .slice p n cap, .int .i64 v] w fun x _ => x = .agg ⟨u8s (senderI k v)⟩ := by
  subst hn
  have hdl : (senderI k v).length = 32 := derive_len _ _ _
  have hdd : senderI k v = deriveI k sSend [lastI 2 v] := rfl
  have hcl : (lastI 2 v).length = 2 := rfl
  have hcy := last_byt 2 v
  have hce : u8s (lastI 2 v) = [.int .u8 (v / 256), .int .u8 (v % 256)] := by
    have e1 : v % 256 = v ∨ 256 ≤ v := by omega
    have e2 : v / 256 % 256 = v / 256 := by omega
    simp only [lastI, twoB, e2]
    first | rfl | (have e3 : v % 256 = v := by omega
                   simp only [e3]; rfl)
  have hfl : (frameI [strI sSend, lastI 2 v]).length = 16 := rfl
  have htl := tab_len
  have hto : tabV.all Value.oneCell' = true := rfl
  have hdv := fun pp cp pc cc w1 (hc : Chg [] w w1) h1 h2 => vderive_ok p k.length cap k rfl hkl hkb sSend (by decide) pp 1 cp [⟨pc, cc, lastI 2 v⟩] rfl (by decide) (by intro x hx; cases List.mem_singleton.1 hx; exact hcy) (by rw [List.map_cons, List.map_nil, hfl]; decide) (by intro x hx; cases List.mem_singleton.1 hx; simp only [hcl]; decide) w1 (hp.chg' hc (fun _ => Off.nil _)) h1 h2
  simp only [List.map_cons, List.map_nil] at hdv
  rw [← hdd] at hdv
  generalize senderI k v = d at *
  generalize lastI 2 v = cb at *
  generalize tabV = tv at *
  have hls : (u8s d).length = 32 := by rw [u8s_len, hdl]
  have hone := u8s_one d
  refine enterW (tb := tb) Tryz.func231 rfl Tryz.ntmps231 rfl ?_
  repeat' (first | (apply R.is1; first | (apply R.isBin; first | (apply R.pure; exact rfl; first | (apply Ok1.quo64; exact rfl; exact rfl; omega; omega; omega) | (apply Ok1.remN; exact rfl; exact rfl; omega; omega))) | (apply R.pure; exact rfl; first | (apply Ok1.load; exact rfl; apply Ld.ownk; exact rfl; exact rfl; (focus ((repeat' (first | exact At.head | apply At.tail | apply At.right)); done)); exact subE_all htl) | (apply Ok1.move; exact rfl) | (apply Ok1.load; exact rfl; first | (apply Ld.own1; exact rfl; exact rfl; (focus ((repeat' (first | exact At.head | apply At.tail | apply At.right)); done)); exact rfl) | (apply Ld.ownk; exact rfl; exact rfl; (focus ((repeat' (first | exact At.head | apply At.tail | apply At.right)); done)); exact rfl) | (apply Ld.old1; exact rfl; exact rfl; assumption; (first | exact List.not_mem_nil | assumption)) | (apply Ld.blk1; exact rfl; exact rfl; assumption; (first | exact List.not_mem_nil | assumption); exact rfl) | (apply Ld.blkk; exact rfl; exact rfl; assumption; (first | exact List.not_mem_nil | assumption); exact rfl)) | (apply Ok1.convI64; (iterate 5 exact rfl); omega; omega) | (apply Ok1.convU64; (iterate 5 exact rfl); omega; omega) | (apply Ok1.convU32; (iterate 5 exact rfl); omega; omega) | (apply Ok1.convU8; (iterate 5 exact rfl); omega; omega) | (apply Ok1.conv; (iterate 5 exact rfl))) | (apply R.box; (iterate 3 exact rfl); intro) | (apply R.alloc; (iterate 3 exact rfl); intro) | (apply R.buildSlice; (iterate 12 exact rfl); intro)) | (apply R.is0; first | (apply R.store; (iterate 6 exact rfl); (focus ((repeat' (first | exact Upd.head | apply Upd.tail | apply Upd.right)); done)); exact rfl) | fail) | (apply R.isG; first | (apply R.guard_run; exact rfl; exact rfl) | (apply R.guard_not; (iterate 3 exact rfl)) | (apply R.guard_not0; exact rfl; exact rfl) | (apply R.guard_un; (iterate 3 exact rfl)) | (apply R.guard_un0; exact rfl; exact rfl) | (apply R.guard rfl rfl ?_ (fun h => ⟨rfl, ?_⟩) <;> try intro)) | apply R.nil | (apply T.is; first | apply T.seq | apply T.region | apply T.block | apply T.scope | apply T.label | apply T.skip | apply T.exit | apply T.ret | (apply T.cond_t; exact rfl) | (apply T.cond_f; exact rfl) | (apply T.cond_h; exact rfl; assumption) | (apply T.cond_n; exact rfl; assumption) | (apply T.cond rfl <;> intro)) | apply Rnd.step)
  rename_i bT bO bv bs
  repeat' (first | (apply R.is1; first | (apply R.isBin; first | (apply R.pure; exact rfl; first | (apply Ok1.quo64; exact rfl; exact rfl; omega; omega; omega) | (apply Ok1.remN; exact rfl; exact rfl; omega; omega))) | (apply R.isCall; first | (apply R.callV (vs := [.agg ⟨tv⟩, .slice p k.length cap, .string sSend, .slice (some ⟨bs, 0, none⟩) 1 1]); (iterate 3 exact rfl); intro w1 hw1; exact hdv _ 1 (some ⟨bv, 0, none⟩) 2 w1 hw1.chg (RdSl.of (junk := []) hw1 (by (focus ((repeat' (first | exact At.head | apply At.tail | apply At.right)); done))) (by simp only [fl, Pt.v, hcl, List.map_cons, List.map_nil, List.flatten_cons, List.flatten_nil, List.append_nil])) (by intro x hx; cases List.mem_singleton.1 hx; exact RdSl.of (junk := []) hw1 (by (focus ((repeat' (first | exact At.head | apply At.tail | apply At.right)); done))) (by rw [fl_u8, List.append_nil, hce])))) | (apply R.pure; exact rfl; first | (apply Ok1.load; exact rfl; apply Ld.ownk; exact rfl; exact rfl; (focus ((repeat' (first | exact At.head | apply At.tail | apply At.right)); done)); exact subE_all htl) | (apply Ok1.move; exact rfl) | (apply Ok1.load; exact rfl; first | (apply Ld.own1; exact rfl; exact rfl; (focus ((repeat' (first | exact At.head | apply At.tail | apply At.right)); done)); exact rfl) | (apply Ld.ownk; exact rfl; exact rfl; (focus ((repeat' (first | exact At.head | apply At.tail | apply At.right)); done)); exact rfl) | (apply Ld.old1; exact rfl; exact rfl; assumption; (first | exact List.not_mem_nil | assumption)) | (apply Ld.blk1; exact rfl; exact rfl; assumption; (first | exact List.not_mem_nil | assumption); exact rfl) | (apply Ld.blkk; exact rfl; exact rfl; assumption; (first | exact List.not_mem_nil | assumption); exact rfl)) | (apply Ok1.convI64; (iterate 5 exact rfl); omega; omega) | (apply Ok1.convU64; (iterate 5 exact rfl); omega; omega) | (apply Ok1.convU32; (iterate 5 exact rfl); omega; omega) | (apply Ok1.convU8; (iterate 5 exact rfl); omega; omega) | (apply Ok1.conv; (iterate 5 exact rfl))) | (apply R.box; (iterate 3 exact rfl); intro) | (apply R.alloc; (iterate 3 exact rfl); intro) | (apply R.buildSlice; (iterate 12 exact rfl); intro)) | (apply R.is0; first | (apply R.store; (iterate 4 exact rfl); exact hls; exact hone; (focus ((repeat' (first | exact Upd.head | apply Upd.tail | apply Upd.right)); done)); exact setE_all hls) | (apply R.store; (iterate 6 exact rfl); (focus ((repeat' (first | exact Upd.head | apply Upd.tail | apply Upd.right)); done)); exact rfl) | fail) | (apply R.isG; first | (apply R.guard_run; exact rfl; exact rfl) | (apply R.guard_not; (iterate 3 exact rfl)) | (apply R.guard_not0; exact rfl; exact rfl) | (apply R.guard_un; (iterate 3 exact rfl)) | (apply R.guard_un0; exact rfl; exact rfl) | (apply R.guard rfl rfl ?_ (fun h => ⟨rfl, ?_⟩) <;> try intro)) | apply R.nil | (apply T.is; first | apply T.seq | apply T.region | apply T.block | apply T.scope | apply T.label | apply T.skip | apply T.exit | apply T.ret | (apply T.cond_t; exact rfl) | (apply T.cond_f; exact rfl) | (apply T.cond_h; exact rfl; assumption) | (apply T.cond_n; exact rfl; assumption) | (apply T.cond rfl <;> intro)) | apply Rnd.step)
  all_goals apply RetOk.c
  all_goals first | exact rfl | skip
  all_goals first | (apply Ld.ownk; exact rfl; exact rfl; (focus ((repeat' (first | exact At.head | apply At.tail | apply At.right)); done)); exact subE_all hls) | exact rfl
theorem vseed_ok (p : Option Addr) (n cap : Nat) (k : List Int) (hn : n = k.length) (hkl : n ≤ 999999000) (hkb : Byt k) (v : Int) (h1 : 0 ≤ v) (h2 : v ≤ 3) (w : World) (hp : RdSl w p u8V k) : CallW Tryz.prog 230 [.agg ⟨tabV⟩, .slice p n cap, .int .i64 v] w fun x _ => x = .agg ⟨u8s (seedI k v)⟩ := by
  subst hn
  have hdl : (seedI k v).length = 32 := derive_len _ _ _
  have hdd : seedI k v = deriveI k sSeed [lastI 1 v] := rfl
  have hcl : (lastI 1 v).length = 1 := rfl
  have hcy := last_byt 1 v
  have hce : u8s (lastI 1 v) = [.int .u8 v] := by
    have e1 : v % 256 = v ∨ 256 ≤ v := by omega
    have e2 : v / 256 % 256 = v / 256 := by omega
    simp only [lastI, twoB, e2]
    first | rfl | (have e3 : v % 256 = v := by omega
                   simp only [e3]; rfl)
  have hfl : (frameI [strI sSeed, lastI 1 v]).length = 13 := rfl
  have htl := tab_len
  have hto : tabV.all Value.oneCell' = true := rfl
  have hdv := fun pp cp pc cc w1 (hc : Chg [] w w1) h1 h2 => vderive_ok p k.length cap k rfl hkl hkb sSeed (by decide) pp 1 cp [⟨pc, cc, lastI 1 v⟩] rfl (by decide) (by intro x hx; cases List.mem_singleton.1 hx; exact hcy) (by rw [List.map_cons, List.map_nil, hfl]; decide) (by intro x hx; cases List.mem_singleton.1 hx; simp only [hcl]; decide) w1 (hp.chg' hc (fun _ => Off.nil _)) h1 h2
  simp only [List.map_cons, List.map_nil] at hdv
  rw [← hdd] at hdv
  generalize seedI k v = d at *
  generalize lastI 1 v = cb at *
  generalize tabV = tv at *
  have hls : (u8s d).length = 32 := by rw [u8s_len, hdl]
  have hone := u8s_one d
  refine enterW (tb := tb) Tryz.func230 rfl Tryz.ntmps230 rfl ?_
  repeat' (first | (apply R.is1; first | (apply R.pure; exact rfl; first | (apply Ok1.load; exact rfl; apply Ld.ownk; exact rfl; exact rfl; (focus ((repeat' (first | exact At.head | apply At.tail | apply At.right)); done)); exact subE_all htl) | (apply Ok1.move; exact rfl) | (apply Ok1.load; exact rfl; first | (apply Ld.own1; exact rfl; exact rfl; (focus ((repeat' (first | exact At.head | apply At.tail | apply At.right)); done)); exact rfl) | (apply Ld.ownk; exact rfl; exact rfl; (focus ((repeat' (first | exact At.head | apply At.tail | apply At.right)); done)); exact rfl) | (apply Ld.old1; exact rfl; exact rfl; assumption; (first | exact List.not_mem_nil | assumption)) | (apply Ld.blk1; exact rfl; exact rfl; assumption; (first | exact List.not_mem_nil | assumption); exact rfl) | (apply Ld.blkk; exact rfl; exact rfl; assumption; (first | exact List.not_mem_nil | assumption); exact rfl)) | (apply Ok1.convI64; (iterate 5 exact rfl); omega; omega) | (apply Ok1.convU64; (iterate 5 exact rfl); omega; omega) | (apply Ok1.convU32; (iterate 5 exact rfl); omega; omega) | (apply Ok1.convU8; (iterate 5 exact rfl); omega; omega) | (apply Ok1.conv; (iterate 5 exact rfl))) | (apply R.box; (iterate 3 exact rfl); intro) | (apply R.alloc; (iterate 3 exact rfl); intro) | (apply R.buildSlice; (iterate 12 exact rfl); intro)) | (apply R.is0; first | (apply R.store; (iterate 6 exact rfl); (focus ((repeat' (first | exact Upd.head | apply Upd.tail | apply Upd.right)); done)); exact rfl) | fail) | (apply R.isG; first | (apply R.guard_run; exact rfl; exact rfl) | (apply R.guard_not; (iterate 3 exact rfl)) | (apply R.guard_not0; exact rfl; exact rfl) | (apply R.guard_un; (iterate 3 exact rfl)) | (apply R.guard_un0; exact rfl; exact rfl) | (apply R.guard rfl rfl ?_ (fun h => ⟨rfl, ?_⟩) <;> try intro)) | apply R.nil | (apply T.is; first | apply T.seq | apply T.region | apply T.block | apply T.scope | apply T.label | apply T.skip | apply T.exit | apply T.ret | (apply T.cond_t; exact rfl) | (apply T.cond_f; exact rfl) | (apply T.cond_h; exact rfl; assumption) | (apply T.cond_n; exact rfl; assumption) | (apply T.cond rfl <;> intro)) | apply Rnd.step)
  rename_i bT bO bv bs
  repeat' (first | (apply R.is1; first | (apply R.isCall; first | (apply R.callV (vs := [.agg ⟨tv⟩, .slice p k.length cap, .string sSeed, .slice (some ⟨bs, 0, none⟩) 1 1]); (iterate 3 exact rfl); intro w1 hw1; exact hdv _ 1 (some ⟨bv, 0, none⟩) 1 w1 hw1.chg (RdSl.of (junk := []) hw1 (by (focus ((repeat' (first | exact At.head | apply At.tail | apply At.right)); done))) (by simp only [fl, Pt.v, hcl, List.map_cons, List.map_nil, List.flatten_cons, List.flatten_nil, List.append_nil])) (by intro x hx; cases List.mem_singleton.1 hx; exact RdSl.of (junk := []) hw1 (by (focus ((repeat' (first | exact At.head | apply At.tail | apply At.right)); done))) (by rw [fl_u8, List.append_nil, hce])))) | (apply R.pure; exact rfl; first | (apply Ok1.load; exact rfl; apply Ld.ownk; exact rfl; exact rfl; (focus ((repeat' (first | exact At.head | apply At.tail | apply At.right)); done)); exact subE_all htl) | (apply Ok1.move; exact rfl) | (apply Ok1.load; exact rfl; first | (apply Ld.own1; exact rfl; exact rfl; (focus ((repeat' (first | exact At.head | apply At.tail | apply At.right)); done)); exact rfl) | (apply Ld.ownk; exact rfl; exact rfl; (focus ((repeat' (first | exact At.head | apply At.tail | apply At.right)); done)); exact rfl) | (apply Ld.old1; exact rfl; exact rfl; assumption; (first | exact List.not_mem_nil | assumption)) | (apply Ld.blk1; exact rfl; exact rfl; assumption; (first | exact List.not_mem_nil | assumption); exact rfl) | (apply Ld.blkk; exact rfl; exact rfl; assumption; (first | exact List.not_mem_nil | assumption); exact rfl)) | (apply Ok1.convI64; (iterate 5 exact rfl); omega; omega) | (apply Ok1.convU64; (iterate 5 exact rfl); omega; omega) | (apply Ok1.convU32; (iterate 5 exact rfl); omega; omega) | (apply Ok1.convU8; (iterate 5 exact rfl); omega; omega) | (apply Ok1.conv; (iterate 5 exact rfl))) | (apply R.box; (iterate 3 exact rfl); intro) | (apply R.alloc; (iterate 3 exact rfl); intro) | (apply R.buildSlice; (iterate 12 exact rfl); intro)) | (apply R.is0; first | (apply R.store; (iterate 4 exact rfl); exact hls; exact hone; (focus ((repeat' (first | exact Upd.head | apply Upd.tail | apply Upd.right)); done)); exact setE_all hls) | (apply R.store; (iterate 6 exact rfl); (focus ((repeat' (first | exact Upd.head | apply Upd.tail | apply Upd.right)); done)); exact rfl) | fail) | (apply R.isG; first | (apply R.guard_run; exact rfl; exact rfl) | (apply R.guard_not; (iterate 3 exact rfl)) | (apply R.guard_not0; exact rfl; exact rfl) | (apply R.guard_un; (iterate 3 exact rfl)) | (apply R.guard_un0; exact rfl; exact rfl) | (apply R.guard rfl rfl ?_ (fun h => ⟨rfl, ?_⟩) <;> try intro)) | apply R.nil | (apply T.is; first | apply T.seq | apply T.region | apply T.block | apply T.scope | apply T.label | apply T.skip | apply T.exit | apply T.ret | (apply T.cond_t; exact rfl) | (apply T.cond_f; exact rfl) | (apply T.cond_h; exact rfl; assumption) | (apply T.cond_n; exact rfl; assumption) | (apply T.cond rfl <;> intro)) | apply Rnd.step)
  all_goals apply RetOk.c
  all_goals first | exact rfl | skip
  all_goals first | (apply Ld.ownk; exact rfl; exact rfl; (focus ((repeat' (first | exact At.head | apply At.tail | apply At.right)); done)); exact subE_all hls) | exact rfl
end Go.Proofs.YtidjnjlejhoalaaGreat
set_option linter.unusedSimpArgs false
set_option linter.unusedVariables false
namespace Go.Proofs.YtidjnjlejhoalaaGreat
open Go.RowKit Go.Shelf
set_option maxRecDepth 100000
/-- The cells of the document's member. -/
def mbC (c : Cl) (s : List Int) (boot n : Int) (RR : List Value) : List Value := clC c ++ (u8s s ++ (.int .i64 boot :: .int .i64 n :: RR))
theorem mb_at {c : Cl} {s : List Int} (hs : s.length = 32) (boot n : Int) (RR : List Value) (i : Nat) : (mbC c s boot n RR)[36 + i]? = (.int .i64 boot :: .int .i64 n :: RR : List Value)[i]? := by
  unfold mbC
  rw [List.getElem?_append_right (by simp [clC]; omega), List.getElem?_append_right (by simp [clC, u8s_len, hs]; omega)]
  congr 1
  simp [clC, u8s_len, hs]; omega
theorem mb_set {c : Cl} {s : List Int} (hs : s.length = 32) (boot n m : Int) (RR : List Value) : setE (mbC c s boot n RR) 37 [.int .i64 m] = some (mbC c s boot m RR) := by
  have h := setE_off (clC c ++ (u8s s ++ [.int .i64 boot])) [Value.int .i64 m] (Value.int .i64 n :: RR) (by simp)
  have hl : (clC c ++ (u8s s ++ [Value.int .i64 boot])).length = 37 := by simp [clC, u8s_len, hs]
  rw [hl] at h
  unfold mbC
  simpa using h
theorem mb_cl (c : Cl) (s : List Int) (boot n : Int) (RR : List Value) : subE (mbC c s boot n RR) 0 4 = some (clC c) := subE_app (clC c) _ rfl
def MB (bm : Nat) (c : Cl) (s : List Int) (boot n : Int) (RR : List Value) : Nat × Obj := (bm, .cells ⟨mbC c s boot n RR⟩ 133 (0, 0))
theorem mb_key {w0 w : World} {S : List Nat} {L : Lst} {bm : Nat} {c : Cl} {s : List Int} {boot n : Int} {RR : List Value} (hw : Hp w0 S L w) (hm : MB bm c s boot n RR ∈ L) : RdSl w (some ⟨bm, 4, none⟩) u8V s := by
  right
  refine ⟨bm, 4, rfl, fun k hk => ?_⟩
  have h1 := hw.get bm _ hm
  rw [fl_u8] at hk ⊢
  simp only [World.cell?, h1]
  simp only [mbC, List.getElem?_toArray]
  rw [List.getElem?_append_right (by simp [clC]), List.getElem?_append_left (by simp [clC]; omega)]
  congr 1
  simp [clC]
theorem vway_ok (k : Int) (h0 : 1 ≤ k) (h1 : k ≤ 14) : CallP Tryz.prog 61 [.int .i64 k] (.int .i64 (wayI k)) := by
  have hk : k = 1 ∨ k = 2 ∨ k = 3 ∨ k = 4 ∨ k = 5 ∨ k = 6 ∨ k = 7 ∨ k = 8 ∨ k = 9 ∨ k = 10 ∨ k = 11 ∨ k = 12 ∨ k = 13 ∨ k = 14 := by omega
  rcases hk with rfl | rfl | rfl | rfl | rfl | rfl | rfl | rfl | rfl | rfl | rfl | rfl | rfl | rfl
  all_goals
    refine enterP (tb := tb) Tryz.func61 rfl Tryz.ntmps61 rfl fun w => ?_
    repeat' (first | (apply R.is1; (apply R.pure; exact rfl; first | (apply Ok1.move; exact rfl) | (apply Ok1.assign; exact rfl) | (apply Ok1.index1; (iterate 6 exact rfl); omega; omega; exact rfl) | (apply Ok1.buildA; (iterate 6 exact rfl)))) | apply R.nil | (apply T.is; first | apply T.seq | apply T.region | apply T.ret))
    (apply RetOk.t; exact rfl)
    rfl
def VKey (bm : Nat) (c : Cl) (s : List Int) (boot n : Int) (RR : List Value) (k to : Int) (v : Value) (L : Lst) : Prop := (chE k to ≠ 0 ∧ v = .tuple #[.slice none 0 0, .int .i64 (chE k to)] ∧ L = [MB bm c s boot n RR]) ∨ (chE k to = 0 ∧ ∃ bk, v = .tuple #[.slice (some ⟨bk, 0, none⟩) 32 32, .int .i64 0] ∧ L = [(bk, .cells ⟨u8s (chK s k to)⟩ 128 (0, 0)), MB bm c s boot n RR])
theorem vkey16_ok (bm : Nat) (c : Cl) (s : List Int) (hs : s.length = 32) (hsb : Byt s) (boot n : Int) (RR : List Value) (k to : Int) (w : World) :
    CallM Tryz.prog 158 [.agg ⟨tabV⟩, .pointer (some ⟨bm, 0, none⟩), .int .i64 k, .int .i64 to] [MB bm c s boot n RR] w (VKey bm c s boot n RR k to) := by
  have htl := tab_len
  have hKl := chK_len s k to
  by_cases hk : k < 1 ∨ 14 < k ∨ wayI k = 2
  · have hE : chE k to = 13 := by
      unfold chE
      by_cases h1 : wayI k = 1
      · have := way_kind (.inl h1); omega
      by_cases h3 : wayI k = 3
      · have := way_kind (.inr h3); omega
      rw [if_neg h1, if_neg h3]
    unfold VKey
    rw [hE]
    generalize tabV = tbl at *
    by_cases hk1 : k < 1 ∨ 14 < k
    · refine enterK (tb := tb) Tryz.func158 rfl Tryz.ntmps158 rfl ?_
      repeat' (first | (apply R.is1; first | (apply R.isBin; first | (apply R.pure; exact rfl; (apply Ok1.gtr_t; exact rfl; exact rfl; omega)) | (apply R.lss rfl rfl rfl <;> intro)) | (apply R.pure; exact rfl; first | (apply Ok1.move; exact rfl) | (apply Ok1.assign; exact rfl) | (apply Ok1.pick_t; exact rfl; exact rfl) | (apply Ok1.pick_f; exact rfl; exact rfl)) | (apply R.box; (iterate 3 exact rfl); intro)) | (apply R.isG; first | (apply R.guard_run; exact rfl; exact rfl) | (apply R.guard_not; (iterate 3 exact rfl))) | apply R.nil | (apply T.is; first | apply T.seq | apply T.region | apply T.ret | (apply T.cond_t; exact rfl)))
      all_goals (apply RetOk.tt; exact rfl; exact rfl)
      all_goals exact ⟨_, by (focus ((repeat' (first | exact Keep.nil _ | exact Ext.one _ _ | apply Keep.cons | apply Ext.cons)); done)), .inl ⟨by decide, rfl, rfl⟩⟩
    · have hw := vway_ok k (by omega) (by omega)
      rw [show wayI k = 2 by omega] at hw
      refine enterK (tb := tb) Tryz.func158 rfl Tryz.ntmps158 rfl ?_
      repeat' (first | (apply R.is1; first | (apply R.isBin; (apply R.pure; exact rfl; first | (apply Ok1.lss_f; exact rfl; exact rfl; omega) | (apply Ok1.gtr_f; exact rfl; exact rfl; omega) | (apply Ok1.eql_t; exact rfl; exact rfl; omega))) | (apply R.isCall; apply R.callP rfl rfl rfl hw) | (apply R.pure; exact rfl; first | (apply Ok1.move; exact rfl) | (apply Ok1.assign; exact rfl) | (apply Ok1.pick_f; exact rfl; exact rfl)) | (apply R.box; (iterate 3 exact rfl); intro)) | (apply R.isG; (apply R.guard_run; exact rfl; exact rfl)) | apply R.nil | (apply T.is; first | apply T.seq | apply T.region | apply T.ret | (apply T.cond_t; exact rfl)))
      all_goals (apply RetOk.tt; exact rfl; exact rfl)
      all_goals exact ⟨_, by (focus ((repeat' (first | exact Keep.nil _ | exact Ext.one _ _ | apply Keep.cons | apply Ext.cons)); done)), .inl ⟨by decide, rfl, rfl⟩⟩
  have hw := vway_ok k (by omega) (by omega)
  have hsd : ∀ w1, RdSl w1 (some ⟨bm, 4, none⟩) u8V s → 0 ≤ to → to ≤ 3 → _ := fun w1 h g1 g2 => vseed_ok (some ⟨bm, 4, none⟩) 32 32 s hs.symm (by decide) hsb to g1 g2 w1 h
  have hsn : ∀ w1, RdSl w1 (some ⟨bm, 4, none⟩) u8V s → 1 ≤ to → to ≤ 65535 → _ := fun w1 h g1 g2 => vsender_ok (some ⟨bm, 4, none⟩) 32 32 s hs.symm (by decide) hsb to g1 g2 w1 h
  have hmt : (u8s (chK s k to)).length = 32 := by rw [u8s_len, hKl]
  by_cases h1 : wayI k = 1
  · rw [h1] at hw
    have hK : chK s k to = seedI s to := by unfold chK; rw [if_pos h1]
    rw [← hK] at hsd
    clear hsn
    by_cases ht : 0 ≤ to ∧ to ≤ 3
    · have hE : chE k to = 0 := by unfold chE; rw [if_pos h1, if_pos ht]
      unfold VKey
      rw [hE]
      generalize chK s k to = CK at *
      generalize tabV = tbl at *
      unfold MB
      refine enterK (tb := tb) Tryz.func158 rfl Tryz.ntmps158 rfl ?_
      repeat' (first | (apply R.is1; first | (apply R.isBin; (apply R.pure; exact rfl; first | (apply Ok1.lss_f; exact rfl; exact rfl; omega) | (apply Ok1.gtr_f; exact rfl; exact rfl; omega) | (apply Ok1.eql_t; exact rfl; exact rfl; omega) | (apply Ok1.eql_f; exact rfl; exact rfl; omega))) | (apply R.isCall; apply R.callP rfl rfl rfl hw) | (apply R.pure; exact rfl; first | (apply Ok1.sliceArr; (iterate 4 exact rfl)) | (apply Ok1.move; exact rfl) | (apply Ok1.assign; exact rfl) | (apply Ok1.pick_f; exact rfl; exact rfl)) | (apply R.box; (iterate 3 exact rfl); intro)) | (apply R.isG; (apply R.guard_run; exact rfl; exact rfl)) | apply R.nil | (apply T.is; first | (apply T.drawC (id := 6) [0] (by decide); ((apply A.take 0; exact rfl; exact rfl; kernel_rfl; kernel_rfl; kernel_rfl; (apply Ok1.load; exact rfl; (apply Ld.ownk; exact rfl; exact rfl; exact At.head; exact subE_all htl))) <;> (apply A.take 1; exact rfl; exact rfl; kernel_rfl; kernel_rfl; kernel_rfl; (apply Ok1.move; exact rfl)) <;> (apply A.take 2; exact rfl; exact rfl; kernel_rfl; kernel_rfl; kernel_rfl; (apply Ok1.nilCheck; exact rfl)) <;> (apply A.take 3; exact rfl; exact rfl; kernel_rfl; kernel_rfl; kernel_rfl; (apply Ok1.fieldAddr; (iterate 5 exact rfl))) <;> (apply A.take 4; exact rfl; exact rfl; kernel_rfl; kernel_rfl; kernel_rfl; (apply Ok1.sliceArr; (iterate 4 exact rfl))) <;> (apply A.take 5; exact rfl; exact rfl; kernel_rfl; kernel_rfl; kernel_rfl; (apply Ok1.move; exact rfl)) <;> (apply A.two 6 7; kernel_rfl; exact rfl; exact rfl; rotate_left 1; (focus (((((apply R.alloc; (iterate 3 exact rfl); intro))); apply R.nil; refine ⟨?_, ?_⟩; (focus ((repeat' (first | exact trivial | (refine ⟨?_, ?_⟩; (focus ((repeat' (first | exact At.head | apply At.tail)); done)))))))) <;> (apply A.one 6; kernel_rfl; exact rfl; (((apply R.callV (vs := [.agg ⟨tbl⟩, .slice (some ⟨bm, 4, none⟩) 32 32, .int .i64 to]); (iterate 3 exact rfl); intro w1 hw1; exact hsd w1 (mb_key hw1 (by unfold MB; exact At.mem (by (focus ((repeat' (first | exact At.head | apply At.tail)); done))))) ht.1 ht.2))); apply R.nil; refine ⟨?_, ?_⟩; (focus ((repeat' (first | exact trivial | (refine ⟨?_, ?_⟩; (focus ((repeat' (first | exact At.head | apply At.tail)); done)))))))) <;> (apply A.one 8; kernel_rfl; exact rfl; (((apply R.store; (iterate 4 exact rfl); exact hmt; exact u8s_one _; exact Upd.head; exact setE_all hmt))); apply R.nil; refine ⟨?_, ?_⟩; (focus ((repeat' (first | exact trivial | (refine ⟨?_, ?_⟩; (focus ((repeat' (first | exact At.head | apply At.tail)); done)))))))) <;> (apply A.done; kernel_rfl))); rotate_right 1; (focus (((((apply R.callV (vs := [.agg ⟨tbl⟩, .slice (some ⟨bm, 4, none⟩) 32 32, .int .i64 to]); (iterate 3 exact rfl); intro w1 hw1; exact hsd w1 (mb_key hw1 (by unfold MB; exact At.mem (by (focus ((repeat' (first | exact At.head | apply At.tail)); done))))) ht.1 ht.2))); apply R.nil; refine ⟨?_, ?_⟩; (focus ((repeat' (first | exact trivial | (refine ⟨?_, ?_⟩; exact At.head)))))) <;> (apply A.one 7; kernel_rfl; exact rfl; (((apply R.alloc; (iterate 3 exact rfl); intro))); apply R.nil; refine ⟨?_, ?_⟩; (focus ((repeat' (first | exact trivial | (refine ⟨?_, ?_⟩; (focus ((repeat' (first | exact At.head | apply At.tail)); done)))))))) <;> (apply A.one 8; kernel_rfl; exact rfl; (((apply R.store; (iterate 4 exact rfl); exact hmt; exact u8s_one _; exact Upd.head; exact setE_all hmt))); apply R.nil; refine ⟨?_, ?_⟩; (focus ((repeat' (first | exact trivial | (refine ⟨?_, ?_⟩; (focus ((repeat' (first | exact At.head | apply At.tail)); done)))))))) <;> (apply A.done; kernel_rfl)))))) | apply T.seq | apply T.region | apply T.skip | apply T.ret | (apply T.cond_t; exact rfl) | (apply T.cond_f; exact rfl)))
      all_goals (apply RetOk.tt; exact rfl; exact rfl)
      all_goals exact ⟨_, by (focus ((repeat' (first | exact Keep.nil _ | exact Ext.one _ _ | apply Keep.cons | apply Ext.cons)); done)), .inr ⟨rfl, _, rfl, rfl⟩⟩
    · have hE : chE k to = 10 := by unfold chE; rw [if_pos h1, if_neg ht]
      unfold VKey
      rw [hE]
      generalize tabV = tbl at *
      refine enterK (tb := tb) Tryz.func158 rfl Tryz.ntmps158 rfl ?_
      repeat' (first | (apply R.is1; first | (apply R.isBin; first | (apply R.pure; exact rfl; first | (apply Ok1.lss_f; exact rfl; exact rfl; omega) | (apply Ok1.gtr_t; exact rfl; exact rfl; omega) | (apply Ok1.gtr_f; exact rfl; exact rfl; omega) | (apply Ok1.eql_t; exact rfl; exact rfl; omega) | (apply Ok1.eql_f; exact rfl; exact rfl; omega)) | (apply R.lss rfl rfl rfl <;> intro)) | (apply R.isCall; apply R.callP rfl rfl rfl hw) | (apply R.pure; exact rfl; first | (apply Ok1.move; exact rfl) | (apply Ok1.assign; exact rfl) | (apply Ok1.pick_t; exact rfl; exact rfl) | (apply Ok1.pick_f; exact rfl; exact rfl)) | (apply R.box; (iterate 3 exact rfl); intro)) | (apply R.isG; first | (apply R.guard_run; exact rfl; exact rfl) | (apply R.guard_not; (iterate 3 exact rfl))) | apply R.nil | (apply T.is; first | apply T.seq | apply T.region | apply T.skip | apply T.ret | (apply T.cond_t; exact rfl) | (apply T.cond_f; exact rfl)))
      all_goals (apply RetOk.tt; exact rfl; exact rfl)
      all_goals exact ⟨_, by (focus ((repeat' (first | exact Keep.nil _ | exact Ext.one _ _ | apply Keep.cons | apply Ext.cons)); done)), .inl ⟨by decide, rfl, rfl⟩⟩
  · have h3 : wayI k = 3 := by unfold wayI at *; (repeat' split at h1) <;> (repeat' split at hk) <;> omega
    rw [h3] at hw
    have hK : chK s k to = senderI s to := by unfold chK; rw [if_neg h1]
    rw [← hK] at hsn
    clear hsd
    by_cases ht : 1 ≤ to ∧ to ≤ 65535
    · have hE : chE k to = 0 := by unfold chE; rw [if_neg h1, if_pos h3, if_pos ht]
      unfold VKey
      rw [hE]
      generalize chK s k to = CK at *
      generalize tabV = tbl at *
      unfold MB
      refine enterK (tb := tb) Tryz.func158 rfl Tryz.ntmps158 rfl ?_
      repeat' (first | (apply R.is1; first | (apply R.isBin; (apply R.pure; exact rfl; first | (apply Ok1.lss_f; exact rfl; exact rfl; omega) | (apply Ok1.gtr_f; exact rfl; exact rfl; omega) | (apply Ok1.eql_f; exact rfl; exact rfl; omega))) | (apply R.isCall; apply R.callP rfl rfl rfl hw) | (apply R.pure; exact rfl; first | (apply Ok1.sliceArr; (iterate 4 exact rfl)) | (apply Ok1.move; exact rfl) | (apply Ok1.assign; exact rfl) | (apply Ok1.pick_f; exact rfl; exact rfl)) | (apply R.box; (iterate 3 exact rfl); intro)) | (apply R.isG; (apply R.guard_run; exact rfl; exact rfl)) | apply R.nil | (apply T.is; first | (apply T.drawC (id := 10) [0] (by decide); ((apply A.take 0; exact rfl; exact rfl; kernel_rfl; kernel_rfl; kernel_rfl; (apply Ok1.load; exact rfl; (apply Ld.ownk; exact rfl; exact rfl; exact At.head; exact subE_all htl))) <;> (apply A.take 1; exact rfl; exact rfl; kernel_rfl; kernel_rfl; kernel_rfl; (apply Ok1.move; exact rfl)) <;> (apply A.take 2; exact rfl; exact rfl; kernel_rfl; kernel_rfl; kernel_rfl; (apply Ok1.nilCheck; exact rfl)) <;> (apply A.take 3; exact rfl; exact rfl; kernel_rfl; kernel_rfl; kernel_rfl; (apply Ok1.fieldAddr; (iterate 5 exact rfl))) <;> (apply A.take 4; exact rfl; exact rfl; kernel_rfl; kernel_rfl; kernel_rfl; (apply Ok1.sliceArr; (iterate 4 exact rfl))) <;> (apply A.take 5; exact rfl; exact rfl; kernel_rfl; kernel_rfl; kernel_rfl; (apply Ok1.move; exact rfl)) <;> (apply A.two 6 7; kernel_rfl; exact rfl; exact rfl; rotate_left 1; (focus (((((apply R.alloc; (iterate 3 exact rfl); intro))); apply R.nil; refine ⟨?_, ?_⟩; (focus ((repeat' (first | exact trivial | (refine ⟨?_, ?_⟩; (focus ((repeat' (first | exact At.head | apply At.tail)); done)))))))) <;> (apply A.one 6; kernel_rfl; exact rfl; (((apply R.callV (vs := [.agg ⟨tbl⟩, .slice (some ⟨bm, 4, none⟩) 32 32, .int .i64 to]); (iterate 3 exact rfl); intro w1 hw1; exact hsn w1 (mb_key hw1 (by unfold MB; exact At.mem (by (focus ((repeat' (first | exact At.head | apply At.tail)); done))))) ht.1 ht.2))); apply R.nil; refine ⟨?_, ?_⟩; (focus ((repeat' (first | exact trivial | (refine ⟨?_, ?_⟩; (focus ((repeat' (first | exact At.head | apply At.tail)); done)))))))) <;> (apply A.one 8; kernel_rfl; exact rfl; (((apply R.store; (iterate 4 exact rfl); exact hmt; exact u8s_one _; exact Upd.head; exact setE_all hmt))); apply R.nil; refine ⟨?_, ?_⟩; (focus ((repeat' (first | exact trivial | (refine ⟨?_, ?_⟩; (focus ((repeat' (first | exact At.head | apply At.tail)); done)))))))) <;> (apply A.done; kernel_rfl))); rotate_right 1; (focus (((((apply R.callV (vs := [.agg ⟨tbl⟩, .slice (some ⟨bm, 4, none⟩) 32 32, .int .i64 to]); (iterate 3 exact rfl); intro w1 hw1; exact hsn w1 (mb_key hw1 (by unfold MB; exact At.mem (by (focus ((repeat' (first | exact At.head | apply At.tail)); done))))) ht.1 ht.2))); apply R.nil; refine ⟨?_, ?_⟩; (focus ((repeat' (first | exact trivial | (refine ⟨?_, ?_⟩; exact At.head)))))) <;> (apply A.one 7; kernel_rfl; exact rfl; (((apply R.alloc; (iterate 3 exact rfl); intro))); apply R.nil; refine ⟨?_, ?_⟩; (focus ((repeat' (first | exact trivial | (refine ⟨?_, ?_⟩; (focus ((repeat' (first | exact At.head | apply At.tail)); done)))))))) <;> (apply A.one 8; kernel_rfl; exact rfl; (((apply R.store; (iterate 4 exact rfl); exact hmt; exact u8s_one _; exact Upd.head; exact setE_all hmt))); apply R.nil; refine ⟨?_, ?_⟩; (focus ((repeat' (first | exact trivial | (refine ⟨?_, ?_⟩; (focus ((repeat' (first | exact At.head | apply At.tail)); done)))))))) <;> (apply A.done; kernel_rfl)))))) | apply T.seq | apply T.region | apply T.skip | apply T.ret | (apply T.cond_f; exact rfl)))
      all_goals (apply RetOk.tt; exact rfl; exact rfl)
      all_goals exact ⟨_, by (focus ((repeat' (first | exact Keep.nil _ | exact Ext.one _ _ | apply Keep.cons | apply Ext.cons)); done)), .inr ⟨rfl, _, rfl, rfl⟩⟩
    · have hE : chE k to = 10 := by unfold chE; rw [if_neg h1, if_pos h3, if_neg ht]
      unfold VKey
      rw [hE]
      generalize tabV = tbl at *
      refine enterK (tb := tb) Tryz.func158 rfl Tryz.ntmps158 rfl ?_
      repeat' (first | (apply R.is1; first | (apply R.isBin; first | (apply R.pure; exact rfl; first | (apply Ok1.lss_f; exact rfl; exact rfl; omega) | (apply Ok1.gtr_t; exact rfl; exact rfl; omega) | (apply Ok1.gtr_f; exact rfl; exact rfl; omega) | (apply Ok1.eql_f; exact rfl; exact rfl; omega)) | (apply R.lss rfl rfl rfl <;> intro)) | (apply R.isCall; apply R.callP rfl rfl rfl hw) | (apply R.pure; exact rfl; first | (apply Ok1.move; exact rfl) | (apply Ok1.assign; exact rfl) | (apply Ok1.pick_t; exact rfl; exact rfl) | (apply Ok1.pick_f; exact rfl; exact rfl)) | (apply R.box; (iterate 3 exact rfl); intro)) | (apply R.isG; first | (apply R.guard_run; exact rfl; exact rfl) | (apply R.guard_not; (iterate 3 exact rfl))) | apply R.nil | (apply T.is; first | apply T.seq | apply T.region | apply T.skip | apply T.ret | (apply T.cond_t; exact rfl) | (apply T.cond_f; exact rfl)))
      all_goals (apply RetOk.tt; exact rfl; exact rfl)
      all_goals exact ⟨_, by (focus ((repeat' (first | exact Keep.nil _ | exact Ext.one _ _ | apply Keep.cons | apply Ext.cons)); done)), .inl ⟨by decide, rfl, rfl⟩⟩
end Go.Proofs.YtidjnjlejhoalaaGreat
set_option linter.unusedSimpArgs false
set_option linter.unusedVariables false
namespace Go.Proofs.YtidjnjlejhoalaaGreat
open Go.RowKit Go.Shelf
set_option maxRecDepth 100000
def VWr (bm : Nat) (c : Cl) (s : List Int) (k to boot cnt : Int) (RR : List Value) (n : Nat) (body : List Int) (v : Value) (L : Lst) : Prop := (wrE k to n ≠ 0 ∧ v = .tuple #[.slice none 0 0, .int .i64 (wrE k to n)] ∧ L = [MB bm c s boot cnt RR]) ∨ (wrE k to n = 0 ∧ ∃ ov, OvOk 1 ov (wrG c s k to boot (cnt + 1) body).length (u8s (wrG c s k to boot (cnt + 1) body)) ∧ v = .tuple #[slV ov (wrG c s k to boot (cnt + 1) body).length, .int .i64 0] ∧ L = MB bm c s boot (cnt + 1) RR :: blkL 5 ov (u8s (wrG c s k to boot (cnt + 1) body)))
theorem vwrite16_ok (bm : Nat) (c : Cl) (hr : c.right) (s : List Int) (hs : s.length = 32) (hsb : Byt s) (boot cnt : Int) (hnr : NR boot (cnt + 1)) (h0 : 0 ≤ cnt) (RR : List Value) (k to : Int) (p : Option Addr) (n cap : Nat) (body : List Int) (hn : n = body.length) (hbb : Byt body) (w : World) (hbd : RdSl w p u8V body) (hq : body ≠ [] → Off p [bm]) :
    CallM Tryz.prog 60 [.agg ⟨tabV⟩, .pointer (some ⟨bm, 0, none⟩), .int .i64 k, .int .i64 to, .slice p n cap] [MB bm c s boot cnt RR] w (VWr bm c s k to boot cnt RR n body) := by
  have hcnt : cnt < 2147483647 := by unfold NR at hnr; omega
  have htl := tab_len
  have hky := fun w1 => vkey16_ok bm c s hs hsb boot cnt RR k to w1
  by_cases hE0 : chE k to = 0
  case neg =>
    have hw : wrE k to n = chE k to := by unfold wrE; rw [if_pos hE0]
    have hky2 := fun w1 => (hky w1).wk (R' := fun v L => v = .tuple #[.slice none 0 0, .int .i64 (chE k to)] ∧ L = [MB bm c s boot cnt RR]) (by rintro v L (⟨_, g⟩ | ⟨g, _⟩); exact g; exact absurd g hE0)
    clear hky
    unfold VWr
    rw [hw]
    generalize chE k to = E at *
    generalize tabV = tbl at *
    generalize MB bm c s boot cnt RR = MO at *
    refine enterK (tb := tb) Tryz.func60 rfl Tryz.ntmps60 rfl ?_
    repeat' (first | (apply R.is1; first | (apply R.isBin; (apply R.pure; exact rfl; (apply Ok1.neq_t; exact rfl; exact rfl; omega))) | (apply R.isCall; (apply R.callE (Li := [MO]) (vs := [.agg ⟨tbl⟩, .pointer (some ⟨bm, 0, none⟩), .int .i64 k, .int .i64 to]); (iterate 3 exact rfl); (focus ((repeat' (first | exact Ext.one _ _ | apply Ext.cons)); done)); intro w1 hw1; exact hky2 w1; rintro x Lo ⟨rfl, rfl⟩)) | (apply R.pure; exact rfl; first | (apply Ok1.load; exact rfl; (apply Ld.ownk; exact rfl; exact rfl; exact At.head; exact subE_all htl)) | (apply Ok1.move; exact rfl) | (apply Ok1.assign; exact rfl) | (apply Ok1.extract; exact rfl; exact rfl)) | (apply R.box; (iterate 3 exact rfl); intro)) | apply R.nil | (apply T.is; first | apply T.seq | apply T.region | apply T.ret | (apply T.cond_t; exact rfl)))
    all_goals (apply RetOk.tt; exact rfl; exact rfl)
    all_goals exact ⟨_, by (focus ((repeat' (first | exact Keep.nil _ | exact Ext.one _ _ | apply Keep.cons)); done)), .inl ⟨hE0, rfl, rfl⟩⟩
  have hky2 := fun w1 => (hky w1).wk (R' := fun v L => ∃ bk, v = .tuple #[.slice (some ⟨bk, 0, none⟩) 32 32, .int .i64 0] ∧ L = [(bk, .cells ⟨u8s (chK s k to)⟩ 128 (0, 0)), MB bm c s boot cnt RR]) (by rintro v L (⟨g, _⟩ | ⟨_, g⟩); exact absurd hE0 g; exact g)
  clear hky
  have hKl := chK_len s k to
  have hKb := chK_byt s k to
  obtain ⟨hkk, htt⟩ := chE_zero hE0
  by_cases h5 : 512 < n
  · have hw : wrE k to n = 2 := by unfold wrE; rw [if_neg (fun g => g hE0), if_pos h5]
    unfold VWr
    rw [hw]
    generalize tabV = tbl at *
    generalize MB bm c s boot cnt RR = MO at *
    refine enterK (tb := tb) Tryz.func60 rfl Tryz.ntmps60 rfl ?_
    repeat' (first | (apply R.is1; first | (apply R.isBin; (apply R.pure; exact rfl; first | (apply Ok1.gtr_t; exact rfl; exact rfl; omega) | (apply Ok1.neq_f; exact rfl; exact rfl; omega))) | (apply R.isCall; first | (apply R.callE (Li := [MO]) (vs := [.agg ⟨tbl⟩, .pointer (some ⟨bm, 0, none⟩), .int .i64 k, .int .i64 to]); (iterate 3 exact rfl); (focus ((repeat' (first | exact Ext.one _ _ | apply Ext.cons)); done)); intro w1 hw1; exact hky2 w1; rintro x Lo ⟨bk, rfl, rfl⟩) | (apply R.pure; exact rfl; (apply Ok1.lenS; (iterate 3 exact rfl)))) | (apply R.pure; exact rfl; first | (apply Ok1.load; exact rfl; (apply Ld.ownk; exact rfl; exact rfl; exact At.head; exact subE_all htl)) | (apply Ok1.move; exact rfl) | (apply Ok1.assign; exact rfl) | (apply Ok1.extract; exact rfl; exact rfl)) | (apply R.box; (iterate 3 exact rfl); intro)) | apply R.nil | (apply T.is; first | apply T.seq | apply T.region | apply T.skip | apply T.ret | (apply T.cond_t; exact rfl) | (apply T.cond_f; exact rfl)))
    all_goals (apply RetOk.tt; exact rfl; exact rfl)
    all_goals exact ⟨_, by (focus ((repeat' (first | exact Keep.nil _ | exact Ext.one _ _ | apply Keep.cons | apply Ext.cons)); done)), .inl ⟨by decide, rfl, rfl⟩⟩
  have hw : wrE k to n = 0 := by unfold wrE; rw [if_neg (fun g => g hE0), if_neg h5]
  have hz : (zI 32).length = 32 := rfl
  have hwl := wrT_len s k c to boot (cnt + 1) body
  have htg := fun bk w1 (hc : Chg [bm] w w1) (hk : RdSl w1 (some ⟨bk, 0, none⟩) u8V (chK s k to)) => vtag14_ok (some ⟨bk, 0, none⟩) 32 32 (chK s k to) hKl.symm (by decide) hKb k c to boot (cnt + 1) p n cap (zI 32) body hz (by omega) (by omega) hr htt.1 htt.2 hnr hn (by omega) hbb w1 hk (hbd.chg' hc hq)
  have hby := fun (t : List Int) (ht : t.length = 32) w1 (hc : Chg [bm] w w1) => vbytes14_ok k c to boot (cnt + 1) p n cap t body ht (by omega) (by omega) hr htt.1 htt.2 hnr hn (by omega) w1 (hbd.chg' hc hq)
  have hmb := mb_at (c := c) hs boot cnt RR 1
  have hmb0 := mb_at (c := c) hs boot (cnt + 1) RR 0
  have hmb1 := mb_at (c := c) hs boot (cnt + 1) RR 1
  have hms := mb_set (c := c) hs boot cnt (cnt + 1) RR
  have hmc := mb_cl c s boot (cnt + 1) RR
  have hpl := fun (t : List Int) (ht : t.length = 32) => pk_len k c to boot (cnt + 1) p n cap ht
  have hfill : ∀ a b e f g h, fillE (fldPl [(a, 0, 1), (b, 1, 4), (e, 5, 1), (f, 6, 2), (g, 8, 1), (h, 9, 32)]) (pkC 0 cl0 0 0 0 none 0 0 (zI 32)) [(0, .int .i64 k), (1, .agg ⟨clC c⟩), (2, .int .i64 to), (3, .agg ⟨[.int .i64 boot, .int .i64 (cnt + 1)]⟩), (4, .slice p n cap)] = some (pkC k c to boot (cnt + 1) p n cap (zI 32)) := fun _ _ _ _ _ _ => rfl
  unfold VWr
  rw [hw]
  unfold wrG
  by_cases h1 : k = 1
  · have hT : wrT s k c to boot (cnt + 1) body = zI 32 := by unfold wrT; rw [if_pos h1]
    rw [hT]
    have hby1 := hby (zI 32) hz
    clear htg hby
    have hpl1 := hpl (zI 32) hz
    generalize pkB k c to boot (cnt + 1) body (zI 32) = PB at *
    generalize chK s k to = CK at *
    generalize tabV = tbl at *
    generalize hPK : pkC k c to boot (cnt + 1) p n cap (zI 32) = PK at *
    have hPo : PK.all Value.oneCell' = true := by rw [← hPK]; exact pk_one _ _ _ _ _ _ _ _ _
    clear hPK
    unfold MB at hky2 ⊢
    generalize mbC c s boot cnt RR = MA at *
    generalize mbC c s boot (cnt + 1) RR = MA2 at *
    refine enterK (tb := tb) Tryz.func60 rfl Tryz.ntmps60 rfl ?_
    repeat' (first | (apply R.is1; first | (apply R.isBin; (apply R.pure; exact rfl; first | (apply Ok1.add64; exact rfl; exact rfl; omega; omega) | (apply Ok1.gtr_f; exact rfl; exact rfl; omega) | (apply Ok1.neq_f; exact rfl; exact rfl; omega))) | (apply R.isCall; first | (apply R.callE (Li := [(bm, .cells ⟨MA⟩ 133 (0, 0))]) (vs := [.agg ⟨tbl⟩, .pointer (some ⟨bm, 0, none⟩), .int .i64 k, .int .i64 to]); (iterate 3 exact rfl); (focus ((repeat' (first | exact Ext.one _ _ | apply Ext.cons)); done)); intro w1 hw1; exact hky2 w1; rintro x Lo ⟨bk, rfl, rfl⟩) | (apply R.pure; exact rfl; (apply Ok1.lenS; (iterate 3 exact rfl)))) | (apply R.pure; exact rfl; first | (apply Ok1.load; exact rfl; first | (apply Ld.ownk; exact rfl; exact rfl; exact At.head; exact subE_all htl) | (apply Ld.own1; exact rfl; exact rfl; (focus ((repeat' (first | exact At.head | apply At.tail)); done)); exact hmb)) | (apply Ok1.move; exact rfl) | (apply Ok1.fieldAddr; (iterate 5 exact rfl)) | (apply Ok1.assign; exact rfl) | (apply Ok1.extract; exact rfl; exact rfl) | (apply Ok1.nilCheck; exact rfl)) | (apply R.box; (iterate 3 exact rfl); intro)) | (apply R.is0; (apply R.store; (iterate 6 exact rfl); (focus ((repeat' (first | exact Upd.head | apply Upd.tail)); done)); exact hms)) | apply R.nil | (apply T.is; first | (apply T.stop1 7) | apply T.seq | apply T.region | apply T.skip | (apply T.cond_f; exact rfl)))
    rename_i b5
    refine ⟨?_⟩
    refine T.weakK (σ' := [(1, .pointer (some ⟨bm, 0, none⟩)), (2, .int .i64 k), (3, .int .i64 to), (4, .slice p n cap), (5, .pointer (some ⟨b5, 0, none⟩)), (12, .slice (some ⟨bk, 0, none⟩) 32 32)]) (L' := [(bm, .cells ⟨MA2⟩ 133 (0, 0)), (b5, .cells ⟨tbl⟩ 31 (0, 0)), (bk, .cells ⟨u8s CK⟩ 128 (0, 0))]) ?_ (by (focus ((repeat' (first | exact Keep.nil _ | exact Ext.one _ _ | apply Keep.cons | apply Ext.cons)); done))) ⟨rfl, rfl, rfl, rfl, rfl, rfl, trivial⟩
    repeat' (first | (apply R.is1; first | (apply R.isBin; (apply R.pure; exact rfl; (apply Ok1.neq_f; exact rfl; exact rfl; omega))) | (apply R.isCall; (apply R.callE (vs := [.agg ⟨PK⟩]); (iterate 3 exact rfl); exact Ext.none _; intro w1 hw1; exact hby1 w1 hw1.chg; rintro x Lo ⟨ovb, hovb, rfl, rfl⟩)) | (apply R.pure; exact rfl; first | (apply Ok1.load; exact rfl; (apply Ld.ownk; exact rfl; exact rfl; exact At.head; exact subE_all hpl1)) | (apply Ok1.move; exact rfl) | (apply Ok1.assign; exact rfl))) | apply R.nil | (apply T.is; first | (apply T.drawC (id := 7) [0] (by decide); ((apply A.take 0; exact rfl; exact rfl; kernel_rfl; kernel_rfl; kernel_rfl; (apply Ok1.move; exact rfl)) <;> (apply A.take 1; exact rfl; exact rfl; kernel_rfl; kernel_rfl; kernel_rfl; (apply Ok1.move; exact rfl)) <;> (apply A.take 2; exact rfl; exact rfl; kernel_rfl; kernel_rfl; kernel_rfl; (apply Ok1.nilCheck; exact rfl)) <;> (apply A.take 3; exact rfl; exact rfl; kernel_rfl; kernel_rfl; kernel_rfl; (apply Ok1.fieldAddr; (iterate 5 exact rfl))) <;> (apply A.take 4; exact rfl; exact rfl; kernel_rfl; kernel_rfl; kernel_rfl; (apply Ok1.load; exact rfl; (apply Ld.ownk; exact rfl; exact rfl; exact At.head; exact hmc))) <;> (apply A.take 5; exact rfl; exact rfl; kernel_rfl; kernel_rfl; kernel_rfl; (apply Ok1.move; exact rfl)) <;> (apply A.take 6; exact rfl; exact rfl; kernel_rfl; kernel_rfl; kernel_rfl; (apply Ok1.move; exact rfl)) <;> (apply A.take 7; exact rfl; exact rfl; kernel_rfl; kernel_rfl; kernel_rfl; (apply Ok1.nilCheck; exact rfl)) <;> (apply A.take 8; exact rfl; exact rfl; kernel_rfl; kernel_rfl; kernel_rfl; (apply Ok1.fieldAddr; (iterate 5 exact rfl))) <;> (apply A.take 9; exact rfl; exact rfl; kernel_rfl; kernel_rfl; kernel_rfl; (apply Ok1.load; exact rfl; (apply Ld.own1; exact rfl; exact rfl; exact At.head; exact hmb0))) <;> (apply A.take 10; exact rfl; exact rfl; kernel_rfl; kernel_rfl; kernel_rfl; (apply Ok1.move; exact rfl)) <;> (apply A.take 11; exact rfl; exact rfl; kernel_rfl; kernel_rfl; kernel_rfl; (apply Ok1.nilCheck; exact rfl)) <;> (apply A.take 12; exact rfl; exact rfl; kernel_rfl; kernel_rfl; kernel_rfl; (apply Ok1.fieldAddr; (iterate 5 exact rfl))) <;> (apply A.take 13; exact rfl; exact rfl; kernel_rfl; kernel_rfl; kernel_rfl; (apply Ok1.load; exact rfl; (apply Ld.own1; exact rfl; exact rfl; exact At.head; exact hmb1))) <;> (apply A.take 14; exact rfl; exact rfl; kernel_rfl; kernel_rfl; kernel_rfl; (apply Ok1.build; (iterate 5 exact rfl))) <;> (apply A.take 15; exact rfl; exact rfl; kernel_rfl; kernel_rfl; kernel_rfl; (apply Ok1.move; exact rfl)) <;> (apply A.take 16; exact rfl; exact rfl; kernel_rfl; kernel_rfl; kernel_rfl; (apply Ok1.build; (iterate 4 exact rfl); exact hfill _ _ _ _ _ _)) <;> (apply A.one 17; kernel_rfl; exact rfl; (((apply R.alloc; (iterate 3 exact rfl); intro))); apply R.nil; refine ⟨?_, ?_⟩; (focus ((repeat' (first | exact trivial | (refine ⟨?_, ?_⟩; (focus ((repeat' (first | exact At.head | apply At.tail)); done)))))))) <;> (apply A.one 18; kernel_rfl; exact rfl; (((apply R.store; (iterate 4 exact rfl); exact hpl1; exact hPo; exact Upd.head; exact setE_all hpl1))); apply R.nil; refine ⟨?_, ?_⟩; (focus ((repeat' (first | exact trivial | (refine ⟨?_, ?_⟩; (focus ((repeat' (first | exact At.head | apply At.tail)); done)))))))) <;> (apply A.done; kernel_rfl))) | apply T.seq | apply T.region | apply T.skip | apply T.ret | (apply T.cond_f; exact rfl)))
    all_goals (apply RetOk.tt; exact rfl; exact rfl)
    all_goals exact ⟨_, by (focus ((repeat' (first | exact Ext.one _ _ | exact Ext.here _ _ | apply Keep.cons | apply Keep.last | apply Ext.cons | apply Ext.app)); done)), .inr ⟨rfl, ovb, hovb, rfl, rfl⟩⟩
  · have hT : wrT s k c to boot (cnt + 1) body = pkT (chK s k to) k c to boot (cnt + 1) body := by unfold wrT; rw [if_neg h1]
    rw [hT] at hwl ⊢
    have hby1 := hby _ hwl
    clear hby
    have hpl1 := hpl (zI 32) hz
    have hpl2 := hpl _ hwl
    have hset := pk_set k c to boot (cnt + 1) p n cap hz hwl
    have hPo2 := pk_one k c to boot (cnt + 1) p n cap (pkT (chK s k to) k c to boot (cnt + 1) body)
    generalize pkT (chK s k to) k c to boot (cnt + 1) body = TG at *
    generalize pkB k c to boot (cnt + 1) body TG = PB at *
    generalize chK s k to = CK at *
    generalize tabV = tbl at *
    generalize hPK : pkC k c to boot (cnt + 1) p n cap (zI 32) = PK at *
    have hPo : PK.all Value.oneCell' = true := by rw [← hPK]; exact pk_one _ _ _ _ _ _ _ _ _
    clear hPK
    generalize pkC k c to boot (cnt + 1) p n cap TG = PK2 at *
    have hul : (u8s TG).length = 32 := by rw [u8s_len, hwl]
    unfold MB at hky2 ⊢
    generalize mbC c s boot cnt RR = MA at *
    generalize mbC c s boot (cnt + 1) RR = MA2 at *
    refine enterK (tb := tb) Tryz.func60 rfl Tryz.ntmps60 rfl ?_
    repeat' (first | (apply R.is1; first | (apply R.isBin; (apply R.pure; exact rfl; first | (apply Ok1.add64; exact rfl; exact rfl; omega; omega) | (apply Ok1.gtr_f; exact rfl; exact rfl; omega) | (apply Ok1.neq_f; exact rfl; exact rfl; omega))) | (apply R.isCall; first | (apply R.callE (Li := [(bm, .cells ⟨MA⟩ 133 (0, 0))]) (vs := [.agg ⟨tbl⟩, .pointer (some ⟨bm, 0, none⟩), .int .i64 k, .int .i64 to]); (iterate 3 exact rfl); (focus ((repeat' (first | exact Ext.one _ _ | apply Ext.cons)); done)); intro w1 hw1; exact hky2 w1; rintro x Lo ⟨bk, rfl, rfl⟩) | (apply R.pure; exact rfl; (apply Ok1.lenS; (iterate 3 exact rfl)))) | (apply R.pure; exact rfl; first | (apply Ok1.load; exact rfl; first | (apply Ld.ownk; exact rfl; exact rfl; exact At.head; exact subE_all htl) | (apply Ld.own1; exact rfl; exact rfl; (focus ((repeat' (first | exact At.head | apply At.tail)); done)); exact hmb)) | (apply Ok1.move; exact rfl) | (apply Ok1.fieldAddr; (iterate 5 exact rfl)) | (apply Ok1.assign; exact rfl) | (apply Ok1.extract; exact rfl; exact rfl) | (apply Ok1.nilCheck; exact rfl)) | (apply R.box; (iterate 3 exact rfl); intro)) | (apply R.is0; (apply R.store; (iterate 6 exact rfl); (focus ((repeat' (first | exact Upd.head | apply Upd.tail)); done)); exact hms)) | apply R.nil | (apply T.is; first | (apply T.stop1 7) | apply T.seq | apply T.region | apply T.skip | (apply T.cond_f; exact rfl)))
    rename_i b5
    refine ⟨?_⟩
    refine T.weakK (σ' := [(1, .pointer (some ⟨bm, 0, none⟩)), (2, .int .i64 k), (3, .int .i64 to), (4, .slice p n cap), (5, .pointer (some ⟨b5, 0, none⟩)), (12, .slice (some ⟨bk, 0, none⟩) 32 32)]) (L' := [(bm, .cells ⟨MA2⟩ 133 (0, 0)), (b5, .cells ⟨tbl⟩ 31 (0, 0)), (bk, .cells ⟨u8s CK⟩ 128 (0, 0))]) ?_ (by (focus ((repeat' (first | exact Keep.nil _ | exact Ext.one _ _ | apply Keep.cons | apply Ext.cons)); done))) ⟨rfl, rfl, rfl, rfl, rfl, rfl, trivial⟩
    repeat' (first | (apply R.is1; first | (apply R.isBin; (apply R.pure; exact rfl; (apply Ok1.neq_t; exact rfl; exact rfl; omega))) | (apply R.isCall; first | (apply R.callE (vs := [.agg ⟨tbl⟩, .slice (some ⟨bk, 0, none⟩) 32 32, .agg ⟨PK⟩]); (iterate 3 exact rfl); exact Ext.none _; intro w1 hw1; exact htg bk w1 hw1.chg (RdSl.of (junk := []) hw1 (by (focus ((repeat' (first | exact At.head | apply At.tail)); done))) (by rw [fl_u8, List.append_nil])); rintro x Lo ⟨rfl, rfl⟩) | (apply R.callE (vs := [.agg ⟨PK2⟩]); (iterate 3 exact rfl); exact Ext.none _; intro w1 hw1; exact hby1 w1 hw1.chg; rintro x Lo ⟨ovb, hovb, rfl, rfl⟩)) | (apply R.pure; exact rfl; first | (apply Ok1.load; exact rfl; first | (apply Ld.ownk; exact rfl; exact rfl; (focus ((repeat' (first | exact At.head | apply At.tail)); done)); exact subE_all hpl1) | (apply Ld.ownk; exact rfl; exact rfl; (focus ((repeat' (first | exact At.head | apply At.tail)); done)); exact subE_all hpl2) | (apply Ld.ownk; exact rfl; exact rfl; (focus ((repeat' (first | exact At.head | apply At.tail)); done)); exact subE_all htl)) | (apply Ok1.move; exact rfl) | (apply Ok1.fieldAddr; (iterate 5 exact rfl)) | (apply Ok1.assign; exact rfl))) | (apply R.is0; (apply R.store; (iterate 4 exact rfl); exact hul; exact u8s_one _; exact Upd.head; exact hset)) | apply R.nil | (apply T.is; first | (apply T.drawC (id := 7) [0] (by decide); ((apply A.take 0; exact rfl; exact rfl; kernel_rfl; kernel_rfl; kernel_rfl; (apply Ok1.move; exact rfl)) <;> (apply A.take 1; exact rfl; exact rfl; kernel_rfl; kernel_rfl; kernel_rfl; (apply Ok1.move; exact rfl)) <;> (apply A.take 2; exact rfl; exact rfl; kernel_rfl; kernel_rfl; kernel_rfl; (apply Ok1.nilCheck; exact rfl)) <;> (apply A.take 3; exact rfl; exact rfl; kernel_rfl; kernel_rfl; kernel_rfl; (apply Ok1.fieldAddr; (iterate 5 exact rfl))) <;> (apply A.take 4; exact rfl; exact rfl; kernel_rfl; kernel_rfl; kernel_rfl; (apply Ok1.load; exact rfl; (apply Ld.ownk; exact rfl; exact rfl; exact At.head; exact hmc))) <;> (apply A.take 5; exact rfl; exact rfl; kernel_rfl; kernel_rfl; kernel_rfl; (apply Ok1.move; exact rfl)) <;> (apply A.take 6; exact rfl; exact rfl; kernel_rfl; kernel_rfl; kernel_rfl; (apply Ok1.move; exact rfl)) <;> (apply A.take 7; exact rfl; exact rfl; kernel_rfl; kernel_rfl; kernel_rfl; (apply Ok1.nilCheck; exact rfl)) <;> (apply A.take 8; exact rfl; exact rfl; kernel_rfl; kernel_rfl; kernel_rfl; (apply Ok1.fieldAddr; (iterate 5 exact rfl))) <;> (apply A.take 9; exact rfl; exact rfl; kernel_rfl; kernel_rfl; kernel_rfl; (apply Ok1.load; exact rfl; (apply Ld.own1; exact rfl; exact rfl; exact At.head; exact hmb0))) <;> (apply A.take 10; exact rfl; exact rfl; kernel_rfl; kernel_rfl; kernel_rfl; (apply Ok1.move; exact rfl)) <;> (apply A.take 11; exact rfl; exact rfl; kernel_rfl; kernel_rfl; kernel_rfl; (apply Ok1.nilCheck; exact rfl)) <;> (apply A.take 12; exact rfl; exact rfl; kernel_rfl; kernel_rfl; kernel_rfl; (apply Ok1.fieldAddr; (iterate 5 exact rfl))) <;> (apply A.take 13; exact rfl; exact rfl; kernel_rfl; kernel_rfl; kernel_rfl; (apply Ok1.load; exact rfl; (apply Ld.own1; exact rfl; exact rfl; exact At.head; exact hmb1))) <;> (apply A.take 14; exact rfl; exact rfl; kernel_rfl; kernel_rfl; kernel_rfl; (apply Ok1.build; (iterate 5 exact rfl))) <;> (apply A.take 15; exact rfl; exact rfl; kernel_rfl; kernel_rfl; kernel_rfl; (apply Ok1.move; exact rfl)) <;> (apply A.take 16; exact rfl; exact rfl; kernel_rfl; kernel_rfl; kernel_rfl; (apply Ok1.build; (iterate 4 exact rfl); exact hfill _ _ _ _ _ _)) <;> (apply A.one 17; kernel_rfl; exact rfl; (((apply R.alloc; (iterate 3 exact rfl); intro))); apply R.nil; refine ⟨?_, ?_⟩; (focus ((repeat' (first | exact trivial | (refine ⟨?_, ?_⟩; (focus ((repeat' (first | exact At.head | apply At.tail)); done)))))))) <;> (apply A.one 18; kernel_rfl; exact rfl; (((apply R.store; (iterate 4 exact rfl); exact hpl1; exact hPo; exact Upd.head; exact setE_all hpl1))); apply R.nil; refine ⟨?_, ?_⟩; (focus ((repeat' (first | exact trivial | (refine ⟨?_, ?_⟩; (focus ((repeat' (first | exact At.head | apply At.tail)); done)))))))) <;> (apply A.done; kernel_rfl))) | apply T.seq | apply T.region | apply T.ret | (apply T.cond_t; exact rfl)))
    all_goals (apply RetOk.tt; exact rfl; exact rfl)
    all_goals exact ⟨_, by (focus ((repeat' (first | exact Ext.one _ _ | exact Ext.here _ _ | apply Keep.cons | apply Keep.last | apply Ext.cons | apply Ext.app)); done)), .inr ⟨rfl, ovb, hovb, rfl, rfl⟩⟩
end Go.Proofs.YtidjnjlejhoalaaGreat
set_option linter.unusedSimpArgs false
set_option linter.unusedVariables false
namespace Go.Proofs.YtidjnjlejhoalaaGreat
open Go.RowKit Go.Shelf
set_option maxRecDepth 100000
theorem u64_rangeM (v : Int) : 0 ≤ IntKind.u64.wrap v ∧ IntKind.u64.wrap v ≤ 18446744073709551615 := by
  have : IntKind.u64.wrap v = v % 18446744073709551616 := by simp [IntKind.wrap, IntKind.bits, IntKind.signed]
  omega
/-- The claims that a token is made of. -/
noncomputable def tcl (c : Cl) : Cl := open Classical in if c.right then c else ⟨1, 0, 0, 1⟩
theorem tcl_right (c : Cl) : (tcl c).right := by
  unfold tcl
  split
  · assumption
  · decide
theorem ltoken_any (p : Option Addr) (n cap : Nat) (k : List Int) (hn : n = k.length) (hkl : n ≤ 999999000) (hkb : Byt k) (c : Cl) (w : World) (hp : RdSl w p u8V k) :
    CallM Tryz.prog 148 [.slice p n cap, kvC c] [] w fun v L => v = .agg ⟨tkC (tcl c) (secretI k (tcl c))⟩ ∧ L = [] := by
  by_cases hr : c.right
  · have ht : tcl c = c := by unfold tcl; rw [if_pos hr]
    rw [ht]
    exact CallW.toM (ltoken_ok p n cap k hn hkl hkb c hr w hp)
  have ht : tcl c = ⟨1, 0, 0, 1⟩ := by unfold tcl; rw [if_neg hr]
  rw [ht]
  subst hn
  have hr1 : (⟨1, 0, 0, 1⟩ : Cl).right := by decide
  have hsl := secret_len k ⟨1, 0, 0, 1⟩
  have hmk := fun bk w1 hk => make_ok ⟨1, 0, 0, 1⟩ hr1 bk k hkl hkb w1 hk
  have hmb := fun bk => make_bad c hr bk
  generalize secretI k ⟨1, 0, 0, 1⟩ = d at *
  have htl := tk_len (c := ⟨1, 0, 0, 1⟩) hsl
  have hto := tk_one ⟨1, 0, 0, 1⟩ d
  have htl0 : (tkC ⟨0, 0, 0, 0⟩ (zI 32)).length = 36 := rfl
  refine enterK (tb := tb) Tryz.func148 rfl Tryz.ntmps148 rfl ?_
  simp only [kvC] at hmk hmb ⊢
  repeat' (first | (apply R.is1; first | (apply R.isBin; (apply R.pure; exact rfl; (apply Ok1.neq_t; exact rfl; exact rfl; omega))) | (apply R.isCall; first | (apply R.callE (vs := [.slice p k.length cap]); (iterate 3 exact rfl); exact Ext.none _; intro w1 hw1; exact new_ok p k.length cap k rfl (by omega) w1 (hp.chg' hw1.chg (fun _ => Off.nil _)); rintro v Lo ⟨bk2, ov2, rfl, hov2, _, rfl⟩) | (apply R.callV (vs := [.pointer (some ⟨bk2, 0, none⟩), .agg _]); (iterate 3 exact rfl); intro w1 hw1; exact hmk bk2 w1 (KeyR.of hov2 hw1 (Ext.mem (by (focus ((repeat' (exact Ext.here _ _)); done))))))) | (apply R.pure; exact rfl; first | (apply Ok1.load; exact rfl; apply Ld.ownk; exact rfl; exact rfl; (focus ((repeat' (first | exact At.head | apply At.tail | apply At.right)); done)); exact subE_all htl) | (apply Ok1.move; exact rfl) | (apply Ok1.build; (iterate 5 exact rfl)) | (apply Ok1.extract; exact rfl; exact rfl)) | (apply R.box; (iterate 3 exact rfl); intro) | (apply R.alloc; (iterate 3 exact rfl); intro)) | (apply R.is0; (apply R.store; (iterate 4 exact rfl); exact htl; exact hto; (focus ((repeat' (first | exact Upd.head | apply Upd.tail | apply Upd.right)); done)); exact setE_all htl)) | apply R.nil | (apply T.is; first | (apply T.drawC (id := 1) [1] (by decide); ((apply A.take 0; exact rfl; exact rfl; kernel_rfl; kernel_rfl; kernel_rfl; (apply Ok1.move; exact rfl)) <;> (apply A.take 2; exact rfl; exact rfl; kernel_rfl; kernel_rfl; kernel_rfl; (apply Ok1.load; exact rfl; (apply Ld.ownk; exact rfl; exact rfl; exact At.head; exact rfl))) <;> (apply A.two 1 8; kernel_rfl; exact rfl; exact rfl; rotate_left 1; (focus (((((apply R.alloc; (iterate 3 exact rfl); intro))); apply R.nil; refine ⟨?_, ?_⟩; (focus ((repeat' (first | exact trivial | (refine ⟨?_, ?_⟩; (focus ((repeat' (first | exact At.head | apply At.tail)); done)))))))) <;> (apply A.one 1; kernel_rfl; exact rfl; (((apply R.callE (vs := [.slice p k.length cap]); (iterate 3 exact rfl); exact Ext.none _; intro w1 hw1; exact new_ok p k.length cap k rfl (by omega) w1 (hp.chg' hw1.chg (fun _ => Off.nil _)); rintro v Lo ⟨bk2, ov2, rfl, hov2, _, rfl⟩))); apply R.nil; refine ⟨?_, ?_⟩; (focus ((repeat' (first | exact trivial | (refine ⟨?_, ?_⟩; (focus ((repeat' (first | exact At.head | apply At.tail | apply At.right)); done)))))))) <;> (apply A.call 3; exact rfl; exact rfl; kernel_rfl; kernel_rfl; kernel_rfl; exact rfl; exact rfl; (exact fun w1 _ => (to5_ok _ _ _ _).w w1)) <;> (apply A.one 4; kernel_rfl; exact rfl; (((apply R.callP (vs := [.pointer (some ⟨_, 0, none⟩), .agg ⟨[.int .i64 c.id, .int .i64 c.roles, .int .i64 c.exp, .int .i64 c.ser]⟩]); (iterate 3 exact rfl); exact hmb _))); apply R.nil; refine ⟨?_, ?_⟩; (focus ((repeat' (first | exact trivial | (refine ⟨?_, ?_⟩; (focus ((repeat' (first | exact At.head | apply At.tail | apply At.right)); done)))))))) <;> (apply A.take 5; exact rfl; exact rfl; kernel_rfl; kernel_rfl; kernel_rfl; (apply Ok1.move; exact rfl)) <;> (apply A.take 6; exact rfl; exact rfl; kernel_rfl; kernel_rfl; kernel_rfl; (apply Ok1.extract; exact rfl; exact rfl)) <;> (apply A.take 7; exact rfl; exact rfl; kernel_rfl; kernel_rfl; kernel_rfl; (apply Ok1.extract; exact rfl; exact rfl)) <;> (apply A.one 9; kernel_rfl; exact rfl; (((apply R.store; (iterate 4 exact rfl); exact htl0; exact rfl; (focus ((repeat' (first | exact Upd.head | apply Upd.tail | apply Upd.right)); done)); exact setE_all htl0))); apply R.nil; refine ⟨?_, ?_⟩; (focus ((repeat' (first | exact trivial | (refine ⟨?_, ?_⟩; (focus ((repeat' (first | exact At.head | apply At.tail | apply At.right)); done)))))))) <;> (apply A.take 10; exact rfl; exact rfl; kernel_rfl; kernel_rfl; kernel_rfl; (apply Ok1.assign; exact rfl)) <;> (apply A.done; kernel_rfl))); rotate_right 1; (focus (((((apply R.callE (vs := [.slice p k.length cap]); (iterate 3 exact rfl); exact Ext.none _; intro w1 hw1; exact new_ok p k.length cap k rfl (by omega) w1 (hp.chg' hw1.chg (fun _ => Off.nil _)); rintro v Lo ⟨bk2, ov2, rfl, hov2, _, rfl⟩))); apply R.nil; refine ⟨?_, ?_⟩; (focus ((repeat' (first | exact trivial | (refine ⟨?_, ?_⟩; (focus ((repeat' (first | exact At.head | apply At.tail | apply At.right)); done)))))))) <;> (apply A.call 3; exact rfl; exact rfl; kernel_rfl; kernel_rfl; kernel_rfl; exact rfl; exact rfl; (exact fun w1 _ => (to5_ok _ _ _ _).w w1)) <;> (apply A.two 4 8; kernel_rfl; exact rfl; exact rfl; rotate_left 1; (focus (((((apply R.alloc; (iterate 3 exact rfl); intro))); apply R.nil; refine ⟨?_, ?_⟩; (focus ((repeat' (first | exact trivial | (refine ⟨?_, ?_⟩; (focus ((repeat' (first | exact At.head | apply At.tail | apply At.right)); done)))))))) <;> (apply A.one 4; kernel_rfl; exact rfl; (((apply R.callP (vs := [.pointer (some ⟨_, 0, none⟩), .agg ⟨[.int .i64 c.id, .int .i64 c.roles, .int .i64 c.exp, .int .i64 c.ser]⟩]); (iterate 3 exact rfl); exact hmb _))); apply R.nil; refine ⟨?_, ?_⟩; (focus ((repeat' (first | exact trivial | (refine ⟨?_, ?_⟩; (focus ((repeat' (first | exact At.head | apply At.tail | apply At.right)); done)))))))) <;> (apply A.take 5; exact rfl; exact rfl; kernel_rfl; kernel_rfl; kernel_rfl; (apply Ok1.move; exact rfl)) <;> (apply A.take 6; exact rfl; exact rfl; kernel_rfl; kernel_rfl; kernel_rfl; (apply Ok1.extract; exact rfl; exact rfl)) <;> (apply A.take 7; exact rfl; exact rfl; kernel_rfl; kernel_rfl; kernel_rfl; (apply Ok1.extract; exact rfl; exact rfl)) <;> (apply A.one 9; kernel_rfl; exact rfl; (((apply R.store; (iterate 4 exact rfl); exact htl0; exact rfl; exact Upd.head; exact setE_all htl0))); apply R.nil; refine ⟨?_, ?_⟩; (focus ((repeat' (first | exact trivial | (refine ⟨?_, ?_⟩; (focus ((repeat' (first | exact At.head | apply At.tail | apply At.right)); done)))))))) <;> (apply A.take 10; exact rfl; exact rfl; kernel_rfl; kernel_rfl; kernel_rfl; (apply Ok1.assign; exact rfl)) <;> (apply A.done; kernel_rfl))); rotate_right 1; (focus (((((apply R.callP (vs := [.pointer (some ⟨_, 0, none⟩), .agg ⟨[.int .i64 c.id, .int .i64 c.roles, .int .i64 c.exp, .int .i64 c.ser]⟩]); (iterate 3 exact rfl); exact hmb _))); apply R.nil; refine ⟨?_, ?_⟩; (focus ((repeat' (first | exact trivial | (refine ⟨?_, ?_⟩; (focus ((repeat' (first | exact At.head | apply At.tail | apply At.right)); done)))))))) <;> (apply A.take 5; exact rfl; exact rfl; kernel_rfl; kernel_rfl; kernel_rfl; (apply Ok1.move; exact rfl)) <;> (apply A.take 6; exact rfl; exact rfl; kernel_rfl; kernel_rfl; kernel_rfl; (apply Ok1.extract; exact rfl; exact rfl)) <;> (apply A.take 7; exact rfl; exact rfl; kernel_rfl; kernel_rfl; kernel_rfl; (apply Ok1.extract; exact rfl; exact rfl)) <;> (apply A.one 8; kernel_rfl; exact rfl; (((apply R.alloc; (iterate 3 exact rfl); intro))); apply R.nil; refine ⟨?_, ?_⟩; (focus ((repeat' (first | exact trivial | (refine ⟨?_, ?_⟩; (focus ((repeat' (first | exact At.head | apply At.tail | apply At.right)); done)))))))) <;> (apply A.one 9; kernel_rfl; exact rfl; (((apply R.store; (iterate 4 exact rfl); exact htl0; exact rfl; exact Upd.head; exact setE_all htl0))); apply R.nil; refine ⟨?_, ?_⟩; (focus ((repeat' (first | exact trivial | (refine ⟨?_, ?_⟩; (focus ((repeat' (first | exact At.head | apply At.tail | apply At.right)); done)))))))) <;> (apply A.take 10; exact rfl; exact rfl; kernel_rfl; kernel_rfl; kernel_rfl; (apply Ok1.assign; exact rfl)) <;> (apply A.done; kernel_rfl))))))))) | apply T.seq | apply T.region | apply T.ret | (apply T.cond_t; exact rfl)))
  all_goals apply RetOk.c
  all_goals first | exact rfl | skip
  all_goals first | (apply Ld.ownk; exact rfl; exact rfl; (focus ((repeat' (first | exact At.head | apply At.tail | apply At.right)); done)); exact subE_all htl) | exact ⟨_, by (focus ((repeat' (exact Keep.nil _)); done)), rfl, rfl⟩
/-- A boot out of any number. -/
def btI (n : Int) : Int := 1 + IntKind.u64.wrap n % 65535
theorem btI_nr (n : Int) : NR (btI n) 1 := by
  unfold btI NR
  obtain ⟨h0, h1⟩ := u64_rangeM n
  generalize IntKind.u64.wrap n = u at *
  omega
/-- The rest of a new member's cells. -/
def mbR0 : List Value := [.slice none 0 0, .slice none 0 0, .slice none 0 0, .slice none 0 0, .slice none 0 0, .slice none 0 0, .slice none 0 0, .slice none 0 0, .slice none 0 0, .int .i64 0]
theorem fill_mb (c : Cl) (s : List Int) (hs : s.length = 32) (boot : Int) (a b d e f g h i : Nat) : fillE (fldPl [(a, 0, 4), (b, 4, 32), (d, 36, 1), (e, 37, 1), (f, 38, 1), (g, 39, 4), (h, 43, 4), (i, 47, 1)]) (mbC ⟨0, 0, 0, 0⟩ (zI 32) 0 0 mbR0) [(0, .agg ⟨clC c⟩), (1, .agg ⟨u8s s⟩), (2, .int .i64 boot)] = some (mbC c s boot 0 mbR0) := by
  obtain ⟨x0, x1, x2, x3, x4, x5, x6, x7, x8, x9, x10, x11, x12, x13, x14, x15, x16, x17, x18, x19, x20, x21, x22, x23, x24, x25, x26, x27, x28, x29, x30, x31, rfl⟩ := list32 s hs
  rfl
theorem tk_sc (c : Cl) {s : List Int} (hs : s.length = 32) : subE (tkC c s) 4 32 = some (u8s s) := by
  show subE (u8s s) 0 32 = some (u8s s)
  exact subE_all (by rw [u8s_len, hs])
theorem mb_one (c : Cl) (s : List Int) (boot n : Int) (RR : List Value) (h : RR.all Value.oneCell' = true) : (mbC c s boot n RR).all Value.oneCell' = true := by
  unfold mbC
  simp only [List.all_append, List.all_cons, u8s_one, Bool.true_and, h, Bool.and_true]
  rfl
theorem make16_ok (p : Option Addr) (n cap : Nat) (x : List Int) (hn : n = x.length) (hcap : n ≤ cap) (hb : Byt x) (c : Cl) (boot : Int) (w : World) (hp : RdSl w p u8V x) :
    CallM Tryz.prog 57 [.slice p n cap, kvC c, .int .i64 boot, .slice none 0 0, .slice none 0 0] [] w fun v L => ∃ s bc bn br bb bd bm m1 m2 sd dr bM bS, s.length = 32 ∧ Byt s ∧ v = .tuple #[.pointer (some ⟨bc, 0, none⟩), .pointer (some ⟨bM, 0, none⟩), .pointer (some ⟨bS, 0, none⟩)] ∧ L = MB bM (tcl c) s (btI boot) 0 mbR0 :: (SetL bS [lg0, lg0, lg0, lg0] ++ ChL bc bn br bb bd bm m1 m2 (tcl c) s (btI boot) sd dr) := by
  obtain ⟨m0, hm0⟩ : ∃ m, m = min n 60 := ⟨_, rfl⟩
  have e0 : min (n : Int) 60 = (m0 : Nat) := by omega
  have l0 : m0 = (x.take m0).length := by rw [List.length_take]; omega
  have htk := fun w1 (h : Chg [] w w1) => ltoken_any p m0 cap (x.take m0) l0 (by omega) (fun y hy => hb y (List.mem_of_mem_take hy)) c w1 ((hp.pre u8V_len m0).chg' h (fun _ => Off.nil _))
  have hr := tcl_right c
  have hsl := secret_len (x.take m0) (tcl c)
  have hsb := secret_byt (x.take m0) (tcl c)
  simp only [kvC] at htk
  generalize secretI (x.take m0) (tcl c) = s at *
  generalize tcl c = d at *
  have htl := tk_len (c := d) hsl
  have hto := tk_one d s
  have htc := tk_cl d s
  have hts := tk_sc d hsl
  have hnr := btI_nr boot
  obtain ⟨hu0, hu1⟩ := u64_rangeM boot
  have hbt : 1 + IntKind.u64.wrap boot % 65535 = btI boot := rfl
  refine enterK (tb := tb) Tryz.func57 rfl Tryz.ntmps57 rfl ?_
  simp only [kvC]
  repeat' (first | (apply R.is1; first | (apply R.isBin; (apply R.pure; exact rfl; first | (apply Ok1.add64; exact rfl; exact rfl; omega; omega) | (apply Ok1.remN; exact rfl; exact rfl; omega; omega))) | (apply R.pure; exact rfl; first | (apply Ok1.move; exact rfl) | (apply Ok1.assign; exact rfl) | (apply Ok1.convI64; (iterate 5 exact rfl); omega; omega) | (apply Ok1.conv; (iterate 5 exact rfl))) | (apply R.box; (iterate 3 exact rfl); intro)) | apply R.nil | (apply T.is; first | (apply T.stop1 3) | (apply T.drawC (id := 1) [0] (by decide); ((apply A.take 0; exact rfl; exact rfl; kernel_rfl; kernel_rfl; kernel_rfl; (apply Ok1.move; exact rfl)) <;> (apply A.take 1; exact rfl; exact rfl; kernel_rfl; kernel_rfl; kernel_rfl; (apply Ok1.move; exact rfl)) <;> (apply A.take 2; exact rfl; exact rfl; kernel_rfl; kernel_rfl; kernel_rfl; (apply Ok1.lenS; (iterate 3 exact rfl))) <;> (apply A.take 3; exact rfl; exact rfl; kernel_rfl; kernel_rfl; kernel_rfl; (apply Ok1.min2E; exact rfl; exact rfl; exact e0)) <;> (apply A.take 4; exact rfl; exact rfl; kernel_rfl; kernel_rfl; kernel_rfl; (apply Ok1.preR (i := m0); (iterate 5 exact rfl); omega)) <;> (apply A.take 5; exact rfl; exact rfl; kernel_rfl; kernel_rfl; kernel_rfl; (apply Ok1.load; exact rfl; (apply Ld.ownk; exact rfl; exact rfl; exact At.head; exact rfl))) <;> (apply A.two 6 7; kernel_rfl; exact rfl; exact rfl; rotate_left 1; (focus (((((apply R.alloc; (iterate 3 exact rfl); intro))); apply R.nil; refine ⟨?_, ?_⟩; (focus ((repeat' (first | exact trivial | (refine ⟨?_, ?_⟩; (focus ((repeat' (first | exact At.head | apply At.tail)); done)))))))) <;> (apply A.one 6; kernel_rfl; exact rfl; (((apply R.callE (vs := [.slice p m0 cap, .agg _]); (iterate 3 exact rfl); exact Ext.none _; intro w1 hw1; exact htk w1 hw1.chg; rintro v Lo ⟨rfl, rfl⟩))); apply R.nil; refine ⟨?_, ?_⟩; (focus ((repeat' (first | exact trivial | (refine ⟨?_, ?_⟩; (focus ((repeat' (first | exact At.head | apply At.tail)); done)))))))) <;> (apply A.one 8; kernel_rfl; exact rfl; (((apply R.store; (iterate 4 exact rfl); exact htl; exact hto; exact Upd.head; exact setE_all htl))); apply R.nil; refine ⟨?_, ?_⟩; (focus ((repeat' (first | exact trivial | (refine ⟨?_, ?_⟩; (focus ((repeat' (first | exact At.head | apply At.tail)); done)))))))) <;> (apply A.done; kernel_rfl))); rotate_right 1; (focus (((((apply R.callE (vs := [.slice p m0 cap, .agg _]); (iterate 3 exact rfl); exact Ext.none _; intro w1 hw1; exact htk w1 hw1.chg; rintro v Lo ⟨rfl, rfl⟩))); apply R.nil; refine ⟨?_, ?_⟩; (focus ((repeat' (first | exact trivial | (refine ⟨?_, ?_⟩; exact At.head)))))) <;> (apply A.one 7; kernel_rfl; exact rfl; (((apply R.alloc; (iterate 3 exact rfl); intro))); apply R.nil; refine ⟨?_, ?_⟩; (focus ((repeat' (first | exact trivial | (refine ⟨?_, ?_⟩; (focus ((repeat' (first | exact At.head | apply At.tail)); done)))))))) <;> (apply A.one 8; kernel_rfl; exact rfl; (((apply R.store; (iterate 4 exact rfl); exact htl; exact hto; exact Upd.head; exact setE_all htl))); apply R.nil; refine ⟨?_, ?_⟩; (focus ((repeat' (first | exact trivial | (refine ⟨?_, ?_⟩; (focus ((repeat' (first | exact At.head | apply At.tail)); done)))))))) <;> (apply A.done; kernel_rfl)))))) | apply T.seq | apply T.region))
  all_goals refine ⟨?_⟩
  all_goals rename_i b6 b13
  all_goals rw [hbt]
  all_goals clear hbt hu0 hu1
  all_goals generalize btI boot = B at *
  all_goals have hfb := fun a b d1 e f g h i => fill_mb d s hsl B a b d1 e f g h i
  all_goals have hcn := fun w1 => chnew_ok d hr s hsl B hnr w1
  all_goals have hrn := fun w1 => rnew_ok w1
  all_goals unfold MB
  all_goals have hmo := mb_one d s B 0 mbR0 rfl
  all_goals generalize hMM : mbC d s B 0 mbR0 = MM at *
  all_goals repeat' (first | (apply R.is1; first | (apply R.isCall; first | (apply R.callE (vs := [.agg ⟨tkC d s⟩, .int .i64 B]); (iterate 3 exact rfl); exact Ext.none _; intro w1 hw1; exact hcn w1; rintro x Lo ⟨bc, bn, br, bb, bd, bm, m1, m2, sd, dr, rfl, rfl⟩) | (apply R.callE (vs := []); (iterate 3 exact rfl); exact Ext.none _; intro w1 hw1; exact hrn w1; rintro x Lo ⟨bS, rfl, rfl⟩)) | (apply R.pure; exact rfl; first | (apply Ok1.load; exact rfl; (apply Ld.ownk; exact rfl; exact rfl; exact At.head; exact subE_all htl)) | (apply Ok1.move; exact rfl) | (apply Ok1.assign; exact rfl) | (apply Ok1.extract; exact rfl; exact rfl))) | apply R.nil | (apply T.is; first | (apply T.stop1 5) | apply T.seq | apply T.region))
  all_goals refine ⟨?_⟩
  all_goals generalize hSS : SetL bS [lg0, lg0, lg0, lg0] = SS at *
  all_goals generalize hCC : ChL bc bn br bb bd bm m1 m2 d s B sd dr = CC at *
  all_goals refine T.weakK (σ' := [(2, .int .i64 B), (3, .slice none 0 0), (4, .slice none 0 0), (13, .pointer (some ⟨b13, 0, none⟩)), (14, .pointer (some ⟨bc, 0, none⟩)), (15, .int .i64 0), (16, .pointer (some ⟨bS, 0, none⟩))]) (L' := (b13, .cells ⟨tkC d s⟩ 142 (0, 0)) :: (SS ++ CC)) ?_ (by (focus ((repeat' (first | exact Ext.one _ _ | exact Ext.here _ _ | apply Keep.cons | apply Keep.app | apply Keep.last | apply Ext.app)); done))) ⟨rfl, rfl, rfl, rfl, rfl, rfl, rfl, trivial⟩
  all_goals have hof := of5_ok d.id d.roles d.exp d.ser
  all_goals generalize tkC d s = TK at *
  all_goals repeat' (first | (apply R.is1; first | (apply R.isBin; (apply R.pure; exact rfl; first | (apply Ok1.eqlP; (iterate 5 exact rfl)) | (apply Ok1.lss_f; exact rfl; exact rfl; omega) | (apply Ok1.neq_f; exact rfl; exact rfl; omega))) | (apply R.isCall; (apply R.pure; exact rfl; (apply Ok1.lenS; (iterate 3 exact rfl)))) | (apply R.pure; exact rfl; first | (apply Ok1.move; exact rfl) | (apply Ok1.assign; exact rfl) | (apply Ok1.pick_f; exact rfl; exact rfl))) | (apply R.isG; first | (apply R.guard_run; exact rfl; exact rfl) | (apply R.guard_not; (iterate 3 exact rfl))) | apply R.nil | (apply T.is; first | apply T.rounds 2 | (apply T.drawC (id := 5) [0] (by decide); ((apply A.take 0; exact rfl; exact rfl; kernel_rfl; kernel_rfl; kernel_rfl; (apply Ok1.fieldAddr; (iterate 5 exact rfl))) <;> (apply A.take 1; exact rfl; exact rfl; kernel_rfl; kernel_rfl; kernel_rfl; (apply Ok1.load; exact rfl; (apply Ld.ownk; exact rfl; exact rfl; exact At.head; exact htc))) <;> (apply A.take 3; exact rfl; exact rfl; kernel_rfl; kernel_rfl; kernel_rfl; (apply Ok1.fieldAddr; (iterate 5 exact rfl))) <;> (apply A.take 4; exact rfl; exact rfl; kernel_rfl; kernel_rfl; kernel_rfl; (apply Ok1.load; exact rfl; (apply Ld.ownk; exact rfl; exact rfl; exact At.head; exact hts))) <;> (apply A.take 5; exact rfl; exact rfl; kernel_rfl; kernel_rfl; kernel_rfl; (apply Ok1.move; exact rfl)) <;> (apply A.one 2; kernel_rfl; exact rfl; ((apply R.callP rfl rfl rfl hof)); apply R.nil; refine ⟨?_, ?_⟩; (focus ((repeat' (first | exact trivial | (refine ⟨?_, ?_⟩; exact At.head)))))) <;> (apply A.take 6; exact rfl; exact rfl; kernel_rfl; kernel_rfl; kernel_rfl; (apply Ok1.build; (iterate 4 exact rfl); exact hfb _ _ _ _ _ _ _ _)) <;> (apply A.one 7; kernel_rfl; exact rfl; (((apply R.box; (iterate 3 exact rfl); intro))); apply R.nil; refine ⟨?_, ?_⟩; (focus ((repeat' (first | exact trivial | (refine ⟨?_, ?_⟩; (focus ((repeat' (first | exact At.head | apply At.tail)); done)))))))) <;> (apply A.take 8; exact rfl; exact rfl; kernel_rfl; kernel_rfl; kernel_rfl; (apply Ok1.assign; exact rfl)) <;> (apply A.done; kernel_rfl))) | apply T.seq | apply T.region | apply T.block | apply T.skip | apply T.exit | apply T.ret | (apply T.cond_f; exact rfl)))
  all_goals (apply RetOk.ttt; (iterate 3 exact rfl))
  all_goals refine ⟨_ :: (SS ++ CC), by (focus ((repeat' (first | exact Ext.one _ _ | exact Ext.here _ _ | exact Ext.all _ | apply Keep.cons | apply Keep.app | apply Keep.last | apply Ext.cons)); done)), ?_⟩
  all_goals subst hSS hCC hMM
  all_goals exact ⟨s, bc, bn, br, bb, bd, bm, m1, m2, sd, dr, _, bS, hsl, hsb, rfl, rfl⟩
end Go.Proofs.YtidjnjlejhoalaaGreat
set_option linter.unusedSimpArgs false
set_option linter.unusedVariables false
namespace Go.Proofs.YtidjnjlejhoalaaGreat
open Go.RowKit Go.Shelf
set_option maxRecDepth 100000
/-- A joiner's cells. -/
def jnC (bc : Nat) (S st sd la : Int) (q : Option Addr) (m cap : Nat) : List Value := [.pointer (some ⟨bc, 0, none⟩), .int .i64 S, .int .i64 st, .int .i64 sd, .int .i64 la, .slice q m cap]
end Go.Proofs.YtidjnjlejhoalaaGreat
set_option linter.unusedSimpArgs false
set_option linter.unusedVariables false
namespace Go.Proofs.YtidjnjlejhoalaaGreat
open Go.RowKit Go.Shelf
set_option maxRecDepth 100000
theorem Hp.neT {w0 w : World} {S : List Nat} {L : Lst} {b1 b2 : Nat} {c1 c2 : Array Value} {e1 e2 : TypeId} {f1 f2 : Nat × Nat} (hw : Hp w0 S L w) (h1 : At L b1 (.cells c1 e1 f1)) (h2 : At L b2 (.cells c2 e2 f2)) (he : e1 ≠ e2) : b1 ≠ b2 := by
  rintro rfl
  have g1 := hw.get _ _ h1.mem
  have g2 := hw.get _ _ h2.mem
  rw [g1] at g2
  injection g2 with g3
  injection g3 with _ g4
  exact he g4
/-- A joiner's blocks, that its channel and ring lie there too. -/
structure JAt (L : Lst) (bj bc bn br bb bd m1 m2 : Nat) (sd0 : List Value) (c : Cl) (s : List Int) (S st sd la : Int) (q : Option Addr) (m cap : Nat) (boot cnt : Int) : Prop where
  aj : At L bj (.cells ⟨jnC bc S st sd la q m cap⟩ 314 (0, 0))
  an : At L bn (.cells ⟨[.int .i64 boot, .int .i64 cnt]⟩ 379 (0, 0))
  ac : At L bc (.cells ⟨chC bn br bb bd sd0⟩ 275 (0, 0))
  ar : At L br (.cells ⟨ringC c s m1 m2⟩ 300 (0, 0))
theorem JAt.off {L : Lst} {bj bc bn br bb bd m1 m2 : Nat} {sd0 : List Value} {c : Cl} {s : List Int} {S st sd la : Int} {q : Option Addr} {m cap : Nat} {boot cnt : Int} (h : JAt L bj bc bn br bb bd m1 m2 sd0 c s S st sd la q m cap boot cnt) {w0 w : World} {S0 : List Nat} (hw : Hp w0 S0 L w) : bc ∉ [bj, bn] ∧ br ∉ [bj, bn] := by
  have h1 := hw.neT h.ac h.aj (by decide)
  have h2 := hw.neT h.ac h.an (by decide)
  have h3 := hw.neT h.ar h.aj (by decide)
  have h4 := hw.neT h.ar h.an (by decide)
  simp only [List.mem_cons, List.not_mem_nil, or_false, not_or]
  exact ⟨⟨h1, h2⟩, h3, h4⟩
end Go.Proofs.YtidjnjlejhoalaaGreat
