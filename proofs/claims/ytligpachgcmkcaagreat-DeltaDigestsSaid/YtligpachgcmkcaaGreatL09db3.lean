/- Texts of the proof: Dg7, Eng28, Wi2, Eng29, Sl3, Wr2, Pc1, Sl4, Eng20, Sl6, Rv3, Rv4, Rv5, Rv6, Rv7, Rv8, Rv9, Rs1, Rb3. -/
import Derived.Test.YtligpachgcmkcaaGreatL09db2
import Derived.Lib.ConvBytes
import Derived.Lib.RowBridge
import Derived.Test.YtligpachgcmkcaaGreatShelf
import Derived.Shelf.SortM.Plain
import Derived.Shelf.SortM.SortNone
import Derived.Shelf.SlicesG.CompactI
import Derived.RangeFuncRecord
import Derived.TacticsIn
set_option linter.unusedSimpArgs false
set_option linter.unusedVariables false
namespace Go.Proofs.YtligpachgcmkcaaGreat
open Go.RowKit Go.Shelf
set_option maxRecDepth 100000
theorem rCopy_ok (r : Nat) (st : RS) (b : List Int) (hI : RuI st b) (hbig : b.length ≤ 1000000000) (w : World) (hb : w.heap[r]? = some (.cells ⟨st.s.v ++ rnC st⟩ 95 (0, 0))) (hl : RdSl w st.p u8V st.lf) :
    CallM Tryz.prog 61 [.pointer (some ⟨r, 0, none⟩)] [] w fun v L => ∃ r' st', v = .pointer (some ⟨r', 0, none⟩) ∧ L = RL r' st' ∧ RuI st' b := by
  refine enterK (tb := tb) Tryz.func61 rfl Tryz.ntmps61 rfl ?_
  have hll := left_len b
  rw [← hI.left] at hll
  obtain ⟨on, s, ov, xs, p1, cap1, k, lf, n⟩ := st
  simp only [RL, rnC, H8.v, H8.l, u32s, List.map_cons, List.map_nil, List.cons_append, List.nil_append] at hb hl hll ⊢
  have hcl := fun w1 (hc : Chg [] w w1) => clone_ok p1 lf.length cap1 lf rfl (by omega) w1 (hl.chg hc (Off.nil _))
  repeat' (first | (apply R.is1; first | (apply R.isBin; (apply R.pure; exact rfl; (apply Ok1.eqlP; (iterate 5 exact rfl)))) | (apply R.isCall; (apply R.callE; (iterate 3 exact rfl); exact Ext.none _; intro w1 hw1; exact hcl w1 hw1.chg; rintro v Lo ⟨ov2, hov2, hsome, rfl, rfl⟩; rw [slV_eq hov2])) | (apply R.pure; exact rfl; first | (apply Ok1.move; exact rfl) | (apply Ok1.fieldAddr; (iterate 5 exact rfl)) | (apply Ok1.load; exact rfl; first | (apply Ld.blk1; exact rfl; exact rfl; assumption; (exact List.not_mem_nil); exact rfl) | (apply Ld.blkk; exact rfl; exact rfl; assumption; (exact List.not_mem_nil); exact rfl)) | (apply Ok1.assign; exact rfl) | (apply Ok1.nilCheck; exact rfl)) | (apply R.alloc; (iterate 3 exact rfl); intro)) | (apply R.is0; (apply R.store; (iterate 6 exact rfl); (focus ((repeat' (first | exact Upd.head | apply Upd.right)); done)); exact rfl)) | apply R.nil | (apply T.is; first | apply T.seq | apply T.region | apply T.skip | apply T.ret | (apply T.cond_f; exact rfl)))
  rename_i br
  (apply RetOk.t; exact rfl)
  refine ⟨_, ?_, br, ⟨on, s, ov2, lf, ovp ov2, ovc ov2 lf.length, 0, lf, n⟩, rfl, rfl, ⟨hov2, Sfx.refl _ _, rfl, ?_, hI.n, hI.left, hI.byt, hI.words, hI.off⟩⟩
  · simp only [RL, rnC, H8.v, H8.l, u32s, List.map_cons, List.map_nil, List.cons_append, List.nil_append]
    (focus ((repeat' (first | exact Ext.one _ _ | exact Ext.here _ _ | apply Keep.cons | apply Keep.last | apply Ext.app)); done))
  · simp only
    cases ov2 with
    | none => have : lf.length = 0 := hov2.2; simp [ovc, this]
    | some z => simp [ovc]
theorem rdown {ov : Ov} {xs : List Int} {e : Nat} (hov : OvOk 1 ov xs.length (u8s xs)) {w0 w : World} {S : List Nat} {L : Lst} (hw : Hp w0 S L w) (hin : ∀ x ∈ blkL e ov (u8s xs), x ∈ L) : RdSl w (ovp ov) u8V xs := by
  rw [← fl_u8] at hov hin
  exact RdSl.own' hw hin hov u8V_len
theorem RuI.rd {st : RS} {b : List Int} (hI : RuI st b) {w0 w : World} {S : List Nat} {L : Lst} (hw : Hp w0 S L w) (hin : ∀ x ∈ blkL 5 st.ov (u8s st.xs), x ∈ L) : RdSl w st.p u8V st.lf := by
  rw [hI.lf]
  exact hI.sfx.rd _ _ rfl (rdown hI.ov hw hin)
theorem rSum_ok (r : Nat) (st : RS) (b : List Int) (hI : RuI st b) (hbig : b.length ≤ 999999000) (w : World) (hb : w.heap[r]? = some (.cells ⟨st.s.v ++ rnC st⟩ 95 (0, 0))) (hl : RdSl w st.p u8V st.lf) :
    CallW Tryz.prog 42 [.pointer (some ⟨r, 0, none⟩)] w fun v _ => v = .agg ⟨u8s (shaI b)⟩ := by
  refine enterW (tb := tb) Tryz.func42 rfl Tryz.ntmps42 rfl ?_
  have hcopy := fun w1 (hc : Chg [] w w1) => rCopy_ok r st b hI (by omega) w1 (hc.heap hb List.not_mem_nil) (hl.chg hc (Off.nil _))
  repeat' (first | (apply R.is1; first | (apply R.isBin; (apply R.pure; exact rfl; (apply Ok1.eqlP; (iterate 5 exact rfl)))) | (apply R.isCall; (apply R.callE; (iterate 3 exact rfl); exact Ext.none _; intro w1 hw1; exact hcopy w1 hw1.chg; rintro v Lo ⟨r', st', rfl, rfl, hI'⟩)) | (apply R.pure; exact rfl; (apply Ok1.move; exact rfl)) | (apply R.alloc; (iterate 3 exact rfl); intro)) | apply R.nil | (apply T.is; first | apply T.seq | apply T.region | apply T.skip | (apply T.cond_f; exact rfl)))
  repeat' (first | (apply R.is1; first | (apply R.isCall; (apply R.callE (Li := RL r' st'); (iterate 3 exact rfl); (focus ((repeat' (exact Ext.here _ _)); done)); intro w1 hw1; exact rAdd_ok r' st' b hI' none 0 0 [] rfl (by intro y hy; cases hy) (by rw [cat_nil, List.append_nil]; omega) (by decide) w1 (.inl rfl) (fun h => absurd rfl h) (by intro y hy; cases hy); rintro v Lo ⟨st2, rfl, rfl, hI2, hon2⟩; rw [cat_nil, List.append_nil] at hI2)) | (apply R.pure; exact rfl; (apply Ok1.assign; exact rfl)) | (apply R.buildSlice; (iterate 12 exact rfl); intro)) | apply R.nil | (apply T.is; first | apply T.seq | apply T.region | apply T.block))
  rename_i bt b4
  have hl2 := left_len b
  rw [← hI2.left] at hl2
  have hIw := hI2.words hon2
  have hn0 := hI.n
  obtain ⟨on2, s2, ov2, xs2, p2, cap2, k2, lf2, n2⟩ := st2
  obtain ⟨on0, s0, ov0, xs0, p0, cap0, k0, lf0, n0⟩ := st
  simp only at hl2 hIw hn0 hon2
  obtain ⟨Z, hZ⟩ : ∃ Z, Z = (119 - b.length % 64) % 64 := ⟨_, rfl⟩
  simp only [rnC, H8.v, H8.l, u32s, List.map_cons, List.map_nil, List.cons_append, List.nil_append] at hb
  simp only [RL, rnC, H8.v, H8.l, u32s, List.map_cons, List.map_nil, List.cons_append, List.nil_append]
  apply T.loopK (α := Nat × Ov) (I := fun x => x.1 ≤ Z ∧ OvOk 1 x.2 (1 + x.1) (u8s (128 :: List.replicate x.1 0))) (σi := fun x => [(0, .pointer (some ⟨r, 0, none⟩)), (2, .pointer (some ⟨bt, 0, none⟩)), (3, .pointer (some ⟨r', 0, none⟩)), (4, slV x.2 (1 + x.1))])
    (Li := fun x => (r', .cells ⟨[.int .u32 s2.a, .int .u32 s2.b, .int .u32 s2.c, .int .u32 s2.d, .int .u32 s2.e, .int .u32 s2.f, .int .u32 s2.g, .int .u32 s2.h, .bool on2, .slice p2 lf2.length cap2, .int .i64 n2]⟩ 95 (0, 0)) :: (bt, .cells ⟨List.replicate 32 (.int .u8 0)⟩ 67 (0, 0)) :: (blkL 5 x.2 (u8s (128 :: List.replicate x.1 0)) ++ blkL 5 ov2 (u8s xs2))) (μ := fun x => Z - x.1) (i0 := (0, some (b4, 0, [])))
  · exact ⟨Nat.zero_le _, rfl, rfl⟩
  · exact ⟨rfl, rfl, rfl, rfl, trivial⟩
  · (focus ((repeat' (first | exact Ext.one _ _ | exact Ext.here _ _ | exact Ext.all _ | apply Keep.cons | apply Keep.app | apply Keep.last | apply Ext.cons | apply Ext.app)); done))
  · rintro ⟨j, ov⟩ ⟨hj, hov⟩
    simp only at hj hov ⊢
    rcases Nat.lt_or_ge j Z with hlt | hge
    · have hne : ((lf2.length : Int) + ((1 + j : Nat) : Int) + 8) % 64 ≠ 0 := by omega
      repeat' (first | (apply R.is1; first | (apply R.isBin; (apply R.pure; exact rfl; first | (apply Ok1.add64; exact rfl; exact rfl; omega; omega) | (apply Ok1.neq_t; exact rfl; exact rfl; omega) | (apply Ok1.remN; exact rfl; exact rfl; omega; omega))) | (apply R.isCall; first | (apply R.pure; exact rfl; apply Ok1.lenOv; (iterate 3 exact rfl); exact hov) | (apply R.append1; (iterate 12 exact rfl); (focus ((repeat' (first | exact OwnAt.mid hov | apply OwnAt.tail)); done)); exact At.head; exact rfl; exact rfl; omega; omega; intro b2 j2 k2 hj2) | (apply R.pure; exact rfl; (apply Ok1.lenS; (iterate 3 exact rfl)))) | (apply R.pure; exact rfl; first | (apply Ok1.move; exact rfl) | (apply Ok1.fieldAddr; (iterate 5 exact rfl)) | (apply Ok1.load; exact rfl; (apply Ld.own1; exact rfl; exact rfl; exact At.head; exact rfl)) | (apply Ok1.assign; exact rfl) | (apply Ok1.nilCheck; exact rfl)) | (apply R.buildSlice; (iterate 12 exact rfl); intro)) | apply R.nil | (apply T.is; first | apply T.seq | apply T.region | apply T.block | apply T.skip | (apply T.cond_t; exact rfl)))
      have hov' := hov.some (b := b2) (ys := [.int .u8 0]) (m := 1) rfl hj2
      have hu : u8s (128 :: List.replicate (j + 1) 0) = u8s (128 :: List.replicate j 0) ++ [.int .u8 0] := by rw [List.replicate_succ']; simp [u8s]
      refine ⟨(j + 1, some (b2, j2, k2)), ⟨by simp only; omega, by simp only [hu]; exact hov'⟩, by simp only; omega, ⟨rfl, rfl, rfl, rfl, trivial⟩, ?_⟩
      simp only [hu, blkL, List.cons_append, List.nil_append]
      (focus ((repeat' (first | exact Ext.one _ _ | exact Ext.all _ | apply Keep.cons | apply Keep.last | apply Ext.cons)); done))
    · have hjZ : j = Z := by omega
      subst j
      have hne : ((lf2.length : Int) + ((1 + Z : Nat) : Int) + 8) % 64 = 0 := by omega
      repeat' (first | (apply R.is1; first | (apply R.isBin; (apply R.pure; exact rfl; first | (apply Ok1.add64; exact rfl; exact rfl; omega; omega) | (apply Ok1.neq_f; exact rfl; exact rfl; omega) | (apply Ok1.remN; exact rfl; exact rfl; omega; omega))) | (apply R.isCall; first | (apply R.pure; exact rfl; apply Ok1.lenOv; (iterate 3 exact rfl); exact hov) | (apply R.pure; exact rfl; (apply Ok1.lenS; (iterate 3 exact rfl)))) | (apply R.pure; exact rfl; first | (apply Ok1.move; exact rfl) | (apply Ok1.fieldAddr; (iterate 5 exact rfl)) | (apply Ok1.load; exact rfl; (apply Ld.own1; exact rfl; exact rfl; exact At.head; exact rfl)) | (apply Ok1.assign; exact rfl) | (apply Ok1.nilCheck; exact rfl))) | apply R.nil | (apply T.is; first | apply T.seq | apply T.region | apply T.block | apply T.exit | (apply T.cond_f; exact rfl)))
      apply T.loopK (α := Nat × Ov) (I := fun x => x.1 ≤ 8 ∧ OvOk 1 x.2 (1 + Z + x.1) (u8s (128 :: (List.replicate Z 0 ++ (lenI (8 * (n0 : Int))).take x.1)))) (σi := fun x => [(0, .pointer (some ⟨r, 0, none⟩)), (2, .pointer (some ⟨bt, 0, none⟩)), (3, .pointer (some ⟨r', 0, none⟩)), (4, slV x.2 (1 + Z + x.1)), (5, .int .i64 (7 - (x.1 : Int)))])
        (Li := fun x => (r', .cells ⟨[.int .u32 s2.a, .int .u32 s2.b, .int .u32 s2.c, .int .u32 s2.d, .int .u32 s2.e, .int .u32 s2.f, .int .u32 s2.g, .int .u32 s2.h, .bool on2, .slice p2 lf2.length cap2, .int .i64 n2]⟩ 95 (0, 0)) :: (bt, .cells ⟨List.replicate 32 (.int .u8 0)⟩ 67 (0, 0)) :: (blkL 5 x.2 (u8s (128 :: (List.replicate Z 0 ++ (lenI (8 * (n0 : Int))).take x.1))) ++ blkL 5 ov2 (u8s xs2))) (μ := fun x => 8 - x.1) (i0 := (0, ov))
      · exact ⟨Nat.zero_le _, by simpa using hov⟩
      · exact ⟨rfl, rfl, rfl, rfl, rfl, trivial⟩
      · simp only [List.take_zero, List.append_nil]
        (focus ((repeat' (first | exact Ext.one _ _ | exact Ext.here _ _ | exact Ext.all _ | apply Keep.cons | apply Keep.app | apply Keep.last)); done))
      · clear hov hcopy hl
        rintro ⟨m, ov⟩ ⟨hm, hov⟩
        simp only at hm hov ⊢
        rcases Nat.lt_or_ge m 8 with hlt | hge
        · have hmz : m = 0 ∨ m = 1 ∨ m = 2 ∨ m = 3 ∨ m = 4 ∨ m = 5 ∨ m = 6 ∨ m = 7 := by omega
          have hu : u8s (128 :: (List.replicate Z 0 ++ (lenI (8 * (n0 : Int))).take (m + 1))) = u8s (128 :: (List.replicate Z 0 ++ (lenI (8 * (n0 : Int))).take m)) ++ [.int .u8 ((lenI (8 * (n0 : Int))).getD m 0)] := by
            rcases hmz with rfl | rfl | rfl | rfl | rfl | rfl | rfl | rfl <;> simp [lenI, u8s]
          have hpos : (0 : Int) ≤ n0 := by omega
          have hbg : (n0 : Int) ≤ 1000000000 := by omega
          obtain ⟨sh, hsh⟩ : ∃ sh : Int, sh = pw (8 * (7 - m)) := ⟨_, rfl⟩
          have hval : IntKind.u8.wrap ((n0 : Int) * 8 / sh) = (lenI (8 * (n0 : Int))).getD m 0 := by
            rw [u8_mod, Int.mul_comm]
            subst hsh
            rcases hmz with rfl | rfl | rfl | rfl | rfl | rfl | rfl | rfl <;> first | rfl | (simp [lenI, pw])
          have hj8 : (8 * (7 - (m : Int))).toNat = 8 * (7 - m) := by omega
          have hsh2 : pw (8 * (7 - (m : Int))).toNat = sh := by rw [hj8]; exact hsh.symm
          have hb64 : (8 * (7 - (m : Int))).toNat ≤ IntKind.u64.bits := by rw [hj8]; show 8 * (7 - m) ≤ 64; omega
          clear hsh
          repeat' (first | (apply R.is1; first | (apply R.isBin; (apply R.pure; exact rfl; first | (apply Ok1.mulU; exact rfl; exact rfl; omega; omega) | (apply Ok1.shr; exact rfl; exact rfl; omega; exact hb64; exact hsh2) | (apply Ok1.sub64; exact rfl; exact rfl; omega; omega) | (apply Ok1.geq_t; exact rfl; exact rfl; omega) | (apply Ok1.mul64; exact rfl; exact rfl; omega; omega))) | (apply R.isCall; (apply R.append1; (iterate 12 exact rfl); (focus ((repeat' (first | exact OwnAt.mid hov | apply OwnAt.tail)); done)); exact At.head; exact rfl; exact rfl; omega; omega; intro b2 j2 k2 hj2)) | (apply R.pure; exact rfl; first | (apply Ok1.convU64; (iterate 5 exact rfl); omega; omega) | (apply Ok1.move; exact rfl) | (apply Ok1.fieldAddr; (iterate 5 exact rfl)) | (apply Ok1.load; exact rfl; (apply Ld.blk1; exact rfl; exact rfl; assumption; (exact List.not_mem_nil); exact rfl)) | (apply Ok1.assign; exact rfl) | (apply Ok1.nilCheck; exact rfl) | (apply Ok1.conv; (iterate 5 exact rfl))) | (apply R.buildSlice; (iterate 12 exact rfl); intro)) | apply R.nil | (apply T.is; first | apply T.seq | apply T.region | apply T.block | apply T.skip | (apply T.cond_t; exact rfl)))
          have hov' := hov.some (b := b2) (ys := [.int .u8 (IntKind.u8.wrap ((n0 : Int) * 8 / sh))]) (m := 1) rfl hj2
          rw [hval, ← hu] at hov'
          rw [hval, ← hu]
          refine ⟨(m + 1, some (b2, j2, k2)), ⟨by simp only; omega, hov'⟩, by simp only; omega, ⟨rfl, rfl, rfl, rfl, ?_, trivial⟩, ?_⟩
          · rw [show (7 : Int) - ((m + 1 : Nat) : Int) = 7 - (m : Int) - 1 by omega]
            rfl
          · simp only [blkL, List.cons_append, List.nil_append]
            (focus ((repeat' (first | exact Ext.one _ _ | exact Ext.all _ | apply Keep.cons | apply Keep.last | apply Ext.cons)); done))
        · have hm8 : m = 8 := by omega
          subst hm8
          have hpad : (128 :: (List.replicate Z 0 ++ (lenI (8 * (n0 : Int))).take 8)) = padI b.length := by subst hZ; subst hn0; rfl
          rw [hpad] at hov ⊢
          have hpl : 1 + Z + 8 = (padI b.length).length := by have := hov.1; rw [u8s_len] at this; omega
          have hbp : Byt (padI b.length) := by
            intro y hy
            rcases List.mem_cons.1 hy with rfl | hy
            · omega
            · rcases List.mem_append.1 hy with hy | hy
              · rw [List.eq_of_mem_replicate hy]; omega
              · simp only [lenI, List.mem_cons, List.not_mem_nil, or_false] at hy
                rcases hy with rfl | rfl | rfl | rfl | rfl | rfl | rfl | rfl <;> omega
          have hpb : (padI b.length).length ≤ 80 := by omega
          rw [hpl] at hov ⊢
          cases ov with
          | none => exact absurd hov.2 (by omega)
          | some z =>
          obtain ⟨be, je, ke⟩ := z
          have hcat : cat [⟨some ⟨be, 0, none⟩, (padI b.length).length + je, padI b.length⟩] = padI b.length := by simp [cat]
          have hsl := sha_len b
          have hls : (u8s (shaI b)).length = 32 := by rw [u8s_len, hsl]
          have hone := u8s_one (shaI b)
          have hset : ∀ cs : List Value, cs.length = 32 → setE cs 0 (u8s (shaI b)) = some (u8s (shaI b)) := fun cs h => setE_all (by rw [hls, h])
          have hsub := subE_all hls
          have hsw := sha_words b
          generalize padI b.length = pd at *
          simp only [slV, blkL, List.cons_append, List.nil_append]
          repeat' (first | (apply R.is1; first | (apply R.isBin; (apply R.pure; exact rfl; (apply Ok1.geq_f; exact rfl; exact rfl; omega))) | (apply R.isCall; (apply R.callE (Li := RL r' ⟨on2, s2, ov2, xs2, p2, cap2, k2, lf2, n2⟩); (iterate 3 exact rfl); (focus (exact Ext.cons _ (Ext.two _ (Ext.one _ _) (Ext.cons _ (Ext.cons _ (Ext.all _)))))); intro w1 hw1; have h9 := rAdd_ok r' ⟨on2, s2, ov2, xs2, p2, cap2, k2, lf2, n2⟩ b hI2 (some ⟨_, 0, none⟩) 1 1 [⟨some ⟨be, 0, none⟩, pd.length + je, pd⟩] rfl (by rw [hcat]; exact hbp) (by rw [hcat, List.length_append]; omega) (by decide) w1 (RdSl.of (v := Pt.v) (rs := [⟨some ⟨be, 0, none⟩, pd.length + je, pd⟩]) (junk := []) hw1 (by exact At.head) rfl) (fun _ => Off.of (k := 0) hw1 (Ext.cons _ (Ext.two _ (Ext.one _ _) (Ext.cons _ (Ext.cons _ (Ext.all _))))) (by exact At.head)) (fun y hy => by rw [List.mem_singleton.1 hy]; exact ⟨RdSl.of (v := u8V) (rs := pd) (junk := ke) hw1 (by (focus ((repeat' (first | exact At.head | apply At.tail)); done))) (by rw [fl_u8]), fun _ => Off.of (k := 0) hw1 (Ext.cons _ (Ext.two _ (Ext.one _ _) (Ext.cons _ (Ext.cons _ (Ext.all _))))) (by (focus ((repeat' (first | exact At.head | apply At.tail)); done)))⟩); exact h9; rintro v Lo ⟨st3, rfl, rfl, hI3, hon3⟩)) | (apply R.pure; exact rfl; first | (apply Ok1.move; exact rfl) | (apply Ok1.fieldAddr; (iterate 5 exact rfl)) | (apply Ok1.nilCheck; exact rfl)) | (apply R.buildSlice; (iterate 12 exact rfl); intro)) | apply R.nil | (apply T.is; first | apply T.seq | apply T.region | apply T.exit | (apply T.cond_f; exact rfl)))
          rw [hcat] at hI3
          have hw3 := hI3.words hon3
          rw [← hw3] at hsw
          simp only [RL, List.cons_append]
          repeat' (first | (apply R.is1; (apply R.isCall; (apply R.callV; (iterate 3 exact rfl); intro w1 hw1; have h9 := out_ok r' st3.s (rnC st3) _ _ w1 (hw1.get _ _ (At.mem (by exact At.head))); rw [← hsw] at h9; exact h9))) | (apply R.is0; (apply R.store; (iterate 4 exact rfl); exact hls; exact hone; (focus ((repeat' (first | exact Upd.head | apply Upd.tail | apply Upd.right)); done)); exact hset _ rfl)) | apply R.nil | (apply T.is; apply T.ret))
          apply RetOk.c
          exact rfl
          apply Ld.ownk
          exact rfl
          exact rfl
          (focus ((repeat' (first | exact At.head | apply At.tail | apply At.right)); done))
          exact hsub
          rfl
end Go.Proofs.YtligpachgcmkcaaGreat
set_option linter.unusedSimpArgs false
set_option linter.unusedVariables false
set_option linter.unusedSectionVars false
namespace Go.Proofs.YtligpachgcmkcaaGreat
open Go.RowKit Go.Shelf
theorem Hp.new {w0 w w' : World} {S : List Nat} {L : Lst} {o : Obj} (h : Hp w0 S L w) (hc : Chg [] w w') (ho : w'.heap[w.heap.size]? = some o) : Hp w0 S ((w.heap.size, o) :: L) w' := by
  have h1 := h.step hc
  refine ⟨h1.chg, ?_, ?_, ?_⟩
  · intro b o' hm
    rcases List.mem_cons.1 hm with e | hm
    · cases e; exact ho
    · exact h1.get b o' hm
  · simp only [List.map_cons, List.nodup_cons]
    refine ⟨fun hm => ?_, h.nod⟩
    obtain ⟨⟨b, o'⟩, hm, e⟩ := List.mem_map.1 hm
    have := h.lt hm
    simp at e; omega
  · intro b o' hm
    rcases List.mem_cons.1 hm with e | hm
    · cases e; exact .inl h.chg.size
    · exact h.own b o' hm
section
variable {X : Cx} {σ : Env} {L L' Li Lr : Lst} {d : Option Nat} {dd c : Nat} {ty : TypeId} {pos : String} {af : Array Edge} {g : Option (Nat × Bool)} {x y : Operand} {t t2 e : TypeId} {r r2 re : TRow}
variable {all : Array Oper} {rest : List Oper} {K : Env → Lst → Prop} {p : Option Addr} {n m cap i b : Nat}
/-- An array's variable, cut to a slice of all of it. -/
theorem Ok1.sliceArr {o : Nat} (ht : X.tb.row t = some r) (hk : r.k = .arr n e) (he : X.tb.row e = some re) (hx : ev σ x = some (.pointer (some ⟨b, o, none⟩))) :
    Ok1 X ⟨d, .slice t x none none none, ty, pos, af, g⟩ σ L (.slice (some ⟨b, o, none⟩) n n) := .mk fun a w ha hw => by
  have h2 := (X.tb.get ht).is
  rw [hk] at h2
  simp only [TK.is] at h2
  simp [execOp, Instr.sliceAt, run_underlying h2, ha.ev hx, Instr.sureAddr, Instr.sliceBounds, (X.tb.get he).size, Addr.add_none]
end
end Go.Proofs.YtligpachgcmkcaaGreat
set_option linter.unusedSimpArgs false
set_option linter.unusedVariables false
namespace Go.Proofs.YtligpachgcmkcaaGreat
open Go.RowKit Go.Shelf
section
variable {X : Cx} {all : Array Oper} {C L L' : Lst} {fuel fuel' : Nat} {listed listed' : Array Bool} {K : Env → Lst → Prop} {σ σ' : Env}
/-- Those of a list, one by one. -/
def AllOf (X : Cx) (all : Array Oper) (C : Lst) (fuel : Nat) (listed : Array Bool) (K : Env → Lst → Prop) (σ : Env) (L : Lst) : List Nat → Prop
  | [] => True
  | i :: is => (∃ o, all[i]? = some o ∧ R X all [o] (fun σ' L' => SubL C L' ∧ A X all C fuel (listed.setIfInBounds i true) K σ' L') σ L) ∧ AllOf X all C fuel listed K σ L is
theorem AllOf.get : ∀ {rs : List Nat}, AllOf X all C fuel listed K σ L rs → ∀ i ∈ rs, ∃ o, all[i]? = some o ∧ R X all [o] (fun σ' L' => SubL C L' ∧ A X all C fuel (listed.setIfInBounds i true) K σ' L') σ L
  | [], _, i, hi => by cases hi
  | j :: js, h, i, hi => by
    rcases List.mem_cons.1 hi with rfl | hi
    · exact h.1
    · exact AllOf.get h.2 i hi
end
section
variable {X : Cx} {σ : Env} {L L' : Lst} {d : Option Nat} {dd b : Nat} {ty : TypeId} {pos : String} {af : Array Edge} {g : Option (Nat × Bool)} {x : Operand} {t e : TypeId} {r re : TRow}
variable {all : Array Oper} {rest : List Oper} {K : Env → Lst → Prop}
theorem ovsome {sz n : Nat} {ov : Ov} {xs : List Value} (h : OvOk sz ov n xs) (hn : 0 < n) : ∃ b j k, ov = some (b, j, k) := by
  cases ov with
  | none => have := h.2; omega
  | some z => obtain ⟨b, j, k⟩ := z; exact ⟨b, j, k, rfl⟩
end
end Go.Proofs.YtligpachgcmkcaaGreat
set_option linter.unusedSimpArgs false
set_option linter.unusedVariables false
namespace Go.Proofs.YtligpachgcmkcaaGreat
open Go.RowKit Go.Shelf
def len4 (n : Int) : List Int := [n / 16777216 % 256, n / 65536 % 256, n / 256 % 256, n % 256]
theorem len4_byt (n : Int) : Byt (len4 n) := by
  intro y hy
  simp only [len4, List.mem_cons, List.not_mem_nil, or_false] at hy
  rcases hy with rfl | rfl | rfl | rfl <;> omega
theorem cellsE_slV (ov : Ov) (n : Nat) : cellsE (slV ov n) = some [slV ov n] := by cases ov <;> rfl
theorem one_slV (ov : Ov) (n : Nat) : [slV ov n].all Value.oneCell' = true := by cases ov <;> rfl
end Go.Proofs.YtligpachgcmkcaaGreat
set_option linter.unusedSimpArgs false
set_option linter.unusedVariables false
namespace Go.Proofs.YtligpachgcmkcaaGreat
open Go.RowKit Go.Shelf
set_option maxRecDepth 100000
def numI (s : Nat) (n : Int) : List Int := match s with
  | 0 => [n % 256]
  | 1 => [n / 256 % 256, n % 256]
  | _ => len4 n
theorem num_byt (s : Nat) (n : Int) : Byt (numI s n) := by
  unfold numI
  split
  · intro y hy; rw [List.mem_singleton.1 hy]; omega
  · intro y hy; simp only [List.mem_cons, List.not_mem_nil, or_false] at hy; rcases hy with rfl | rfl <;> omega
  · exact len4_byt n
theorem width_ok (s v : Int) (h0 : 0 ≤ s) (h1 : s ≤ 10) (h : IntKind.i64.wrap (1 * pw s.toNat) = v) : CallP Tryz.prog 74 [.int .i64 s] (.int .i64 v) := by
  refine enterP (tb := tb) Tryz.func74 rfl Tryz.ntmps74 rfl fun w => ?_
  have hb : s.toNat ≤ IntKind.i64.bits := by show s.toNat ≤ 64; omega
  repeat' (first | (apply R.is1; first | (apply R.isBin; (apply R.pure; exact rfl; (apply Ok1.shl; exact rfl; exact rfl; omega; exact hb; exact rfl))) | (apply R.pure; exact rfl; first | (apply Ok1.move; exact rfl) | (apply Ok1.assign; exact rfl))) | apply R.nil | (apply T.is; first | apply T.seq | apply T.region | apply T.ret))
  (apply RetOk.t; exact rfl)
  rw [h]
theorem Keep.eq1 {b : Nat} {e : TypeId} {fz : Nat × Nat} {A B : List Value} (h : A = B) : Keep [(b, .cells ⟨A⟩ e fz)] [(b, .cells ⟨B⟩ e fz)] := by subst h; (focus ((repeat' (first | exact Keep.nil _ | exact Ext.one _ _ | apply Keep.cons)); done))
theorem number_ok (s : Nat) (n : Int) (hs : s = 0 ∨ s = 1 ∨ s = 2) (h0 : 0 ≤ n) (h1 : n ≤ 9223372036854775807) (w : World) : CallM Tryz.prog 75 [.int .i64 s, .int .i64 n] [] w fun v L => ∃ b, v = .slice (some ⟨b, 0, none⟩) (numI s n).length (numI s n).length ∧ L = [(b, .cells ⟨u8s (numI s n)⟩ 5 (0, 0))] := by
  have hc : IntKind.u64.wrap n = n := wrap_u64 h0 (by omega)
  rcases hs with rfl | rfl | rfl
  · refine enterK (tb := tb) Tryz.func75 rfl Tryz.ntmps75 rfl ?_
    repeat' (first | (apply R.is1; first | (apply R.make1 (n := 1); (iterate 9 exact rfl); omega; intro bt) | (apply R.isBin; (apply R.pure; exact rfl; first | (apply Ok1.shr; exact rfl; exact rfl; omega; exact Nat.le_of_ble_eq_true rfl; exact rfl) | (apply Ok1.add64; exact rfl; exact rfl; omega; omega) | (apply Ok1.sub64; exact rfl; exact rfl; omega; omega) | (apply Ok1.lss_t; exact rfl; exact rfl; omega) | (apply Ok1.lss_f; exact rfl; exact rfl; omega) | (apply Ok1.mul64; exact rfl; exact rfl; omega; omega))) | (apply R.isCall; first | apply R.callP rfl rfl rfl (width_ok 0 1 (by decide) (by decide) (by decide)) | (apply R.pure; exact rfl; (apply Ok1.lenS; (iterate 3 exact rfl)))) | (apply R.pure; exact rfl; first | (apply Ok1.move; exact rfl) | (apply Ok1.assign; exact rfl) | (apply Ok1.indexAddr; (iterate 5 exact rfl); omega; omega) | (apply Ok1.convU64; (iterate 5 exact rfl); omega; omega) | (apply Ok1.conv; (iterate 5 exact rfl)))) | (apply R.is0; (apply R.store; (iterate 6 exact rfl); exact Upd.head; exact rfl)) | apply R.nil | (apply T.is; first | apply T.rounds 2 | apply T.seq | apply T.region | apply T.block | apply T.skip | apply T.exit | apply T.ret | (apply T.cond_t; exact rfl) | (apply T.cond_f; exact rfl)))
    (apply RetOk.t; exact rfl)
    refine ⟨_, ?_, bt, rfl, rfl⟩
    simp only [u8_mod]
    apply Keep.eq1
    simp [numI, u8s, len4, pw]
  · refine enterK (tb := tb) Tryz.func75 rfl Tryz.ntmps75 rfl ?_
    repeat' (first | (apply R.is1; first | (apply R.make1 (n := 2); (iterate 9 exact rfl); omega; intro bt) | (apply R.isBin; (apply R.pure; exact rfl; first | (apply Ok1.shr; exact rfl; exact rfl; omega; exact Nat.le_of_ble_eq_true rfl; exact rfl) | (apply Ok1.add64; exact rfl; exact rfl; omega; omega) | (apply Ok1.sub64; exact rfl; exact rfl; omega; omega) | (apply Ok1.lss_t; exact rfl; exact rfl; omega) | (apply Ok1.lss_f; exact rfl; exact rfl; omega) | (apply Ok1.mul64; exact rfl; exact rfl; omega; omega))) | (apply R.isCall; first | apply R.callP rfl rfl rfl (width_ok 1 2 (by decide) (by decide) (by decide)) | (apply R.pure; exact rfl; (apply Ok1.lenS; (iterate 3 exact rfl)))) | (apply R.pure; exact rfl; first | (apply Ok1.move; exact rfl) | (apply Ok1.assign; exact rfl) | (apply Ok1.indexAddr; (iterate 5 exact rfl); omega; omega) | (apply Ok1.convU64; (iterate 5 exact rfl); omega; omega) | (apply Ok1.conv; (iterate 5 exact rfl)))) | (apply R.is0; (apply R.store; (iterate 6 exact rfl); exact Upd.head; exact rfl)) | apply R.nil | (apply T.is; first | apply T.rounds 3 | apply T.seq | apply T.region | apply T.block | apply T.skip | apply T.exit | apply T.ret | (apply T.cond_t; exact rfl) | (apply T.cond_f; exact rfl)))
    (apply RetOk.t; exact rfl)
    refine ⟨_, ?_, bt, rfl, rfl⟩
    simp only [u8_mod]
    apply Keep.eq1
    simp [numI, u8s, len4, pw]
  · refine enterK (tb := tb) Tryz.func75 rfl Tryz.ntmps75 rfl ?_
    repeat' (first | (apply R.is1; first | (apply R.make1 (n := 4); (iterate 9 exact rfl); omega; intro bt) | (apply R.isBin; (apply R.pure; exact rfl; first | (apply Ok1.shr; exact rfl; exact rfl; omega; exact Nat.le_of_ble_eq_true rfl; exact rfl) | (apply Ok1.add64; exact rfl; exact rfl; omega; omega) | (apply Ok1.sub64; exact rfl; exact rfl; omega; omega) | (apply Ok1.lss_t; exact rfl; exact rfl; omega) | (apply Ok1.lss_f; exact rfl; exact rfl; omega) | (apply Ok1.mul64; exact rfl; exact rfl; omega; omega))) | (apply R.isCall; first | apply R.callP rfl rfl rfl (width_ok 2 4 (by decide) (by decide) (by decide)) | (apply R.pure; exact rfl; (apply Ok1.lenS; (iterate 3 exact rfl)))) | (apply R.pure; exact rfl; first | (apply Ok1.move; exact rfl) | (apply Ok1.assign; exact rfl) | (apply Ok1.indexAddr; (iterate 5 exact rfl); omega; omega) | (apply Ok1.convU64; (iterate 5 exact rfl); omega; omega) | (apply Ok1.conv; (iterate 5 exact rfl)))) | (apply R.is0; (apply R.store; (iterate 6 exact rfl); exact Upd.head; exact rfl)) | apply R.nil | (apply T.is; first | apply T.rounds 5 | apply T.seq | apply T.region | apply T.block | apply T.skip | apply T.exit | apply T.ret | (apply T.cond_t; exact rfl) | (apply T.cond_f; exact rfl)))
    (apply RetOk.t; exact rfl)
    refine ⟨_, ?_, bt, rfl, rfl⟩
    simp only [u8_mod]
    apply Keep.eq1
    simp [numI, u8s, len4, pw]
end Go.Proofs.YtligpachgcmkcaaGreat
set_option linter.unusedSimpArgs false
set_option linter.unusedVariables false
namespace Go.Proofs.YtligpachgcmkcaaGreat
open Go.RowKit Go.Shelf
set_option maxRecDepth 100000
/-- A number that fits its size. -/
def Fits (s : Nat) (n : Int) : Prop := 0 ≤ n ∧ (s = 0 ∧ n ≤ 255 ∨ s = 1 ∧ n ≤ 65535 ∨ s = 2 ∧ n ≤ 4294967295)
def fldV (s : Nat) (n : Int) : List Value := [.int .i64 s, .int .i64 n, .slice none 0 0]
theorem wcheck_ok (s : Nat) (n : Int) (h : Fits s n) : CallP Tryz.prog 65 [.agg ⟨fldV s n⟩] (.int .i64 0) := by
  obtain ⟨h0, h⟩ := h
  unfold fldV
  rcases h with ⟨rfl, h1⟩ | ⟨rfl, h1⟩ | ⟨rfl, h1⟩
  · refine enterP (tb := tb) Tryz.func65 rfl Tryz.ntmps65 rfl fun w => ?_
    repeat' (first | (apply R.is1; first | (apply R.isBin; (apply R.pure; exact rfl; first | (apply Ok1.lss_t; exact rfl; exact rfl; omega) | (apply Ok1.lss_f; exact rfl; exact rfl; omega) | (apply Ok1.gtr_f; exact rfl; exact rfl; omega) | (apply Ok1.eql_f; exact rfl; exact rfl; omega))) | (apply R.isCall; (apply R.pure; exact rfl; (apply Ok1.lenS; (iterate 3 exact rfl)))) | (apply R.pure; exact rfl; first | (apply Ok1.move; exact rfl) | (apply Ok1.fieldAddr; (iterate 5 exact rfl)) | (apply Ok1.load; exact rfl; (apply Ld.own1; exact rfl; exact rfl; exact At.head; exact rfl)) | (apply Ok1.assign; exact rfl) | (apply Ok1.pick_t; exact rfl; exact rfl) | (apply Ok1.pick_f; exact rfl; exact rfl)) | (apply R.box; (iterate 3 exact rfl); intro)) | (apply R.isG; first | (apply R.guard_run; exact rfl; exact rfl) | (apply R.guard_not; (iterate 3 exact rfl))) | apply R.nil | (apply T.is; first | (apply T.drawC (id := 5) [0] (by decide); ((apply A.take 0; exact rfl; exact rfl; kernel_rfl; kernel_rfl; kernel_rfl; (apply Ok1.fieldAddr; (iterate 5 exact rfl))) <;> (apply A.take 1; exact rfl; exact rfl; kernel_rfl; kernel_rfl; kernel_rfl; (apply Ok1.load; exact rfl; (apply Ld.own1; exact rfl; exact rfl; exact At.head; exact rfl))) <;> ((apply A.take 2; exact rfl; exact rfl; kernel_rfl; kernel_rfl; kernel_rfl; (apply Ok1.lss_f; exact rfl; exact rfl; omega))) <;> (apply A.take 3; exact rfl; exact rfl; kernel_rfl; kernel_rfl; kernel_rfl; (apply Ok1.move; exact rfl)) <;> ((apply A.takeG 4; exact rfl; exact rfl; rotate_left 3; exact rfl; exact rfl; rotate_right 3; kernel_rfl; kernel_rfl; kernel_rfl; (apply Ok1.fieldAddr; (iterate 5 exact rfl)))) <;> ((apply A.takeG 5; exact rfl; exact rfl; rotate_left 3; exact rfl; exact rfl; rotate_right 3; kernel_rfl; kernel_rfl; kernel_rfl; (apply Ok1.load; exact rfl; (apply Ld.own1; exact rfl; exact rfl; exact At.head; exact rfl)))) <;> ((apply A.takeG 6; exact rfl; exact rfl; rotate_left 3; exact rfl; exact rfl; rotate_right 3; kernel_rfl; kernel_rfl; kernel_rfl; (apply Ok1.lss_t; exact rfl; exact rfl; omega))) <;> ((apply A.takeG 7; exact rfl; exact rfl; rotate_left 3; exact rfl; exact rfl; rotate_right 3; kernel_rfl; kernel_rfl; kernel_rfl; (apply Ok1.move; exact rfl))) <;> ((apply A.takeG 8; exact rfl; exact rfl; rotate_left 3; exact rfl; exact rfl; rotate_right 3; kernel_rfl; kernel_rfl; kernel_rfl; (apply Ok1.fieldAddr; (iterate 5 exact rfl)))) <;> ((apply A.takeG 9; exact rfl; exact rfl; rotate_left 3; exact rfl; exact rfl; rotate_right 3; kernel_rfl; kernel_rfl; kernel_rfl; (apply Ok1.load; exact rfl; (apply Ld.own1; exact rfl; exact rfl; exact At.head; exact rfl)))) <;> ((apply A.takeG 10; exact rfl; exact rfl; rotate_left 3; exact rfl; exact rfl; rotate_right 3; kernel_rfl; kernel_rfl; kernel_rfl; (apply Ok1.fieldAddr; (iterate 5 exact rfl)))) <;> ((apply A.takeG 11; exact rfl; exact rfl; rotate_left 3; exact rfl; exact rfl; rotate_right 3; kernel_rfl; kernel_rfl; kernel_rfl; (apply Ok1.load; exact rfl; (apply Ld.own1; exact rfl; exact rfl; exact At.head; exact rfl)))) <;> (apply A.one 12; kernel_rfl; exact rfl; (((apply R.isG; apply R.guard_run; exact rfl; exact rfl; (apply R.callP rfl rfl rfl (width_ok 0 1 (by decide) (by decide) (by decide)))))); apply R.nil; refine ⟨?_, ?_⟩; (focus ((repeat' (first | exact trivial | (refine ⟨?_, ?_⟩; exact At.head)))))) <;> ((apply A.takeG 13; exact rfl; exact rfl; rotate_left 3; exact rfl; exact rfl; rotate_right 3; kernel_rfl; kernel_rfl; kernel_rfl; (apply Ok1.mul64; exact rfl; exact rfl; omega; omega))) <;> ((apply A.takeG 14; exact rfl; exact rfl; rotate_left 3; exact rfl; exact rfl; rotate_right 3; kernel_rfl; kernel_rfl; kernel_rfl; (apply Ok1.shr (m := 256); exact rfl; exact rfl; omega; exact Nat.le_of_ble_eq_true rfl; exact rfl))) <;> ((apply A.takeG 15; exact rfl; exact rfl; rotate_left 3; exact rfl; exact rfl; rotate_right 3; kernel_rfl; kernel_rfl; kernel_rfl; (apply Ok1.neq_f; exact rfl; exact rfl; omega))) <;> ((apply A.takeG 16; exact rfl; exact rfl; rotate_left 3; exact rfl; exact rfl; rotate_right 3; kernel_rfl; kernel_rfl; kernel_rfl; (apply Ok1.pick_t; exact rfl; exact rfl))) <;> (apply A.take 17; exact rfl; exact rfl; kernel_rfl; kernel_rfl; kernel_rfl; (apply Ok1.pick_f; exact rfl; exact rfl)) <;> (apply A.take 18; exact rfl; exact rfl; kernel_rfl; kernel_rfl; kernel_rfl; (apply Ok1.assign; exact rfl)) <;> (apply A.done; kernel_rfl))) | apply T.seq | apply T.region | apply T.block | apply T.skip | apply T.ret | (apply T.cond_f; exact rfl)))
    (apply RetOk.t; exact rfl)
    rfl
  · refine enterP (tb := tb) Tryz.func65 rfl Tryz.ntmps65 rfl fun w => ?_
    repeat' (first | (apply R.is1; first | (apply R.isBin; (apply R.pure; exact rfl; first | (apply Ok1.lss_t; exact rfl; exact rfl; omega) | (apply Ok1.lss_f; exact rfl; exact rfl; omega) | (apply Ok1.gtr_f; exact rfl; exact rfl; omega) | (apply Ok1.eql_f; exact rfl; exact rfl; omega))) | (apply R.isCall; (apply R.pure; exact rfl; (apply Ok1.lenS; (iterate 3 exact rfl)))) | (apply R.pure; exact rfl; first | (apply Ok1.move; exact rfl) | (apply Ok1.fieldAddr; (iterate 5 exact rfl)) | (apply Ok1.load; exact rfl; (apply Ld.own1; exact rfl; exact rfl; exact At.head; exact rfl)) | (apply Ok1.assign; exact rfl) | (apply Ok1.pick_t; exact rfl; exact rfl) | (apply Ok1.pick_f; exact rfl; exact rfl)) | (apply R.box; (iterate 3 exact rfl); intro)) | (apply R.isG; first | (apply R.guard_run; exact rfl; exact rfl) | (apply R.guard_not; (iterate 3 exact rfl))) | apply R.nil | (apply T.is; first | (apply T.drawC (id := 5) [0] (by decide); ((apply A.take 0; exact rfl; exact rfl; kernel_rfl; kernel_rfl; kernel_rfl; (apply Ok1.fieldAddr; (iterate 5 exact rfl))) <;> (apply A.take 1; exact rfl; exact rfl; kernel_rfl; kernel_rfl; kernel_rfl; (apply Ok1.load; exact rfl; (apply Ld.own1; exact rfl; exact rfl; exact At.head; exact rfl))) <;> ((apply A.take 2; exact rfl; exact rfl; kernel_rfl; kernel_rfl; kernel_rfl; (apply Ok1.lss_f; exact rfl; exact rfl; omega))) <;> (apply A.take 3; exact rfl; exact rfl; kernel_rfl; kernel_rfl; kernel_rfl; (apply Ok1.move; exact rfl)) <;> ((apply A.takeG 4; exact rfl; exact rfl; rotate_left 3; exact rfl; exact rfl; rotate_right 3; kernel_rfl; kernel_rfl; kernel_rfl; (apply Ok1.fieldAddr; (iterate 5 exact rfl)))) <;> ((apply A.takeG 5; exact rfl; exact rfl; rotate_left 3; exact rfl; exact rfl; rotate_right 3; kernel_rfl; kernel_rfl; kernel_rfl; (apply Ok1.load; exact rfl; (apply Ld.own1; exact rfl; exact rfl; exact At.head; exact rfl)))) <;> ((apply A.takeG 6; exact rfl; exact rfl; rotate_left 3; exact rfl; exact rfl; rotate_right 3; kernel_rfl; kernel_rfl; kernel_rfl; (apply Ok1.lss_t; exact rfl; exact rfl; omega))) <;> ((apply A.takeG 7; exact rfl; exact rfl; rotate_left 3; exact rfl; exact rfl; rotate_right 3; kernel_rfl; kernel_rfl; kernel_rfl; (apply Ok1.move; exact rfl))) <;> ((apply A.takeG 8; exact rfl; exact rfl; rotate_left 3; exact rfl; exact rfl; rotate_right 3; kernel_rfl; kernel_rfl; kernel_rfl; (apply Ok1.fieldAddr; (iterate 5 exact rfl)))) <;> ((apply A.takeG 9; exact rfl; exact rfl; rotate_left 3; exact rfl; exact rfl; rotate_right 3; kernel_rfl; kernel_rfl; kernel_rfl; (apply Ok1.load; exact rfl; (apply Ld.own1; exact rfl; exact rfl; exact At.head; exact rfl)))) <;> ((apply A.takeG 10; exact rfl; exact rfl; rotate_left 3; exact rfl; exact rfl; rotate_right 3; kernel_rfl; kernel_rfl; kernel_rfl; (apply Ok1.fieldAddr; (iterate 5 exact rfl)))) <;> ((apply A.takeG 11; exact rfl; exact rfl; rotate_left 3; exact rfl; exact rfl; rotate_right 3; kernel_rfl; kernel_rfl; kernel_rfl; (apply Ok1.load; exact rfl; (apply Ld.own1; exact rfl; exact rfl; exact At.head; exact rfl)))) <;> (apply A.one 12; kernel_rfl; exact rfl; (((apply R.isG; apply R.guard_run; exact rfl; exact rfl; (apply R.callP rfl rfl rfl (width_ok 1 2 (by decide) (by decide) (by decide)))))); apply R.nil; refine ⟨?_, ?_⟩; (focus ((repeat' (first | exact trivial | (refine ⟨?_, ?_⟩; exact At.head)))))) <;> ((apply A.takeG 13; exact rfl; exact rfl; rotate_left 3; exact rfl; exact rfl; rotate_right 3; kernel_rfl; kernel_rfl; kernel_rfl; (apply Ok1.mul64; exact rfl; exact rfl; omega; omega))) <;> ((apply A.takeG 14; exact rfl; exact rfl; rotate_left 3; exact rfl; exact rfl; rotate_right 3; kernel_rfl; kernel_rfl; kernel_rfl; (apply Ok1.shr (m := 65536); exact rfl; exact rfl; omega; exact Nat.le_of_ble_eq_true rfl; exact rfl))) <;> ((apply A.takeG 15; exact rfl; exact rfl; rotate_left 3; exact rfl; exact rfl; rotate_right 3; kernel_rfl; kernel_rfl; kernel_rfl; (apply Ok1.neq_f; exact rfl; exact rfl; omega))) <;> ((apply A.takeG 16; exact rfl; exact rfl; rotate_left 3; exact rfl; exact rfl; rotate_right 3; kernel_rfl; kernel_rfl; kernel_rfl; (apply Ok1.pick_t; exact rfl; exact rfl))) <;> (apply A.take 17; exact rfl; exact rfl; kernel_rfl; kernel_rfl; kernel_rfl; (apply Ok1.pick_f; exact rfl; exact rfl)) <;> (apply A.take 18; exact rfl; exact rfl; kernel_rfl; kernel_rfl; kernel_rfl; (apply Ok1.assign; exact rfl)) <;> (apply A.done; kernel_rfl))) | apply T.seq | apply T.region | apply T.block | apply T.skip | apply T.ret | (apply T.cond_f; exact rfl)))
    (apply RetOk.t; exact rfl)
    rfl
  · refine enterP (tb := tb) Tryz.func65 rfl Tryz.ntmps65 rfl fun w => ?_
    repeat' (first | (apply R.is1; first | (apply R.isBin; (apply R.pure; exact rfl; first | (apply Ok1.lss_t; exact rfl; exact rfl; omega) | (apply Ok1.lss_f; exact rfl; exact rfl; omega) | (apply Ok1.gtr_f; exact rfl; exact rfl; omega) | (apply Ok1.eql_f; exact rfl; exact rfl; omega))) | (apply R.isCall; (apply R.pure; exact rfl; (apply Ok1.lenS; (iterate 3 exact rfl)))) | (apply R.pure; exact rfl; first | (apply Ok1.move; exact rfl) | (apply Ok1.fieldAddr; (iterate 5 exact rfl)) | (apply Ok1.load; exact rfl; (apply Ld.own1; exact rfl; exact rfl; exact At.head; exact rfl)) | (apply Ok1.assign; exact rfl) | (apply Ok1.pick_t; exact rfl; exact rfl) | (apply Ok1.pick_f; exact rfl; exact rfl)) | (apply R.box; (iterate 3 exact rfl); intro)) | (apply R.isG; first | (apply R.guard_run; exact rfl; exact rfl) | (apply R.guard_not; (iterate 3 exact rfl))) | apply R.nil | (apply T.is; first | (apply T.drawC (id := 5) [0] (by decide); ((apply A.take 0; exact rfl; exact rfl; kernel_rfl; kernel_rfl; kernel_rfl; (apply Ok1.fieldAddr; (iterate 5 exact rfl))) <;> (apply A.take 1; exact rfl; exact rfl; kernel_rfl; kernel_rfl; kernel_rfl; (apply Ok1.load; exact rfl; (apply Ld.own1; exact rfl; exact rfl; exact At.head; exact rfl))) <;> ((apply A.take 2; exact rfl; exact rfl; kernel_rfl; kernel_rfl; kernel_rfl; (apply Ok1.lss_f; exact rfl; exact rfl; omega))) <;> (apply A.take 3; exact rfl; exact rfl; kernel_rfl; kernel_rfl; kernel_rfl; (apply Ok1.move; exact rfl)) <;> ((apply A.takeG 4; exact rfl; exact rfl; rotate_left 3; exact rfl; exact rfl; rotate_right 3; kernel_rfl; kernel_rfl; kernel_rfl; (apply Ok1.fieldAddr; (iterate 5 exact rfl)))) <;> ((apply A.takeG 5; exact rfl; exact rfl; rotate_left 3; exact rfl; exact rfl; rotate_right 3; kernel_rfl; kernel_rfl; kernel_rfl; (apply Ok1.load; exact rfl; (apply Ld.own1; exact rfl; exact rfl; exact At.head; exact rfl)))) <;> ((apply A.takeG 6; exact rfl; exact rfl; rotate_left 3; exact rfl; exact rfl; rotate_right 3; kernel_rfl; kernel_rfl; kernel_rfl; (apply Ok1.lss_t; exact rfl; exact rfl; omega))) <;> ((apply A.takeG 7; exact rfl; exact rfl; rotate_left 3; exact rfl; exact rfl; rotate_right 3; kernel_rfl; kernel_rfl; kernel_rfl; (apply Ok1.move; exact rfl))) <;> ((apply A.takeG 8; exact rfl; exact rfl; rotate_left 3; exact rfl; exact rfl; rotate_right 3; kernel_rfl; kernel_rfl; kernel_rfl; (apply Ok1.fieldAddr; (iterate 5 exact rfl)))) <;> ((apply A.takeG 9; exact rfl; exact rfl; rotate_left 3; exact rfl; exact rfl; rotate_right 3; kernel_rfl; kernel_rfl; kernel_rfl; (apply Ok1.load; exact rfl; (apply Ld.own1; exact rfl; exact rfl; exact At.head; exact rfl)))) <;> ((apply A.takeG 10; exact rfl; exact rfl; rotate_left 3; exact rfl; exact rfl; rotate_right 3; kernel_rfl; kernel_rfl; kernel_rfl; (apply Ok1.fieldAddr; (iterate 5 exact rfl)))) <;> ((apply A.takeG 11; exact rfl; exact rfl; rotate_left 3; exact rfl; exact rfl; rotate_right 3; kernel_rfl; kernel_rfl; kernel_rfl; (apply Ok1.load; exact rfl; (apply Ld.own1; exact rfl; exact rfl; exact At.head; exact rfl)))) <;> (apply A.one 12; kernel_rfl; exact rfl; (((apply R.isG; apply R.guard_run; exact rfl; exact rfl; (apply R.callP rfl rfl rfl (width_ok 2 4 (by decide) (by decide) (by decide)))))); apply R.nil; refine ⟨?_, ?_⟩; (focus ((repeat' (first | exact trivial | (refine ⟨?_, ?_⟩; exact At.head)))))) <;> ((apply A.takeG 13; exact rfl; exact rfl; rotate_left 3; exact rfl; exact rfl; rotate_right 3; kernel_rfl; kernel_rfl; kernel_rfl; (apply Ok1.mul64; exact rfl; exact rfl; omega; omega))) <;> ((apply A.takeG 14; exact rfl; exact rfl; rotate_left 3; exact rfl; exact rfl; rotate_right 3; kernel_rfl; kernel_rfl; kernel_rfl; (apply Ok1.shr (m := 4294967296); exact rfl; exact rfl; omega; exact Nat.le_of_ble_eq_true rfl; exact rfl))) <;> ((apply A.takeG 15; exact rfl; exact rfl; rotate_left 3; exact rfl; exact rfl; rotate_right 3; kernel_rfl; kernel_rfl; kernel_rfl; (apply Ok1.neq_f; exact rfl; exact rfl; omega))) <;> ((apply A.takeG 16; exact rfl; exact rfl; rotate_left 3; exact rfl; exact rfl; rotate_right 3; kernel_rfl; kernel_rfl; kernel_rfl; (apply Ok1.pick_t; exact rfl; exact rfl))) <;> (apply A.take 17; exact rfl; exact rfl; kernel_rfl; kernel_rfl; kernel_rfl; (apply Ok1.pick_f; exact rfl; exact rfl)) <;> (apply A.take 18; exact rfl; exact rfl; kernel_rfl; kernel_rfl; kernel_rfl; (apply Ok1.assign; exact rfl)) <;> (apply A.done; kernel_rfl))) | apply T.seq | apply T.region | apply T.block | apply T.skip | apply T.ret | (apply T.cond_f; exact rfl)))
    (apply RetOk.t; exact rfl)
    rfl
theorem fout_ok (s : Nat) (n : Int) (h : Fits s n) (w : World) : CallM Tryz.prog 66 [.agg ⟨fldV s n⟩] [] w fun v L => ∃ b, v = .slice (some ⟨b, 0, none⟩) (numI s n).length (numI s n).length ∧ L = [(b, .cells ⟨u8s (numI s n)⟩ 5 (0, 0))] := by
  have hs : s = 0 ∨ s = 1 ∨ s = 2 := by unfold Fits at h; omega
  have hn : n ≤ 9223372036854775807 := by unfold Fits at h; omega
  have hnum := fun w1 => number_ok s n hs h.1 hn w1
  unfold fldV
  refine enterK (tb := tb) Tryz.func66 rfl Tryz.ntmps66 rfl ?_
  repeat' (first | (apply R.is1; first | (apply R.isBin; (apply R.pure; exact rfl; (apply Ok1.eql_f; exact rfl; exact rfl; omega))) | (apply R.isCall; (apply R.callE; (iterate 3 exact rfl); exact Ext.none _; intro w1 hw1; exact hnum w1; rintro v Lo ⟨b, rfl, rfl⟩)) | (apply R.pure; exact rfl; first | (apply Ok1.fieldAddr; (iterate 5 exact rfl)) | (apply Ok1.load; exact rfl; (apply Ld.own1; exact rfl; exact rfl; exact At.head; exact rfl)) | (apply Ok1.assign; exact rfl)) | (apply R.box; (iterate 3 exact rfl); intro)) | apply R.nil | (apply T.is; first | apply T.seq | apply T.region | apply T.skip | apply T.ret | (apply T.cond_f; exact rfl)))
  (apply RetOk.t; exact rfl)
  exact ⟨_, by (focus ((repeat' (first | exact Keep.nil _ | exact Ext.one _ _ | apply Keep.cons)); done)), b, rfl, rfl⟩
/-- A writer that has written, without an error. -/
def WL (bw : Nat) (ov : Ov) (bs : List Int) : Lst := (bw, .cells ⟨[slV ov bs.length, .int .i64 0]⟩ 73 (0, 0)) :: blkL 5 ov (u8s bs)
def WRes (bw : Nat) (bs : List Int) (v : Value) (L : Lst) : Prop := ∃ ov, v = .pointer (some ⟨bw, 0, none⟩) ∧ OvOk 1 ov bs.length (u8s bs) ∧ L = WL bw ov bs
theorem num_len (s : Nat) (n : Int) : 1 ≤ (numI s n).length ∧ (numI s n).length ≤ 4 := by unfold numI len4; split <;> simp
theorem put_ok (bw : Nat) (ov : Ov) (bs : List Int) (hov : OvOk 1 ov bs.length (u8s bs)) (s : Nat) (n : Int) (h : Fits s n) (hbig : bs.length ≤ 1000) (bf : Nat) (fz : Nat × Nat) (e : TypeId) (w : World) (hb : w.heap[bf]? = some (.cells ⟨fldV s n⟩ e fz)) (hoff : bf ∉ blks (WL bw ov bs)) :
    CallM Tryz.prog 46 [.pointer (some ⟨bw, 0, none⟩), .slice (some ⟨bf, 0, none⟩) 1 1] (WL bw ov bs) w (WRes bw (bs ++ numI s n)) := by
  have hck := wcheck_ok s n h
  have hfo := fun w1 => fout_ok s n h w1
  have hnl := num_len s n
  unfold WRes
  generalize numI s n = nb at *
  refine enterK (tb := tb) Tryz.func46 rfl Tryz.ntmps46 rfl ?_
  obtain ⟨S, hS⟩ : ∃ S, S = blks (WL bw ov bs) := ⟨_, rfl⟩
  rw [← hS] at hoff ⊢
  simp only [WL, fldV] at hb hck hfo ⊢
  repeat' (first | (apply R.is1; first | (apply R.isBin; (apply R.pure; exact rfl; first | (apply Ok1.add64; exact rfl; exact rfl; omega; omega) | (apply Ok1.lss_t; exact rfl; exact rfl; omega) | (apply Ok1.lss_f; exact rfl; exact rfl; omega) | (apply Ok1.gtr_f; exact rfl; exact rfl; omega) | (apply Ok1.neq_f; exact rfl; exact rfl; omega) | (apply Ok1.eqlP; (iterate 5 exact rfl)))) | (apply R.isCall; first | apply R.callP rfl rfl rfl hck | (apply R.callE; (iterate 3 exact rfl); exact Ext.none _; intro w1 hw1; exact hfo w1; rintro v Lo ⟨b7, rfl, rfl⟩) | (apply R.pure; exact rfl; apply Ok1.lenOv; (iterate 3 exact rfl); exact hov) | (apply R.appendRd (xs := nb) (v := u8V) (sz := 1) (ov := ov) (n := bs.length) (old := u8s bs); (iterate 12 exact rfl); exact hov; (focus ((repeat' (first | exact Ext.all _ | apply Ext.cons)); done)); exact rfl; exact u8V_len; exact rfl; (intro w1 hw1; exact RdSl.of (junk := []) hw1 (by exact At.head) (by rw [fl_u8, List.append_nil])); (focus (rw [fl_u8]; exact u8s_one nb)); omega; intro ov1 hov1 hsome; rw [fl_u8, ← u8s_app, ← List.length_append]; rw [fl_u8, ← u8s_app, ← List.length_append] at hov1) | (apply R.pure; exact rfl; (apply Ok1.lenS; (iterate 3 exact rfl)))) | (apply R.pure; exact rfl; first | (apply Ok1.move; exact rfl) | (apply Ok1.fieldAddr; (iterate 5 exact rfl)) | (apply Ok1.load; exact rfl; first | (apply Ld.own1; exact rfl; exact rfl; (focus ((repeat' (first | exact At.head | apply At.tail)); done)); exact rfl) | (apply Ld.ownk; exact rfl; exact rfl; (focus ((repeat' (first | exact At.head | apply At.tail)); done)); exact rfl) | (apply Ld.blkk; exact rfl; exact rfl; assumption; (assumption); exact rfl)) | (apply Ok1.assign; exact rfl) | (apply Ok1.indexAddr; (iterate 5 exact rfl); omega; omega) | (apply Ok1.nilCheck; exact rfl)) | (apply R.alloc; (iterate 3 exact rfl); intro)) | (apply R.is0; first | (apply R.store; (iterate 3 exact rfl); exact cellsE_slV _ _; exact rfl; exact one_slV _ _; (focus ((repeat' (first | exact Upd.head | apply Upd.tail | apply Upd.right)); done)); exact rfl) | (apply R.store; (iterate 6 exact rfl); (focus ((repeat' (first | exact Upd.head | apply Upd.tail)); done)); exact rfl)) | apply R.nil | (apply T.is; first | apply T.rounds 3 | apply T.seq | apply T.region | apply T.block | apply T.scope | apply T.label | apply T.skip | apply T.exit | apply T.ret | (apply T.cond_t; exact rfl) | (apply T.cond_f; exact rfl)))
  (apply RetOk.t; exact rfl)
  refine ⟨_, ?_, ov1, rfl, hov1, rfl⟩
  (focus ((repeat' (first | exact Ext.one _ _ | exact Ext.here _ _ | apply Keep.cons | apply Keep.last | apply Ext.cons | apply Ext.app)); done))
theorem number1_ok (bw : Nat) (ov : Ov) (bs : List Int) (hov : OvOk 1 ov bs.length (u8s bs)) (s : Nat) (n : Int) (h : Fits s n) (hbig : bs.length ≤ 1000) (bl : Nat) (fz : Nat × Nat) (e : TypeId) (w : World) (hb : w.heap[bl]? = some (.cells ⟨[.int .i64 n]⟩ e fz)) (hoff : bl ∉ blks (WL bw ov bs)) :
    CallM Tryz.prog 27 [.pointer (some ⟨bw, 0, none⟩), .int .i64 s, .slice (some ⟨bl, 0, none⟩) 1 1] (WL bw ov bs) w (WRes bw (bs ++ numI s n)) := by
  have hput := fun bf fz e w1 => put_ok bw ov bs hov s n h hbig bf fz e w1
  unfold WRes at hput ⊢
  generalize bs ++ numI s n = nb at *
  refine enterK (tb := tb) Tryz.func27 rfl Tryz.ntmps27 rfl ?_
  obtain ⟨S, hS⟩ : ∃ S, S = blks (WL bw ov bs) := ⟨_, rfl⟩
  rw [← hS] at hoff ⊢
  repeat' (first | (apply R.is1; first | (apply R.isBin; (apply R.pure; exact rfl; first | (apply Ok1.add64; exact rfl; exact rfl; omega; omega) | (apply Ok1.lss_t; exact rfl; exact rfl; omega) | (apply Ok1.lss_f; exact rfl; exact rfl; omega))) | (apply R.isCall; first | (apply R.callE (Li := WL bw ov bs); (iterate 3 exact rfl); (focus ((repeat' (first | exact Ext.all _ | apply Ext.cons)); done)); intro w1 hw1; exact hput _ _ _ w1 (hw1.get _ _ (At.mem (by exact At.head))) (RdSl.off hw1 (by (focus ((repeat' (first | exact Ext.all _ | apply Ext.cons)); done))) (At.mem (by exact At.head))); rintro v Lo ⟨ov1, rfl, hov1, rfl⟩) | (apply R.pure; exact rfl; (apply Ok1.lenS; (iterate 3 exact rfl)))) | (apply R.pure; exact rfl; first | (apply Ok1.move; exact rfl) | (apply Ok1.load; exact rfl; (apply Ld.blk1; exact rfl; exact rfl; assumption; (assumption); exact rfl)) | (apply Ok1.assign; exact rfl) | (apply Ok1.indexAddr; (iterate 5 exact rfl); omega; omega) | (apply Ok1.build; (iterate 5 exact rfl))) | (apply R.buildSlice; (iterate 12 exact rfl); intro)) | apply R.nil | (apply T.is; first | apply T.rounds 3 | apply T.seq | apply T.region | apply T.block | apply T.skip | apply T.exit | apply T.ret | (apply T.cond_t; exact rfl) | (apply T.cond_f; exact rfl)))
  (apply RetOk.t; exact rfl)
  refine ⟨_, ?_, ov1, rfl, hov1, rfl⟩
  (focus ((repeat' (first | exact Ext.one _ _ | exact Ext.here _ _ | apply Keep.cons | apply Keep.last)); done))
theorem wout_ok (bw : Nat) (ov : Ov) (bs : List Int) (hov : OvOk 1 ov bs.length (u8s bs)) (hbig : bs.length ≤ 1000000) (w : World) (hb : w.heap[bw]? = some (.cells ⟨[slV ov bs.length, .int .i64 0]⟩ 73 (0, 0))) (hr : RdSl w (ovp ov) u8V bs) :
    CallM Tryz.prog 28 [.pointer (some ⟨bw, 0, none⟩)] [] w fun v L => ∃ ov', OvOk 1 ov' bs.length (u8s bs) ∧ v = .tuple #[slV ov' bs.length, .int .i64 0] ∧ L = blkL 5 ov' (u8s bs) := by
  rw [slV_eq hov] at hb
  refine enterK (tb := tb) Tryz.func28 rfl Tryz.ntmps28 rfl ?_
  have hcl := fun w1 (hc : Chg [] w w1) => clone_ok (ovp ov) bs.length (ovc ov bs.length) bs rfl (by omega) w1 (hr.chg' hc (fun _ => Off.nil _))
  repeat' (first | (apply R.is1; first | (apply R.isBin; (apply R.pure; exact rfl; first | (apply Ok1.neq_f; exact rfl; exact rfl; omega) | (apply Ok1.eqlP; (iterate 5 exact rfl)))) | (apply R.isCall; (apply R.callE; (iterate 3 exact rfl); exact Ext.none _; intro w1 hw1; exact hcl w1 hw1.chg; rintro v Lo ⟨ov2, hov2, hsome, rfl, rfl⟩)) | (apply R.pure; exact rfl; first | (apply Ok1.move; exact rfl) | (apply Ok1.fieldAddr; (iterate 5 exact rfl)) | (apply Ok1.load; exact rfl; (apply Ld.blk1; exact rfl; exact rfl; assumption; (exact List.not_mem_nil); exact rfl)) | (apply Ok1.assign; exact rfl) | (apply Ok1.nilCheck; exact rfl))) | apply R.nil | (apply T.is; first | apply T.seq | apply T.region | apply T.block | apply T.skip | apply T.ret | (apply T.cond_f; exact rfl)))
  (apply RetOk.tt; exact rfl; exact rfl)
  exact ⟨_, by (focus ((repeat' (first | exact Ext.here _ _ | apply Keep.last)); done)), ov2, hov2, rfl, rfl⟩
end Go.Proofs.YtligpachgcmkcaaGreat
set_option linter.unusedSimpArgs false
set_option linter.unusedVariables false
namespace Go.Proofs.YtligpachgcmkcaaGreat
open Go.RowKit Go.Shelf
section
variable {X : Cx} {σ : Env} {L : Lst} {ty t : TypeId} {pos : String} {af : Array Edge} {x y : Operand} {r : TRow}
end
section
variable {X : Cx} {σ : Env} {L : Lst} {ty t : TypeId} {pos : String} {af : Array Edge} {x y : Operand} {r : TRow} {xs ys : List Value} {ks : List TK}
theorem Ok1.eqlFq2 {d : Option Nat} {g : Option (Nat × Bool)} {ty2 : TypeId} {q : Bool} (hx : ev σ x = some (.agg ⟨xs⟩)) (hy : ev σ y = some (.agg ⟨ys⟩)) (ht : X.tb.row t = some r) (hk : r.k.agg = some true) (hf : flatE X.tb 8 t = some ks) (h1 : allOk ks xs = true) (h2 : allOk ks ys = true) (hq : xs = ys ↔ q = true) :
    Ok1 X ⟨d, .binOp .eql t x y ty2, ty, pos, af, g⟩ σ L (.bool q) := by
  have h := Ok1.eqlF (X := X) (L := L) (ty2 := ty2) (d := d) (ty := ty) (pos := pos) (af := af) (g := g) hx hy ht hk hf h1 h2
  have e : ∀ (i : Decidable (xs = ys)), @decide (xs = ys) i = q := by intro i; cases q <;> simp_all
  rw [e] at h
  exact h
end
/-- The walk stops here. -/
structure Stop (p : Prop) : Prop where
  of : p
section
variable {X : Cx} {Q : Post} {σ : Env} {L : Lst}
theorem T.stop (i : Nat) {ops : Array Oper} {g : Bool} {c d : Code} (h : Stop (T X (.seq (.seq (.region i ops g) c) d) Q σ L)) : T X (.seq (.seq (.region i ops g) c) d) Q σ L := h.of
theorem T.stop1 (i : Nat) {ops : Array Oper} {g : Bool} {d : Code} (h : Stop (T X (.seq (.region i ops g) d) Q σ L)) : T X (.seq (.region i ops g) d) Q σ L := h.of
end
section
variable {X : Cx} {σ : Env} {L Lr : Lst} {d : Option Nat} {dd : Nat} {ty : TypeId} {pos : String} {af : Array Edge} {g : Option (Nat × Bool)} {x y : Operand} {t t2 e : TypeId} {r r2 re : TRow}
variable {all : Array Oper} {rest : List Oper} {K : Env → Lst → Prop} {p : Option Addr} {n cap i : Nat}
end
section
variable {X : Cx} {σ : Env} {L Lr : Lst} {d : Option Nat} {ty : TypeId} {pos : String} {af : Array Edge} {g : Option (Nat × Bool)} {x : Operand} {t e : TypeId} {r re : TRow} {p : Option Addr} {n m cap b o i : Nat}
theorem Ok1.sliceArrTo {hi : Operand} (ht : X.tb.row t = some r) (hk : r.k = .arr n e) (he : X.tb.row e = some re) (hx : ev σ x = some (.pointer (some ⟨b, o, none⟩))) (hh : ev σ hi = some (.int .i64 i)) (h1 : i ≤ n) :
    Ok1 X ⟨d, .slice t x none (some hi) none, ty, pos, af, g⟩ σ L (.slice (some ⟨b, o, none⟩) i n) := .mk fun a w ha hw => by
  have h2 := (X.tb.get ht).is
  rw [hk] at h2
  simp only [TK.is] at h2
  have h6 : ((i : Int) ≤ (n : Int)) := by omega
  simp [execOp, Instr.sliceAt, run_underlying h2, ha.ev hx, ha.ev hh, Instr.sureAddr, Instr.sliceBounds, Instr.sliceBound, asIntOf, (X.tb.get he).size, Addr.add_none, h1, h6]
theorem Ok1.arrAt (ht : X.tb.row t = some r) (hk : r.k = .arr n e) (hx : ev σ x = some (.slice p m cap)) (h1 : n ≤ m) :
    Ok1 X ⟨d, .sliceToArrayPointer t x, ty, pos, af, g⟩ σ L (.pointer p) := .mk fun a w ha hw => by
  have h2 := (X.tb.get ht).is
  rw [hk] at h2
  simp only [TK.is] at h2
  have h3 : ¬ (m < n) := by omega
  simp [execOp, Instr.arrayAt, run_underlying h2, ha.ev hx, h3]
end
end Go.Proofs.YtligpachgcmkcaaGreat
set_option linter.unusedSimpArgs false
set_option linter.unusedVariables false
namespace Go.Proofs.YtligpachgcmkcaaGreat
open Go.RowKit Go.Shelf
def iV (x : Int) : List Value := [.int .i64 x]
theorem iV_len (x : Int) : (iV x).length = 1 := rfl
def iis (xs : List Int) : List Value := xs.map fun x => .int .i64 x
theorem iis_len (xs : List Int) : (iis xs).length = xs.length := by simp [iis]
theorem iis_one (xs : List Int) : (iis xs).all Value.oneCell' = true := by simp [iis, Value.oneCell']
theorem iis_app (xs ys : List Int) : iis (xs ++ ys) = iis xs ++ iis ys := by simp [iis]
theorem fl_i (xs : List Int) : fl iV xs = iis xs := by
  unfold fl iis
  induction xs with
  | nil => rfl
  | cons a l ih => simp only [List.map_cons, List.flatten_cons, ih]; rfl
theorem irdown {ov : Ov} {xs : List Int} {e : Nat} (hov : OvOk 1 ov xs.length (iis xs)) {w0 w : World} {S : List Nat} {L : Lst} (hw : Hp w0 S L w) (hin : ∀ x ∈ blkL e ov (iis xs), x ∈ L) : RdSl w (ovp ov) iV xs := by
  rw [← fl_i] at hov hin
  exact RdSl.own' hw hin hov iV_len
/-- A log: nothing, or a slice of one's own. -/
structure Lg where
  ov : Ov
  xs : List Int
def Lg.v (g : Lg) : Value := slV g.ov g.xs.length
def Lg.L (g : Lg) : Lst := blkL 3 g.ov (iis g.xs)
def Lg.ok (g : Lg) : Prop := OvOk 1 g.ov g.xs.length (iis g.xs)
theorem Lg.v_eq {g : Lg} (h : g.ok) : g.v = .slice (ovp g.ov) g.xs.length (ovc g.ov g.xs.length) := slV_eq h
def lg0 : Lg := ⟨none, []⟩
theorem lg0_ok : lg0.ok := ⟨rfl, rfl⟩
theorem Lg.rd {g : Lg} (h : g.ok) {w0 w : World} {S : List Nat} {L : Lst} (hw : Hp w0 S L w) (hin : ∀ x ∈ g.L, x ∈ L) : RdSl w (ovp g.ov) iV g.xs := irdown h hw hin
end Go.Proofs.YtligpachgcmkcaaGreat
set_option linter.unusedSimpArgs false
set_option linter.unusedVariables false
namespace Go.Proofs.YtligpachgcmkcaaGreat
open Go.RowKit Go.Shelf
set_option maxRecDepth 100000
theorem irdnone {n : Nat} {xs : List Int} {w : World} (hn : n = xs.length) (h : RdSl w none iV xs) : n = 0 := by
  rcases h with h | ⟨b, o, h, _⟩
  · rw [hn, h]; rfl
  · cases h
theorem iclone_ok (p : Option Addr) (n cap : Nat) (xs : List Int) (hn : n = xs.length) (hbig : n ≤ 1000000000) (w : World) (hp : RdSl w p iV xs) : CallM Tryz.prog 56 [.slice p n cap] [] w fun v L => ∃ ov, OvOk 1 ov n (iis xs) ∧ ov.isSome = p.isSome ∧ v = slV ov n ∧ L = blkL 3 ov (iis xs) := by
  refine enterK (tb := tb) Tryz.func56 rfl Tryz.ntmps56 rfl ?_
  cases p with
  | none =>
    have h0 := irdnone hn hp
    have hx : xs = [] := List.eq_nil_of_length_eq_zero (by omega)
    subst hx
    repeat' (first | (apply R.is1; first | (apply R.isBin; (apply R.pure; exact rfl; (apply Ok1.eqlS; (iterate 5 exact rfl)))) | (apply R.pure; exact rfl; first | (apply Ok1.move; exact rfl) | (apply Ok1.assign; exact rfl))) | apply R.nil | (apply T.is; first | apply T.seq | apply T.region | apply T.ret | (apply T.cond_t; exact rfl)))
    (apply RetOk.t; exact rfl)
    exact ⟨_, by (focus ((repeat' (exact Keep.nil _)); done)), none, by rw [h0]; exact OvOk.start 1, rfl, rfl, rfl⟩
  | some a =>
    repeat' (first | (apply R.is1; first | (apply R.buildSlice0; (iterate 4 exact rfl); intro b0) | (apply R.isBin; (apply R.pure; exact rfl; (apply Ok1.eqlS; (iterate 5 exact rfl)))) | (apply R.isCall; (apply R.appendRd (xs := xs) (v := iV) (sz := 1) (ov := some (b0, 0, [])) (n := 0) (old := []); (iterate 12 exact rfl); exact ⟨rfl, rfl⟩; (focus ((repeat' (exact Ext.one _ _)); done)); exact hn; exact iV_len; exact rfl; (intro w1 hw1; exact hp.chg hw1.chg (Off.nil _)); (focus (rw [fl_i]; exact iis_one xs)); omega; intro ov1 hov1 hsome)) | (apply R.pure; exact rfl; first | (apply Ok1.move; exact rfl) | (apply Ok1.assign; exact rfl))) | apply R.nil | (apply T.is; first | apply T.seq | apply T.region | apply T.skip | apply T.ret | (apply T.cond_f; exact rfl)))
    rw [Nat.zero_add, List.nil_append, fl_i] at hov1
    rw [Nat.zero_add, List.nil_append, fl_i]
    repeat' (fail)
    (apply RetOk.t; exact rfl)
    refine ⟨_, ?_, ov1, hov1, by rw [hsome rfl]; rfl, rfl, rfl⟩
    (focus ((repeat' (first | exact Ext.here _ _ | apply Keep.last)); done))
theorem igrow_ok (n : Nat) (hbig : n ≤ 1000000000) (w : World) : CallM Tryz.prog 50 [.slice none 0 0, .int .i64 n] [] w fun v L => ∃ ov, OvOk 1 ov 0 [] ∧ v = slV ov 0 ∧ L = blkL 3 ov [] := by
  refine enterK (tb := tb) Tryz.func50 rfl Tryz.ntmps50 rfl ?_
  rcases Nat.eq_zero_or_pos n with h0 | h0
  · subst h0
    repeat' (first | (apply R.is1; first | (apply R.isBin; (apply R.pure; exact rfl; first | (apply Ok1.sub64; exact rfl; exact rfl; omega; omega) | (apply Ok1.lss_f; exact rfl; exact rfl; omega) | (apply Ok1.gtr_f; exact rfl; exact rfl; omega))) | (apply R.isCall; (apply R.pure; exact rfl; (apply Ok1.lenS; (iterate 3 exact rfl)))) | (apply R.pure; exact rfl; first | (apply Ok1.capS; (iterate 3 exact rfl)) | (apply Ok1.move; exact rfl) | (apply Ok1.assign; exact rfl))) | apply R.nil | (apply T.is; first | apply T.seq | apply T.region | apply T.skip | apply T.ret | (apply T.cond_f; exact rfl)))
    (apply RetOk.t; exact rfl)
    exact ⟨_, by (focus ((repeat' (exact Keep.nil _)); done)), none, OvOk.start 1, rfl, rfl⟩
  · repeat' (first | (apply R.is1; first | (apply R.isBin; (apply R.pure; exact rfl; first | (apply Ok1.sub64; exact rfl; exact rfl; omega; omega) | (apply Ok1.lss_f; exact rfl; exact rfl; omega) | (apply Ok1.gtr_t; exact rfl; exact rfl; omega))) | (apply R.isCall; first | (apply R.growMk (n := n); (iterate 12 exact rfl); omega; omega; intro b0 j0) | (apply R.pure; exact rfl; (apply Ok1.lenS; (iterate 3 exact rfl)))) | (apply R.pure; exact rfl; first | (apply Ok1.capS; (iterate 3 exact rfl)) | (apply Ok1.move; exact rfl) | (apply Ok1.assign; exact rfl) | (apply Ok1.slice0; (iterate 7 exact rfl); (refine ⟨?_, ?_, ?_⟩ <;> omega); (exact Or.inl rfl)) | (apply Ok1.sliceTo; (iterate 6 exact rfl); omega; omega; omega; (exact Or.inl rfl)))) | apply R.nil | (apply T.is; first | apply T.seq | apply T.region | apply T.skip | apply T.ret | (apply T.cond_t; exact rfl) | (apply T.cond_f; exact rfl)))
    (apply RetOk.t; exact rfl)
    refine ⟨_, ?_, some (b0, n + j0, List.replicate (n + j0) (.int .i64 0)), ⟨rfl, by simp⟩, by simp [slV]; omega, rfl⟩
    simp only [blkL, List.nil_append]
    (focus ((repeat' (first | exact Keep.nil _ | exact Ext.one _ _ | apply Keep.cons)); done))
/-- A part: a slice of integers. -/
structure Pi where
  p : Option Addr
  cap : Nat
  xs : List Int
deriving Inhabited
def Pi.v (x : Pi) : List Value := [.slice x.p x.xs.length x.cap]
theorem Pi.v_len (x : Pi) : x.v.length = 1 := rfl
def icat (ps : List Pi) : List Int := ps.flatMap (·.xs)
theorem icat_nil : icat [] = [] := rfl
theorem icat_snoc {ps : List Pi} {i : Nat} {x : Pi} (h : ps[i]? = some x) : icat (ps.take (i + 1)) = icat (ps.take i) ++ x.xs := by
  unfold icat
  rw [List.take_add_one, h, List.flatMap_append]
  simp
theorem icat_le (ps : List Pi) (i : Nat) : (icat (ps.take i)).length ≤ (icat ps).length := by
  conv => rhs; rw [← List.take_append_drop i ps]
  unfold icat
  rw [List.flatMap_append, List.length_append]
  omega
theorem iconcat_ok (p : Option Addr) (n cap : Nat) (ps : List Pi) (hn : n = ps.length) (hbig : (icat ps).length ≤ 1000000000) (hbig2 : n ≤ 1000000000) (w : World) (hp : RdSl w p Pi.v ps) (hall : ∀ x ∈ ps, RdSl w x.p iV x.xs) :
    CallM Tryz.prog 37 [.slice p n cap] [] w fun v L => ∃ ov, OvOk 1 ov (icat ps).length (iis (icat ps)) ∧ v = slV ov (icat ps).length ∧ L = blkL 3 ov (iis (icat ps)) := by
  subst hn
  refine enterK (tb := tb) Tryz.func37 rfl Tryz.ntmps37 rfl ?_
  repeat' (first | (apply R.is1; first | (apply R.isCall; (apply R.pure; exact rfl; (apply Ok1.lenS; (iterate 3 exact rfl)))) | (apply R.pure; exact rfl; first | (apply Ok1.move; exact rfl) | (apply Ok1.assign; exact rfl))) | apply R.nil | (apply T.is; first | apply T.seq | apply T.region | apply T.block))
  apply T.loopK (α := Nat) (I := fun i => i ≤ ps.length) (σi := fun i => [(0, .slice p ps.length cap), (3, .int .i64 (icat (ps.take i)).length), (9, .slice p ps.length cap), (10, .int .i64 ps.length), (11, .int .i64 i)]) (Li := fun _ => []) (μ := fun i => ps.length - i) (i0 := 0)
  · exact Nat.zero_le _
  · exact ⟨rfl, rfl, rfl, rfl, rfl, trivial⟩
  · (focus ((repeat' (exact Keep.nil _)); done))
  · intro i hi
    have hle := icat_le ps i
    rcases Nat.lt_or_ge i ps.length with hlt | hge
    · obtain ⟨x, hx⟩ : ∃ x, ps[i]? = some x := ⟨_, List.getElem?_eq_getElem (by omega)⟩
      obtain ⟨b, o, hpe, H⟩ := hp.at hx
      replace H := H 1 Pi.v_len
      have hs := icat_snoc hx
      have hl := congrArg List.length hs
      rw [List.length_append] at hl
      have hle2 := icat_le ps (i + 1)
      repeat' (first | (apply R.is1; first | (apply R.isBin; (apply R.pure; exact rfl; first | (apply Ok1.add64; exact rfl; exact rfl; omega; omega) | (apply Ok1.lss_t; exact rfl; exact rfl; omega) | (apply Ok1.lss_f; exact rfl; exact rfl; omega))) | (apply R.isCall; (apply R.pure; exact rfl; (apply Ok1.lenS; (iterate 3 exact rfl)))) | (apply R.pure; exact rfl; first | (apply Ok1.indexAddrP; (iterate 4 exact rfl); exact hpe; exact rfl; omega; omega) | (apply Ok1.load; exact rfl; apply Ld.row0 H; exact rfl; exact List.not_mem_nil; (iterate 3 exact rfl)) | (apply Ok1.move; exact rfl) | (apply Ok1.assign; exact rfl))) | apply R.nil | (apply T.is; first | apply T.seq | apply T.region | apply T.block | apply T.skip | (apply T.cond_t; exact rfl) | (apply T.cond_f; exact rfl)))
      refine ⟨i + 1, by omega, by omega, ⟨rfl, ?_, rfl, rfl, rfl, trivial⟩, by (focus ((repeat' (exact Keep.nil _)); done))⟩
      rw [hl]
      rfl
    · have him : i = ps.length := by omega
      subst him
      rw [List.take_length]
      have hgr := fun w1 => igrow_ok (icat ps).length hbig w1
      repeat' (first | (apply R.is1; first | (apply R.isBin; (apply R.pure; exact rfl; (apply Ok1.lss_f; exact rfl; exact rfl; omega))) | (apply R.isCall; first | (apply R.callE; (iterate 3 exact rfl); exact Ext.none _; intro w1 hw1; exact hgr w1; rintro v Lo ⟨ov0, hov0, rfl, rfl⟩) | (apply R.pure; exact rfl; (apply Ok1.lenS; (iterate 3 exact rfl)))) | (apply R.pure; exact rfl; first | (apply Ok1.move; exact rfl) | (apply Ok1.assign; exact rfl))) | apply R.nil | (apply T.is; first | apply T.seq | apply T.region | apply T.block | apply T.exit | (apply T.cond_f; exact rfl)))
      apply T.loopK (α := Nat × Ov) (I := fun y => y.1 ≤ ps.length ∧ OvOk 1 y.2 (icat (ps.take y.1)).length (iis (icat (ps.take y.1)))) (σi := fun y => [(6, slV y.2 (icat (ps.take y.1)).length), (25, .slice p ps.length cap), (26, .int .i64 ps.length), (27, .int .i64 y.1)]) (Li := fun y => blkL 3 y.2 (iis (icat (ps.take y.1)))) (μ := fun y => ps.length - y.1) (i0 := (0, ov0))
      · exact ⟨Nat.zero_le _, hov0⟩
      · exact ⟨rfl, rfl, rfl, rfl, trivial⟩
      · simp only [List.take_zero, icat_nil]
        change Keep _ (blkL 3 ov0 [])
        (focus ((repeat' (first | exact Ext.here _ _ | apply Keep.last)); done))
      · rintro ⟨i, ov⟩ ⟨hi, hov⟩
        simp only at hi hov ⊢
        rcases Nat.lt_or_ge i ps.length with hlt | hge
        · obtain ⟨x, hx⟩ : ∃ x, ps[i]? = some x := ⟨_, List.getElem?_eq_getElem (by omega)⟩
          obtain ⟨b, o, hpe, H⟩ := hp.at hx
          replace H := H 1 Pi.v_len
          have hs := icat_snoc hx
          have hl := congrArg List.length hs
          rw [List.length_append] at hl
          have hle2 := icat_le ps (i + 1)
          have hrd := hall x (List.mem_of_getElem? hx)
          repeat' (first | (apply R.is1; first | (apply R.isBin; (apply R.pure; exact rfl; first | (apply Ok1.add64; exact rfl; exact rfl; omega; omega) | (apply Ok1.lss_t; exact rfl; exact rfl; omega))) | (apply R.isCall; (apply R.appendRd (xs := x.xs) (v := iV) (sz := 1) (ov := ov) (n := (icat (ps.take i)).length) (old := iis (icat (ps.take i))); (iterate 12 exact rfl); exact hov; (focus ((repeat' (exact Ext.all _)); done)); exact rfl; exact iV_len; exact rfl; (intro w1 hw1; exact hrd.chg hw1.chg (Off.nil _)); (focus (rw [fl_i]; exact iis_one x.xs)); omega; intro ov1 hov1 hsome)) | (apply R.pure; exact rfl; first | (apply Ok1.indexAddrP; (iterate 4 exact rfl); exact hpe; exact rfl; omega; omega) | (apply Ok1.load; exact rfl; apply Ld.row0 H; exact rfl; exact List.not_mem_nil; (iterate 3 exact rfl)) | (apply Ok1.move; exact rfl) | (apply Ok1.assign; exact rfl))) | apply R.nil | (apply T.is; first | apply T.seq | apply T.region | apply T.block | apply T.skip | (apply T.cond_t; exact rfl)))
          rw [fl_i, ← iis_app, ← hs, ← hl] at hov1
          rw [fl_i, ← iis_app, ← hs, ← hl]
          repeat' (fail)
          exact ⟨(i + 1, ov1), ⟨by simp only; omega, hov1⟩, by simp only; omega, ⟨rfl, rfl, rfl, rfl, trivial⟩, by (focus ((repeat' (first | exact Ext.here _ _ | apply Keep.last)); done))⟩
        · have him : i = ps.length := by omega
          subst him
          rw [List.take_length] at hov ⊢
          repeat' (first | (apply R.is1; first | (apply R.isBin; (apply R.pure; exact rfl; (apply Ok1.lss_f; exact rfl; exact rfl; omega))) | (apply R.pure; exact rfl; first | (apply Ok1.move; exact rfl) | (apply Ok1.assign; exact rfl))) | apply R.nil | (apply T.is; first | apply T.seq | apply T.region | apply T.exit | apply T.ret | (apply T.cond_f; exact rfl)))
          (apply RetOk.t; exact rfl)
          exact ⟨_, by (focus ((repeat' (first | exact Ext.all _ | apply Keep.last)); done)), ov, hov, rfl, rfl⟩
end Go.Proofs.YtligpachgcmkcaaGreat
set_option linter.unusedSimpArgs false
set_option linter.unusedVariables false
namespace Go.Proofs.YtligpachgcmkcaaGreat
open Go.RowKit Go.Shelf
set_option maxRecDepth 100000
theorem idxF_ok (p : Option Addr) (n cap : Nat) (xs : List Int) (hn : n = xs.length) (hbig : n ≤ 1000000000) (g : Nat) (hgc : tb.fns.contains g = true) (bad : Int → Bool) (hg : ∀ x, CallP Tryz.prog g [.int .i64 x] (.bool (bad x))) (w : World) (hp : RdSl w p iV xs) :
    CallW Tryz.prog 64 [.slice p n cap, .func (.func g) #[] #[]] w fun v _ => ∃ r, v = .int .i64 r ∧ (0 ≤ r ↔ ∃ x ∈ xs, bad x = true) := by
  subst hn
  refine enterW (tb := tb) Tryz.func64 rfl Tryz.ntmps64 rfl ?_
  repeat' (first | (apply R.is1; first | (apply R.isCall; (apply R.pure; exact rfl; (apply Ok1.lenS; (iterate 3 exact rfl)))) | (apply R.pure; exact rfl; first | (apply Ok1.move; exact rfl) | (apply Ok1.assign; exact rfl))) | apply R.nil | (apply T.is; first | apply T.seq | apply T.region | apply T.block))
  apply T.loopK (α := Nat) (I := fun i => i ≤ xs.length ∧ ∀ x ∈ xs.take i, bad x = false) (σi := fun i => [(0, .slice p xs.length cap), (1, .func (.func g) #[] #[]), (7, .int .i64 xs.length), (8, .int .i64 i)]) (Li := fun _ => []) (μ := fun i => xs.length - i) (i0 := 0)
  · exact ⟨Nat.zero_le _, by simp⟩
  · exact ⟨rfl, rfl, rfl, rfl, trivial⟩
  · (focus ((repeat' (exact Keep.nil _)); done))
  · intro i ⟨hi, hall⟩
    rcases Nat.lt_or_ge i xs.length with hlt | hge
    · obtain ⟨x, hx⟩ : ∃ x, xs[i]? = some x := ⟨_, List.getElem?_eq_getElem (by omega)⟩
      obtain ⟨b, o, hpe, H⟩ := hp.at hx
      replace H := H 1 iV_len
      have hgx := hg x
      cases hb : bad x with
      | true =>
        rw [hb] at hgx
        repeat' (first | (apply R.is1; first | (apply R.isBin; (apply R.pure; exact rfl; (apply Ok1.lss_t; exact rfl; exact rfl; omega))) | (apply R.isCall; (apply R.callFP (fa := []) (cb := []); exact rfl; exact hgc; exact rfl; exact rfl; exact hgx)) | (apply R.pure; exact rfl; first | (apply Ok1.indexAddrP; (iterate 4 exact rfl); exact hpe; exact rfl; omega; omega) | (apply Ok1.load; exact rfl; apply Ld.row0 H; exact rfl; exact List.not_mem_nil; (iterate 3 exact rfl)) | (apply Ok1.move; exact rfl) | (apply Ok1.assign; exact rfl))) | apply R.nil | (apply T.is; first | apply T.seq | apply T.region | apply T.block | apply T.skip | apply T.ret | (apply T.cond_t; exact rfl)))
        (apply RetOk.t; exact rfl)
        exact ⟨_, rfl, ⟨fun _ => ⟨x, List.mem_of_getElem? hx, hb⟩, fun _ => by omega⟩⟩
      | false =>
        rw [hb] at hgx
        repeat' (first | (apply R.is1; first | (apply R.isBin; (apply R.pure; exact rfl; first | (apply Ok1.add64; exact rfl; exact rfl; omega; omega) | (apply Ok1.lss_t; exact rfl; exact rfl; omega))) | (apply R.isCall; (apply R.callFP (fa := []) (cb := []); exact rfl; exact hgc; exact rfl; exact rfl; exact hgx)) | (apply R.pure; exact rfl; first | (apply Ok1.indexAddrP; (iterate 4 exact rfl); exact hpe; exact rfl; omega; omega) | (apply Ok1.load; exact rfl; apply Ld.row0 H; exact rfl; exact List.not_mem_nil; (iterate 3 exact rfl)) | (apply Ok1.move; exact rfl) | (apply Ok1.assign; exact rfl))) | apply R.nil | (apply T.is; first | apply T.seq | apply T.region | apply T.block | apply T.skip | (apply T.cond_t; exact rfl) | (apply T.cond_f; exact rfl)))
        refine ⟨i + 1, ⟨by omega, ?_⟩, by omega, ⟨rfl, rfl, rfl, rfl, trivial⟩, by (focus ((repeat' (exact Keep.nil _)); done))⟩
        intro y hy
        rw [List.take_add_one, hx, List.mem_append] at hy
        rcases hy with hy | hy
        · exact hall y hy
        · simp only [Option.toList_some, List.mem_singleton] at hy
          rw [hy]; exact hb
    · have him : i = xs.length := by omega
      subst him
      rw [List.take_length] at hall
      repeat' (first | (apply R.is1; first | (apply R.isBin; (apply R.pure; exact rfl; (apply Ok1.lss_f; exact rfl; exact rfl; omega))) | (apply R.pure; exact rfl; (apply Ok1.assign; exact rfl))) | apply R.nil | (apply T.is; first | apply T.seq | apply T.region | apply T.exit | apply T.ret | (apply T.cond_f; exact rfl)))
      (apply RetOk.t; exact rfl)
      refine ⟨_, rfl, ⟨fun h => absurd h (by decide), ?_⟩⟩
      rintro ⟨x, hx, hb⟩
      rw [hall x hx] at hb
      cases hb
theorem conF_ok (p : Option Addr) (n cap : Nat) (xs : List Int) (hn : n = xs.length) (hbig : n ≤ 1000000000) (g : Nat) (hgc : tb.fns.contains g = true) (bad : Int → Bool) (hg : ∀ x, CallP Tryz.prog g [.int .i64 x] (.bool (bad x))) (w : World) (hp : RdSl w p iV xs) :
    CallW Tryz.prog 44 [.slice p n cap, .func (.func g) #[] #[]] w fun v _ => v = .bool (xs.any bad) := by
  have h := fun w1 (hc : Chg [] w w1) => idxF_ok p n cap xs hn hbig g hgc bad hg w1 (hp.chg' hc (fun _ => Off.nil _))
  refine enterW (tb := tb) Tryz.func44 rfl Tryz.ntmps44 rfl ?_
  repeat' (first | (apply R.is1; first | (apply R.isBin; (apply R.geq rfl rfl rfl <;> intro)) | (apply R.isCall; (apply R.callW (vs := [.slice p n cap, .func (.func g) #[] #[]]); (iterate 3 exact rfl); intro w1 hw1; exact h w1 hw1.chg; rintro v ⟨r, rfl, hr⟩)) | (apply R.pure; exact rfl; first | (apply Ok1.move; exact rfl) | (apply Ok1.assign; exact rfl))) | apply R.nil | (apply T.is; first | apply T.seq | apply T.region | apply T.ret))
  all_goals have hq : 0 ≤ r ↔ xs.any bad = true := hr.trans List.any_eq_true.symm
  all_goals (apply RetOk.t; exact rfl)
  all_goals cases hqq : xs.any bad with
    | true => first | rfl | (have := hq.2 hqq; omega)
    | false => first | rfl | (have h5 := hq.1 ‹0 ≤ r›; rw [hqq] at h5; cases h5)
/-- Serials are as they must be. -/
def SR (xs : List Int) : Prop := ∀ x ∈ xs, 1 ≤ x ∧ x ≤ 65535
instance (xs : List Int) : Decidable (SR xs) := by unfold SR; infer_instance
theorem serials1_ok (x : Int) : CallP Tryz.prog 49 [.int .i64 x] (.bool (decide (x < 1 ∨ 65535 < x))) := by
  refine enterP (tb := tb) Tryz.func49 rfl Tryz.ntmps49 rfl fun w => ?_
  by_cases h1 : x < 1
  · repeat' (first | (apply R.is1; first | (apply R.isBin; (apply R.pure; exact rfl; (apply Ok1.lss_t; exact rfl; exact rfl; omega))) | (apply R.pure; exact rfl; first | (apply Ok1.move; exact rfl) | (apply Ok1.assign; exact rfl) | (apply Ok1.pick_t; exact rfl; exact rfl))) | (apply R.isG; (apply R.guard_not; (iterate 3 exact rfl))) | apply R.nil | (apply T.is; first | apply T.seq | apply T.region | apply T.ret))
    (apply RetOk.t; exact rfl)
    rw [decide_eq_true (.inl h1)]
  · by_cases h2 : 65535 < x
    · repeat' (first | (apply R.is1; first | (apply R.isBin; (apply R.pure; exact rfl; first | (apply Ok1.lss_f; exact rfl; exact rfl; omega) | (apply Ok1.gtr_t; exact rfl; exact rfl; omega))) | (apply R.pure; exact rfl; first | (apply Ok1.move; exact rfl) | (apply Ok1.assign; exact rfl) | (apply Ok1.pick_f; exact rfl; exact rfl))) | (apply R.isG; (apply R.guard_run; exact rfl; exact rfl)) | apply R.nil | (apply T.is; first | apply T.seq | apply T.region | apply T.ret))
      (apply RetOk.t; exact rfl)
      rw [decide_eq_true (.inr h2)]
    · repeat' (first | (apply R.is1; first | (apply R.isBin; (apply R.pure; exact rfl; first | (apply Ok1.lss_f; exact rfl; exact rfl; omega) | (apply Ok1.gtr_f; exact rfl; exact rfl; omega))) | (apply R.pure; exact rfl; first | (apply Ok1.move; exact rfl) | (apply Ok1.assign; exact rfl) | (apply Ok1.pick_f; exact rfl; exact rfl))) | (apply R.isG; (apply R.guard_run; exact rfl; exact rfl)) | apply R.nil | (apply T.is; first | apply T.seq | apply T.region | apply T.ret))
      (apply RetOk.t; exact rfl)
      rw [decide_eq_false (by omega)]
theorem serials_ok (p : Option Addr) (n cap : Nat) (xs : List Int) (hn : n = xs.length) (hbig : n ≤ 1000000000) (w : World) (hp : RdSl w p iV xs) :
    CallW Tryz.prog 36 [.slice p n cap] w fun v _ => v = .bool (decide (SR xs)) := by
  have h := fun w1 (hc : Chg [] w w1) => conF_ok p n cap xs hn hbig 49 rfl _ serials1_ok w1 (hp.chg' hc (fun _ => Off.nil _))
  have he : (xs.any fun x => decide (x < 1 ∨ 65535 < x)) = !decide (SR xs) := by
    by_cases hs : SR xs
    · rw [decide_eq_true hs]
      cases h4 : xs.any fun x => decide (x < 1 ∨ 65535 < x) with
      | false => rfl
      | true =>
        obtain ⟨x, hx, hb⟩ := List.any_eq_true.1 h4
        have := hs x hx
        have := of_decide_eq_true hb
        omega
    · rw [decide_eq_false hs]
      cases h4 : xs.any fun x => decide (x < 1 ∨ 65535 < x) with
      | true => rfl
      | false =>
        refine absurd (fun x hx => ?_) hs
        have := List.any_eq_false.1 h4 x hx
        simp only [decide_eq_true_eq] at this
        omega
  rw [he] at h
  generalize decide (SR xs) = q at *
  refine enterW (tb := tb) Tryz.func36 rfl Tryz.ntmps36 rfl ?_
  cases q
  · repeat' (first | (apply R.is1; first | (apply R.isCall; (apply R.callV (vs := [.slice p n cap, .func (.func 49) #[] #[]]); (iterate 3 exact rfl); intro w1 hw1; exact h w1 hw1.chg)) | (apply R.pure; exact rfl; first | (apply Ok1.move; exact rfl) | (apply Ok1.assign; exact rfl) | (apply Ok1.not_t; exact rfl))) | apply R.nil | (apply T.is; first | apply T.seq | apply T.region | apply T.ret))
    (apply RetOk.t; exact rfl)
    rfl
  · repeat' (first | (apply R.is1; first | (apply R.isCall; (apply R.callV (vs := [.slice p n cap, .func (.func 49) #[] #[]]); (iterate 3 exact rfl); intro w1 hw1; exact h w1 hw1.chg)) | (apply R.pure; exact rfl; first | (apply Ok1.move; exact rfl) | (apply Ok1.assign; exact rfl) | (apply Ok1.not_f; exact rfl))) | apply R.nil | (apply T.is; first | apply T.seq | apply T.region | apply T.ret))
    (apply RetOk.t; exact rfl)
    rfl
end Go.Proofs.YtligpachgcmkcaaGreat
set_option linter.unusedSimpArgs false
set_option linter.unusedVariables false
namespace Go.Proofs.YtligpachgcmkcaaGreat
open Go.RowKit Go.Shelf
set_option maxRecDepth 100000
end Go.Proofs.YtligpachgcmkcaaGreat
set_option linter.unusedSimpArgs false
set_option linter.unusedVariables false
namespace Go.Proofs.YtligpachgcmkcaaGreat
open Go.RowKit Go.Shelf
set_option maxRecDepth 100000
def numsI (s : Nat) (xs : List Int) : List Int := xs.flatMap (numI s)
theorem nums_take {s : Nat} {xs : List Int} {i : Nat} {x : Int} (h : xs[i]? = some x) : numsI s (xs.take (i + 1)) = numsI s (xs.take i) ++ numI s x := by
  unfold numsI
  rw [List.take_add_one, h, List.flatMap_append]
  simp
theorem nums_le (s : Nat) (xs : List Int) : (numsI s xs).length ≤ 4 * xs.length := by
  induction xs with
  | nil => exact Nat.le_refl _
  | cons x l ih =>
    have := (num_len s x).2
    simp only [numsI, List.flatMap_cons, List.length_append, List.length_cons] at *
    omega
theorem numbers_ok (bw : Nat) (ov : Ov) (bs : List Int) (hov : OvOk 1 ov bs.length (u8s bs)) (s : Nat) (p : Option Addr) (n cap : Nat) (xs : List Int) (hn : n = xs.length) (hf : ∀ x ∈ xs, Fits s x) (hbig : bs.length + 4 * xs.length ≤ 1000) (w : World) (hp : RdSl w p iV xs) (hoff : xs ≠ [] → Off p (blks (WL bw ov bs))) :
    CallM Tryz.prog 27 [.pointer (some ⟨bw, 0, none⟩), .int .i64 s, .slice p n cap] (WL bw ov bs) w (WRes bw (bs ++ numsI s xs)) := by
  subst hn
  refine enterK (tb := tb) Tryz.func27 rfl Tryz.ntmps27 rfl ?_
  repeat' (first | (apply R.is1; first | (apply R.isCall; (apply R.pure; exact rfl; (apply Ok1.lenS; (iterate 3 exact rfl)))) | (apply R.pure; exact rfl; first | (apply Ok1.move; exact rfl) | (apply Ok1.assign; exact rfl))) | apply R.nil | (apply T.is; first | apply T.seq | apply T.region | apply T.block))
  apply T.loopK (α := Nat × Ov) (I := fun y => y.1 ≤ xs.length ∧ OvOk 1 y.2 (bs ++ numsI s (xs.take y.1)).length (u8s (bs ++ numsI s (xs.take y.1)))) (σi := fun y => [(0, .pointer (some ⟨bw, 0, none⟩)), (1, .int .i64 s), (9, .slice p xs.length cap), (10, .int .i64 xs.length), (11, .int .i64 y.1)]) (Li := fun y => WL bw y.2 (bs ++ numsI s (xs.take y.1))) (μ := fun y => xs.length - y.1) (i0 := (0, ov))
  · refine ⟨Nat.zero_le _, ?_⟩
    simpa [numsI] using hov
  · exact ⟨rfl, rfl, rfl, rfl, rfl, trivial⟩
  · simp only [List.take_zero, numsI, List.flatMap_nil, List.append_nil]
    (focus ((repeat' (first | exact Ext.one _ _ | exact Ext.all _ | apply Keep.cons | apply Keep.last)); done))
  · rintro ⟨i, ov1⟩ ⟨hi, hov1⟩
    simp only at hi hov1 ⊢
    rcases Nat.lt_or_ge i xs.length with hlt | hge
    · obtain ⟨x, hx⟩ : ∃ x, xs[i]? = some x := ⟨_, List.getElem?_eq_getElem (by omega)⟩
      obtain ⟨b, o, hpe, H⟩ := hp.at hx
      replace H := H 1 iV_len
      have hxf := hf x (List.mem_of_getElem? hx)
      have htk : (xs.take i).length = i := by rw [List.length_take]; omega
      have hnl := nums_le s (xs.take i)
      have hput := fun bf fz e w1 => put_ok bw ov1 (bs ++ numsI s (xs.take i)) hov1 s x hxf (by rw [List.length_append]; omega) bf fz e w1
      have hoff1 := hoff (by rintro rfl; cases hx)
      unfold WRes at hput
      rw [List.append_assoc, ← nums_take hx] at hput
      repeat' (first | (apply R.is1; first | (apply R.isBin; (apply R.pure; exact rfl; first | (apply Ok1.add64; exact rfl; exact rfl; omega; omega) | (apply Ok1.lss_t; exact rfl; exact rfl; omega))) | (apply R.isCall; (apply R.callE (Li := WL bw ov1 (bs ++ numsI s (xs.take i))); (iterate 3 exact rfl); (focus ((repeat' (first | exact Ext.all _ | apply Ext.cons)); done)); intro w1 hw1; exact hput _ _ _ w1 (hw1.get _ _ (At.mem (by exact At.head))) (RdSl.off hw1 (by (focus ((repeat' (first | exact Ext.all _ | apply Ext.cons)); done))) (At.mem (by exact At.head))); rintro v Lo ⟨ov2, rfl, hov2, rfl⟩)) | (apply R.pure; exact rfl; first | (apply Ok1.indexAddrP; (iterate 4 exact rfl); exact hpe; exact rfl; omega; omega) | (apply Ok1.load; exact rfl; apply Ld.row1 (f := 0) H; exact rfl; exact hoff1 _ hpe; (iterate 3 exact rfl)) | (apply Ok1.move; exact rfl) | (apply Ok1.assign; exact rfl) | (apply Ok1.build; (iterate 5 exact rfl))) | (apply R.buildSlice; (iterate 12 exact rfl); intro)) | apply R.nil | (apply T.is; first | apply T.seq | apply T.region | apply T.block | apply T.skip | (apply T.cond_t; exact rfl)))
      exact ⟨(i + 1, ov2), ⟨by simp only; omega, hov2⟩, by simp only; omega, ⟨rfl, rfl, rfl, rfl, rfl, trivial⟩, by (focus ((repeat' (first | exact Ext.one _ _ | exact Ext.here _ _ | apply Keep.cons | apply Keep.last)); done))⟩
    · have him : i = xs.length := by omega
      subst him
      rw [List.take_length] at hov1 ⊢
      repeat' (first | (apply R.is1; first | (apply R.isBin; (apply R.pure; exact rfl; (apply Ok1.lss_f; exact rfl; exact rfl; omega))) | (apply R.pure; exact rfl; first | (apply Ok1.move; exact rfl) | (apply Ok1.assign; exact rfl))) | apply R.nil | (apply T.is; first | apply T.seq | apply T.region | apply T.exit | apply T.ret | (apply T.cond_f; exact rfl)))
      (apply RetOk.t; exact rfl)
      exact ⟨_, by (focus ((repeat' (first | exact Ext.one _ _ | exact Ext.all _ | apply Keep.cons | apply Keep.last)); done)), ov1, rfl, hov1, rfl⟩
end Go.Proofs.YtligpachgcmkcaaGreat
set_option linter.unusedSimpArgs false
set_option linter.unusedVariables false
namespace Go.Proofs.YtligpachgcmkcaaGreat
open Go.RowKit Go.Shelf
set_option maxRecDepth 100000
theorem dwidth_ok (s : Nat) (k : Int) (hs : s = 0 ∨ s = 1 ∨ s = 2 ∨ s = 3) (hk : (pw s : Int) = k) : CallP Tryz.prog 48 [.int .i64 s] (.int .i64 k) := by
  subst hk
  rcases hs with rfl | rfl | rfl | rfl
  all_goals
    refine enterP (tb := tb) Tryz.func48 rfl Tryz.ntmps48 rfl fun w => ?_
    repeat' (first | (apply R.is1; (apply R.pure; exact rfl; first | (apply Ok1.move; exact rfl) | (apply Ok1.assign; exact rfl) | (apply Ok1.index1; (iterate 6 exact rfl); omega; omega; exact rfl) | (apply Ok1.buildA; (iterate 6 exact rfl)))) | apply R.nil | (apply T.is; first | apply T.seq | apply T.region | apply T.ret))
    (apply RetOk.t; exact rfl)
    rfl
theorem dout_ok (s : Nat) (n : Int) (h : Fits s n) (w : World) : CallM Tryz.prog 33 [.agg ⟨fldV s n⟩] [] w fun v L => ∃ ov, OvOk 1 ov (numI s n).length (u8s (numI s n)) ∧ v = slV ov (numI s n).length ∧ L = blkL 5 ov (u8s (numI s n)) := by
  have hn : n ≤ 4294967295 := by unfold Fits at h; omega
  have h0 := h.1
  have hs : s = 0 ∨ s = 1 ∨ s = 2 := by unfold Fits at h; omega
  unfold fldV
  rcases hs with rfl | rfl | rfl
  · refine enterK (tb := tb) Tryz.func33 rfl Tryz.ntmps33 rfl ?_
    repeat' (first | (apply R.is1; first | (apply R.isBin; (apply R.pure; exact rfl; first | (apply Ok1.add64; exact rfl; exact rfl; omega; omega) | (apply Ok1.lss_t; exact rfl; exact rfl; omega) | (apply Ok1.lss_f; exact rfl; exact rfl; omega) | (apply Ok1.eql_f; exact rfl; exact rfl; omega) | (apply Ok1.quo64; exact rfl; exact rfl; omega; omega; omega) | (apply Ok1.remN; exact rfl; exact rfl; omega; omega))) | (apply R.isCall; first | apply R.callP rfl rfl rfl (dwidth_ok 0 1 (by decide) rfl) | (apply R.appendSl (ov := some (_, 0, [])) (n := 1) (old := [_]) (ov2 := none) (m := 0) (news := []) (e3 := 5); (iterate 12 exact rfl); exact ⟨rfl, rfl⟩; exact ⟨rfl, rfl⟩; exact Ext.one _ _; exact (by simp [blkL]); exact rfl; omega; intro ov1 hov1)) | (apply R.pure; exact rfl; first | (apply Ok1.move; exact rfl) | (apply Ok1.fieldAddr; (iterate 5 exact rfl)) | (apply Ok1.load; exact rfl; (apply Ld.own1; exact rfl; exact rfl; (focus ((repeat' (first | exact At.head | apply At.right)); done)); exact rfl)) | (apply Ok1.assign; exact rfl) | (apply Ok1.convU8; (iterate 5 exact rfl); omega; omega)) | (apply R.box; (iterate 3 exact rfl); intro) | (apply R.buildSlice; (iterate 12 exact rfl); intro)) | apply R.nil | (apply T.is; first | apply T.rounds 2 | apply T.seq | apply T.region | apply T.block | apply T.skip | apply T.exit | apply T.ret | (apply T.cond_t; exact rfl) | (apply T.cond_f; exact rfl)))
    (apply RetOk.t; exact rfl)
    exact ⟨_, by (focus ((repeat' (first | exact Ext.here _ _ | apply Keep.last)); done)), ov1, hov1, rfl, rfl⟩
  · refine enterK (tb := tb) Tryz.func33 rfl Tryz.ntmps33 rfl ?_
    repeat' (first | (apply R.is1; first | (apply R.isBin; (apply R.pure; exact rfl; first | (apply Ok1.add64; exact rfl; exact rfl; omega; omega) | (apply Ok1.lss_t; exact rfl; exact rfl; omega) | (apply Ok1.lss_f; exact rfl; exact rfl; omega) | (apply Ok1.eql_f; exact rfl; exact rfl; omega) | (apply Ok1.quo64; exact rfl; exact rfl; omega; omega; omega) | (apply Ok1.remN; exact rfl; exact rfl; omega; omega))) | (apply R.isCall; first | apply R.callP rfl rfl rfl (dwidth_ok 1 2 (by decide) rfl) | (apply R.appendSl (ov := some (_, 0, [])) (n := 1) (old := [_]) (ov2 := none) (m := 0) (news := []) (e3 := 5); (iterate 12 exact rfl); exact ⟨rfl, rfl⟩; exact ⟨rfl, rfl⟩; exact Ext.one _ _; exact (by simp [blkL]); exact rfl; omega; intro ov1 hov1) | (apply R.appendSl (ov := some (_, 0, [])) (n := 1) (old := [_]); (iterate 12 exact rfl); exact ⟨rfl, rfl⟩; assumption; exact Ext.one _ _; exact Ext.mem (by (focus ((repeat' (first | exact Ext.here _ _ | apply Ext.cons)); done))); exact rfl; omega; intro ov1 hov1)) | (apply R.pure; exact rfl; first | (apply Ok1.move; exact rfl) | (apply Ok1.fieldAddr; (iterate 5 exact rfl)) | (apply Ok1.load; exact rfl; (apply Ld.own1; exact rfl; exact rfl; (focus ((repeat' (first | exact At.head | apply At.right)); done)); exact rfl)) | (apply Ok1.assign; exact rfl) | (apply Ok1.convU8; (iterate 5 exact rfl); omega; omega)) | (apply R.box; (iterate 3 exact rfl); intro) | (apply R.buildSlice; (iterate 12 exact rfl); intro)) | apply R.nil | (apply T.is; first | apply T.rounds 3 | apply T.seq | apply T.region | apply T.block | apply T.skip | apply T.exit | apply T.ret | (apply T.cond_t; exact rfl) | (apply T.cond_f; exact rfl)))
    (apply RetOk.t; exact rfl)
    exact ⟨_, by (focus ((repeat' (first | exact Ext.here _ _ | apply Keep.last)); done)), ov1, hov1, rfl, rfl⟩
  · refine enterK (tb := tb) Tryz.func33 rfl Tryz.ntmps33 rfl ?_
    repeat' (first | (apply R.is1; first | (apply R.isBin; (apply R.pure; exact rfl; first | (apply Ok1.add64; exact rfl; exact rfl; omega; omega) | (apply Ok1.lss_t; exact rfl; exact rfl; omega) | (apply Ok1.lss_f; exact rfl; exact rfl; omega) | (apply Ok1.eql_f; exact rfl; exact rfl; omega) | (apply Ok1.quo64; exact rfl; exact rfl; omega; omega; omega) | (apply Ok1.remN; exact rfl; exact rfl; omega; omega))) | (apply R.isCall; first | apply R.callP rfl rfl rfl (dwidth_ok 2 4 (by decide) rfl) | (apply R.appendSl (ov := some (_, 0, [])) (n := 1) (old := [_]) (ov2 := none) (m := 0) (news := []) (e3 := 5); (iterate 12 exact rfl); exact ⟨rfl, rfl⟩; exact ⟨rfl, rfl⟩; exact Ext.one _ _; exact (by simp [blkL]); exact rfl; omega; intro ov1 hov1) | (apply R.appendSl (ov := some (_, 0, [])) (n := 1) (old := [_]); (iterate 12 exact rfl); exact ⟨rfl, rfl⟩; assumption; exact Ext.one _ _; exact Ext.mem (by (focus ((repeat' (first | exact Ext.here _ _ | apply Ext.cons)); done))); exact rfl; omega; intro ov1 hov1)) | (apply R.pure; exact rfl; first | (apply Ok1.move; exact rfl) | (apply Ok1.fieldAddr; (iterate 5 exact rfl)) | (apply Ok1.load; exact rfl; (apply Ld.own1; exact rfl; exact rfl; (focus ((repeat' (first | exact At.head | apply At.right)); done)); exact rfl)) | (apply Ok1.assign; exact rfl) | (apply Ok1.convU8; (iterate 5 exact rfl); omega; omega)) | (apply R.box; (iterate 3 exact rfl); intro) | (apply R.buildSlice; (iterate 12 exact rfl); intro)) | apply R.nil | (apply T.is; first | apply T.rounds 5 | apply T.seq | apply T.region | apply T.block | apply T.skip | apply T.exit | apply T.ret | (apply T.cond_t; exact rfl) | (apply T.cond_f; exact rfl)))
    have e : u8s (numI 2 n) = [.int .u8 (n / 256 / 256 / 256 % 256), .int .u8 (n / 256 / 256 % 256), .int .u8 (n / 256 % 256), .int .u8 (n % 256)] := by
      simp only [u8s, numI, len4, List.map_cons, List.map_nil, List.cons.injEq, Value.int.injEq, true_and, and_true]
      omega
    rw [e]
    (apply RetOk.t; exact rfl)
    exact ⟨_, by (focus ((repeat' (first | exact Ext.here _ _ | apply Keep.last)); done)), ov1, hov1, rfl, rfl⟩
end Go.Proofs.YtligpachgcmkcaaGreat
set_option linter.unusedSimpArgs false
set_option linter.unusedVariables false
namespace Go.Proofs.YtligpachgcmkcaaGreat
open Go.Lib
def srt (l : List Int) : List Int := l.mergeSort fun x y => decide (x ≤ y)
theorem srt_perm (l : List Int) : (srt l).Perm l := List.mergeSort_perm _ _
theorem srt_asc (l : List Int) : (srt l).Pairwise (· ≤ ·) := by
  have := List.pairwise_mergeSort (le := fun x y : Int => decide (x ≤ y)) (fun a b c h1 h2 => by simp only [decide_eq_true_eq] at *; omega) (fun a b => by simp only [Bool.or_eq_true, decide_eq_true_eq]; omega) l
  exact this.imp fun h => of_decide_eq_true h
theorem compactUpTo_congr {d d' : Array Int} {m : Nat} (h : ∀ j, j < m → d[j]! = d'[j]!) : compactUpTo d m = compactUpTo d' m := by
  induction m with
  | zero => rfl
  | succ m ih =>
    rw [compactUpTo_succ, compactUpTo_succ, ih fun j hj => h j (by omega), h m (by omega)]
    congr 1
    have hk : keeps d m = keeps d' m := by
      unfold keeps
      rcases Nat.eq_zero_or_pos m with h0 | h0
      · simp [h0]
      · rw [h m (by omega), h (m - 1) (by omega)]
    rw [hk]
theorem compact_nil : compact ([] : List Int) = [] := rfl
theorem compact_snoc (zs : List Int) (x : Int) : compact (zs ++ [x]) = compact zs ++ (if zs.getLast? = some x then [] else [x]) := by
  unfold compact
  rw [List.length_append, List.length_singleton, compactUpTo_succ]
  have h1 : compactUpTo (zs ++ [x]).toArray zs.length = compactUpTo zs.toArray zs.length := compactUpTo_congr fun j hj => by
    rw [getElem!_pos _ j (by simp; omega), getElem!_pos _ j (by simp; omega)]
    simp [List.getElem_append_left, hj]
  rw [h1]
  congr 1
  have h2 : (zs ++ [x]).toArray[zs.length]! = x := by rw [getElem!_pos _ _ (by simp)]; simp
  rw [h2]
  unfold keeps
  rcases Nat.eq_zero_or_pos zs.length with h0 | h0
  · have : zs = [] := List.eq_nil_of_length_eq_zero h0
    subst this
    simp
  · rw [h2]
    have h3 : (zs ++ [x]).toArray[zs.length - 1]! = zs.getLast (by intro e; rw [e] at h0; simp at h0) := by
      rw [getElem!_pos _ _ (by simp; omega)]
      simp only [List.getElem_toArray]
      rw [List.getElem_append_left (by omega), List.getLast_eq_getElem]
    rw [h3, List.getLast?_eq_some_getLast (by intro e; rw [e] at h0; simp at h0)]
    have h4 : ¬ zs.length = 0 := by omega
    simp only [h4, false_or, ne_eq, decide_not, Bool.not_eq_true', decide_eq_false_iff_not, Option.some.injEq]
    by_cases he : x = zs.getLast (by intro e; rw [e] at h0; simp at h0)
    · simp [← he]
    · have he2 : ¬ zs.getLast (by intro e; rw [e] at h0; simp at h0) = x := fun h => he h.symm
      simp [he, he2]
theorem compact_facts (n : Nat) : ∀ zs : List Int, zs.length = n → zs.Pairwise (· ≤ ·) → (∀ y, y ∈ compact zs ↔ y ∈ zs) ∧ (compact zs).Pairwise (· < ·) ∧ ((compact zs).length = zs.length ↔ zs.Nodup) := by
  induction n with
  | zero =>
    intro zs h _
    have : zs = [] := List.eq_nil_of_length_eq_zero h
    subst this
    rw [compact_nil]
    simp
  | succ n ih =>
    intro zs h hs
    have hne : zs ≠ [] := by intro e; rw [e] at h; simp at h
    obtain ⟨ws, x, rfl⟩ : ∃ ws x, zs = ws ++ [x] := ⟨_, _, (List.dropLast_concat_getLast hne).symm⟩
    have hl : ws.length = n := by simpa using h
    rw [List.pairwise_append] at hs
    obtain ⟨hs1, _, hs3⟩ := hs
    have hle : ∀ a ∈ ws, a ≤ x := fun a ha => hs3 a ha x (List.mem_singleton.2 rfl)
    obtain ⟨h1, h2, h3⟩ := ih ws hl hs1
    have hcl := compact_length_le ws
    rw [compact_snoc]
    by_cases hx : ws.getLast? = some x
    · have hmem : x ∈ ws := List.mem_of_getLast? hx
      rw [if_pos hx, List.append_nil]
      refine ⟨fun y => ?_, h2, ?_⟩
      · rw [h1, List.mem_append, List.mem_singleton]
        constructor
        · exact .inl
        · rintro (h | rfl)
          · exact h
          · exact hmem
      · rw [List.length_append, List.length_singleton]
        constructor
        · intro h; omega
        · intro h
          exact absurd rfl ((List.nodup_append.1 h).2.2 x hmem x (List.mem_singleton.2 rfl))
    · have hlt : ∀ a ∈ ws, a < x := by
        intro a ha
        have h5 := hle a ha
        have hwne : ws ≠ [] := List.ne_nil_of_mem ha
        have h6 : a ≤ ws.getLast hwne := by
          have h8 := List.dropLast_concat_getLast hwne
          rw [← h8] at ha hs1
          rcases List.mem_append.1 ha with h | h
          · exact (List.pairwise_append.1 hs1).2.2 a h _ (List.mem_singleton.2 rfl)
          · rw [List.mem_singleton.1 h]; exact Int.le_refl _
        have h7 : ws.getLast hwne ≠ x := by
          intro e
          rw [List.getLast?_eq_some_getLast hwne, e] at hx
          exact hx rfl
        have h9 := hle _ (List.getLast_mem hwne)
        omega
      rw [if_neg hx]
      refine ⟨fun y => ?_, ?_, ?_⟩
      · rw [List.mem_append, List.mem_append, h1]
      · rw [List.pairwise_append]
        refine ⟨h2, by simp, fun a ha b hb => ?_⟩
        rw [List.mem_singleton.1 hb]
        exact hlt a ((h1 a).1 ha)
      · rw [List.length_append, List.length_append, List.length_singleton]
        rw [List.nodup_append]
        constructor
        · intro h
          refine ⟨h3.1 (by omega), by simp, fun a ha b hb => ?_⟩
          rw [List.mem_singleton.1 hb]
          have := hlt a ha
          omega
        · rintro ⟨h, _⟩
          have := h3.2 h
          omega
/-- The sorted list of those that are in it. -/
def uniq (l : List Int) : List Int := compact (srt l)
theorem uniq_len (l : List Int) : (uniq l).length = l.length ↔ l.Nodup := by
  have h := (compact_facts _ _ rfl (srt_asc l)).2.2
  rw [(srt_perm l).length_eq, (srt_perm l).nodup_iff] at h
  exact h
theorem uniq_le (l : List Int) : (uniq l).length ≤ l.length := by
  have := compact_length_le (srt l)
  rw [(srt_perm l).length_eq] at this
  exact this
end Go.Proofs.YtligpachgcmkcaaGreat
set_option linter.unusedSimpArgs false
set_option linter.unusedVariables false
namespace Go.Proofs.YtligpachgcmkcaaGreat
open Go.RowKit Go.Shelf
set_option maxRecDepth 100000
theorem putRow_own {w : World} {b m : Nat} {d : List Int} {os : Array Obj} {old junk : List Value} {e : TypeId} {fz : Nat × Nat} (hb : w.heap[b]? = some (.cells ⟨old ++ junk⟩ e fz)) (ho : old.length = d.length) :
    Chg [b] w (Go.Sort.grow (Go.Sort.putRow (Value.int .i64) (Go.Sort.ahead w m) b 0 d.toArray) os) ∧ (Go.Sort.grow (Go.Sort.putRow (Value.int .i64) (Go.Sort.ahead w m) b 0 d.toArray) os).heap[b]? = some (.cells ⟨iis d ++ junk⟩ e fz) := by
  have hlt := (Array.getElem?_eq_some_iff.1 hb).1
  refine ⟨⟨rfl, rfl, rfl, ?_, ?_, ?_⟩, ?_⟩
  · simp [Go.Sort.grow, Go.Sort.putRow, Go.Sort.mapBlock, Go.Sort.ahead]
  · simp [Go.Sort.grow, Go.Sort.putRow, Go.Sort.mapBlock, Go.Sort.ahead]
  · intro i hi hs
    have hne : b ≠ i := fun h => hs (by simp [h])
    simp [Go.Sort.grow, Go.Sort.putRow, Go.Sort.mapBlock, Go.Sort.ahead, Array.getElem?_append, hi, Array.getElem_modify, hne]
  · simp only [Go.Sort.grow, Go.Sort.putRow, Go.Sort.mapBlock, Go.Sort.ahead]
    rw [Array.getElem?_append_left (by simpa using hlt), Array.getElem?_modify, if_pos rfl, hb]
    simp only [Option.map_some, Go.Sort.onCells]
    congr 2
    apply Array.ext_getElem?
    intro t
    simp only [Go.Sort.putCells, Array.getElem?_mapIdx, Nat.zero_le, true_and, Nat.zero_add, Nat.sub_zero, List.size_toArray, List.getElem?_toArray]
    by_cases ht : t < d.length
    · rw [List.getElem?_append_left (by omega), List.getElem?_append_left (by rw [iis_len]; omega), List.getElem?_eq_getElem (by omega)]
      simp [ht, iis]
    · rw [List.getElem?_append_right (by omega), List.getElem?_append_right (by rw [iis_len]; omega), ho, iis_len]
      cases junk[t - d.length]? with
      | none => rfl
      | some v => simp [ht]
theorem sortHolds {w : World} {b : Nat} {xs : List Int} {junk : List Value} {e : TypeId} (hb : w.heap[b]? = some (.cells ⟨iis xs ++ junk⟩ e (0, 0))) : Go.Sort.Holds (Value.int .i64) w b 0 xs.toArray := by
  intro j hj
  have hj' : j < xs.length := by simpa using hj
  refine ⟨?_, ?_⟩
  · simp only [World.cell?, hb, Nat.zero_add]
    rw [getElem!_pos _ j hj]
    simp [List.getElem?_append_left, iis_len, hj', iis]
  · simp [World.frozen?, hb]
theorem isort_ok (xs : List Int) (hbig : xs.length ≤ 1000000000) (ov : Ov) (hov : OvOk 1 ov xs.length (iis xs)) (w : World) :
    CallM Tryz.prog 70 [slV ov xs.length] (blkL 3 ov (iis xs)) w fun v L => v = .tuple #[] ∧ L = blkL 3 ov (iis (srt xs)) := by
  cases ov with
  | none =>
    have h0 : xs.length = 0 := hov.2
    have : xs = [] := List.eq_nil_of_length_eq_zero h0
    subst this
    exact ⟨fun hw => Calls.mono (AnyM.slices_Sort_int_none Tryz.sortI none 0 w) fun e w' ⟨h1, h2⟩ => ⟨_, _, h1, ⟨rfl, rfl⟩, by rw [h2]; exact hw⟩⟩
  | some q =>
    obtain ⟨b, j, junk⟩ := q
    refine ⟨fun hw => ?_⟩
    have hb := hw.get b _ List.mem_cons_self
    have hlt := (Array.getElem?_eq_some_iff.1 hb).1
    refine Calls.mono (AnyM.slices_Sort_int Tryz.sortI b 0 (xs.length + j) xs w (sortHolds hb) hlt (by omega)) ?_
    rintro e w' ⟨h1, n, os, rfl⟩
    obtain ⟨g1, g2⟩ := putRow_own (m := n) (d := srt xs) (os := os) hb (by rw [iis_len, (srt_perm xs).length_eq])
    exact ⟨_, _, h1, ⟨rfl, rfl⟩, hw.upd .head g1 g2⟩
theorem icompact_ok (xs : List Int) (hbig : xs.length ≤ 1000000000) (ov : Ov) (hov : OvOk 1 ov xs.length (iis xs)) (w : World) :
    CallM Tryz.prog 51 [slV ov xs.length] (blkL 3 ov (iis xs)) w fun v L => ∃ ov', OvOk 1 ov' (Go.Lib.compact xs).length (iis (Go.Lib.compact xs)) ∧ v = slV ov' (Go.Lib.compact xs).length ∧ L = blkL 3 ov' (iis (Go.Lib.compact xs)) := by
  cases ov with
  | none =>
    have h0 : xs.length = 0 := hov.2
    have : xs = [] := List.eq_nil_of_length_eq_zero h0
    subst this
    exact ⟨fun hw => Calls.mono (AnyG.slices_Compact_int_empty Tryz.cmpI none 0 w) fun e w' ⟨h1, h2⟩ => ⟨_, _, h1, ⟨none, hov, rfl, rfl⟩, by rw [h2]; exact hw⟩⟩
  | some q =>
    obtain ⟨b, j, junk⟩ := q
    refine ⟨fun hw => ?_⟩
    have hb := hw.get b _ List.mem_cons_self
    have hle := Go.Lib.compact_length_le xs
    refine Calls.mono (AnyG.slices_Compact_int Tryz.cmpI b 0 (xs.length + j) xs w (sortHolds hb) (by omega) (by omega)) ?_
    rintro e w' ⟨h1, n, rfl⟩
    obtain ⟨g1, g2⟩ := putRow_own (m := n) (d := Go.Lib.compact xs ++ List.replicate (xs.length - (Go.Lib.compact xs).length) 0) (os := #[]) hb (by rw [iis_len, List.length_append, List.length_replicate]; omega)
    simp only [Go.Sort.grow_empty] at g1 g2
    rw [iis_app, List.append_assoc] at g2
    have hj : junk.length = j := by have := hov.2; simpa using this
    refine ⟨_, _, h1, ⟨some (b, (xs.length - (Go.Lib.compact xs).length) + j, iis (List.replicate (xs.length - (Go.Lib.compact xs).length) 0) ++ junk), ⟨by rw [iis_len, Nat.mul_one], by simp only [List.length_append, iis_len, List.length_replicate, hj, Nat.mul_one]⟩, ?_, rfl⟩, hw.upd .head g1 g2⟩
    simp only [slV]
    congr 1
    omega
end Go.Proofs.YtligpachgcmkcaaGreat
set_option linter.unusedSimpArgs false
set_option linter.unusedVariables false
set_option linter.unusedSectionVars false
namespace Go.Proofs.YtligpachgcmkcaaGreat
open Go.RowKit Go.Shelf
/-- Where a walk goes: anywhere, or in a round of the loop l. -/
def fen : Option Nat → Fence
  | none => Fence.wide
  | some l => Fence.wide.inRound l
theorem fen_fn (ro : Option Nat) (f : Nat) : (fen ro).fn f := by cases ro <;> trivial
theorem fen_depth (ro : Option Nat) : (fen ro).depth = none := by cases ro <;> rfl
theorem fen_round (ro : Option Nat) : (fen ro).round = ro := by cases ro <;> rfl
theorem fen_calls {ro : Option Nat} {n : Nat} {P : Program} {f : FuncId} {args : Array Value} {w : World} {R : Ending → World → Prop} (h : Calls P f args w R) : CallsIn (fen ro) n P f args w R := by
  cases ro with
  | none => exact callsIn_wide.2 h
  | some l => exact ⟨trivial, ((callsIn_wide (n := n)).2 h).2⟩
theorem fen_rows {ro : Option Nat} {n : Nat} {P : Program} {row : String} {args : Array Value} {w : World} {R : Value → World → Prop} (h : Rows P row args w R) : RowsIn (fen ro) n P row args w R := by
  intro c cs _
  obtain ⟨v, w', r, s⟩ := h c cs
  refine ⟨v, w', r, ?_⟩
  cases ro with
  | none => exact stepsIn_wide.2 s
  | some l => rw [show Machine.fenced P (fen (some l)) = Machine.fenced P Fence.wide from rfl]; exact stepsIn_wide.2 s
def noDefer (o : Oper) : Bool := match o.op with | .defer _ => false | _ => true
theorem noDefer_spec {o : Oper} (h : noDefer o = true) : ∀ c, o.op ≠ .defer c := by
  intro c e; unfold noDefer at h; rw [e] at h; cases h
theorem Oper.up_fen {ro : Option Nat} {n : Nat} {P : Program} {o : Oper} {a : Act} {next : Act → World → Prop} {Q : Exit → Act → World → Prop} {r : Result Next} (h : o.upon P a next Q r) : o.uponIn (fen ro) n P a next Q r := by
  cases r with
  | ok m w' =>
    cases m with
    | enter f args => exact ⟨fun e => (by rw [fen_depth] at e; cases e), fen_calls h⟩
    | row f args => exact ⟨fun e => (by rw [fen_depth] at e; cases e), fen_rows h⟩
    | round => exact h.elim
    | value v => exact h
    | skip => exact h
    | defer d => exact h
    | _ => exact h.elim
  | halt x w' => cases x <;> first | exact h | exact h.elim
theorem Oper.wp_fen {ro : Option Nat} {n : Nat} {P : Program} {o : Oper} {a : Act} {w : World} {next : Act → World → Prop} {Q : Exit → Act → World → Prop} (hd : noDefer o = true) (h : o.wp P a w next Q) : o.wpIn (fen ro) n P a w next Q := by
  refine ⟨fun f _ => fen_fn ro f, ?_⟩
  rw [fen_round, Oper.semAt_eq _ _ _ (noDefer_spec hd)]
  exact Oper.up_fen h

/-- The judgement over a region's operations at such a fence. -/
structure RI (X : Cx) (ro : Option Nat) (all : Array Oper) (l : List Oper) (K : Env → Lst → Prop) (σ : Env) (L : Lst) : Prop where
  run : ∀ a w, Mod X.n a σ → Hp X.w0 X.S L w → wpListIn (fen ro) 0 X.P all (X.liftK K) l a w
section
variable {X : Cx} {ro : Option Nat} {all : Array Oper} {rest : List Oper} {K : Env → Lst → Prop} {σ : Env} {L : Lst} {o : Oper} {Q : Post}
theorem RI.nil (h : K σ L) : RI X ro all [] K σ L := ⟨fun a w ha hw => ⟨rfl, σ, L, ha, hw, h⟩⟩
theorem RI.step (hd : noDefer o = true) (h : R X all [o] (fun σ' L' => RI X ro all rest K σ' L') σ L) : RI X ro all (o :: rest) K σ L := by
  refine ⟨fun a w ha hw => ?_⟩
  have h1 := h.run a w ha hw
  have hnil : ∀ a' w', wpList X.P all (X.liftK fun σ' L' => RI X ro all rest K σ' L') [] a' w' → wpListIn (fen ro) 0 X.P all (X.liftK K) rest a' w' := by
    rintro a' w' ⟨_, σ', L', h2, h3, h4⟩
    exact h4.run a' w' h2 h3
  unfold wpList at h1
  unfold wpListIn
  by_cases hwd : Region.wanted o (yielded all a.tmps) = true
  · rw [if_pos hwd] at h1 ⊢
    rcases h1 with h1 | ⟨_, a, w, h1⟩
    · exact Oper.wp_fen hd (Oper.wp_change hnil (fun c a w h => by cases h.1) (fun ⟨a, w, h⟩ => by cases h.1) h1)
    · cases h1.1
  · rw [if_neg hwd] at h1 ⊢
    exact ⟨fun f _ => fen_fn ro f, hnil _ _ h1⟩
theorem T.regionIn {id : Nat} {ops : Array Oper} (h : RI X none ops ops.toList (Q .normal) σ L) : T X (.region id ops false) Q σ L :=
  ⟨fun a w ha hw => wpIn_wide.1 (Go.wpIn_mono (wpIn_region_list (h.run a w ha hw)) fun e a w ⟨he, σ, L, h1, h2, h3⟩ => ⟨σ, L, h1, h2, he ▸ h3⟩)⟩
end
/-- A call of yield: what a round does to the known blocks. -/
structure YieldM (P : Program) (l : Nat) (args : List Value) (L : Lst) (w : World) (R1 : Value → Lst → Prop) : Prop where
  run : Hp w (blks L) L w → ∃ fn tmps assign body, (Instr.yield l args.toArray).run P w = .ok (.round l fn tmps assign body) w ∧ RoundIn Fence.wide 0 P l fn tmps assign body w fun e w' => ∃ v L', e = .returned v ∧ R1 v L' ∧ Hp w (blks L) L' w'
theorem RI.yield {X : Cx} {all : Array Oper} {rest : List Oper} {K : Env → Lst → Prop} {σ : Env} {L Li Lr : Lst} {dd l : Nat} {ty : TypeId} {pos : String} {af : Array Edge} {c : Operand} {xs : List Operand} {vs : List Value} {ats : Array TypeId} {R1 : Value → Lst → Prop}
    (hcv : ev σ c = some (.func (.yield l) #[] #[])) (hx : evs σ xs = some vs) (hn : Nat.blt dd X.n = true) (hp : Ext L Li Lr) (hc : ∀ w, Hp X.w0 X.S L w → YieldM X.P l vs Li w R1) (h : ∀ v Lo, R1 v Lo → RI X none all rest K ((dd, v) :: σ) (Lo ++ Lr)) :
    RI X none all (⟨some dd, .call { callee := .value c, args := xs.toArray, argTypes := ats }, ty, pos, af, none⟩ :: rest) K σ L := by
  refine ⟨fun a w ha hw => wpListIn_plain rfl fun K' hK' => ⟨fun f _ => trivial, ?_⟩⟩
  have hw2 := hw.perm hp.perm
  have hin : Hp w (blks Li) Li w := ⟨.refl _ _, fun b o hm => hw2.get b o (List.mem_append_left _ hm), (List.nodup_append.1 (by have := hw2.nod; rwa [List.map_append] at this)).1, fun b o hm => .inr (List.mem_map.2 ⟨(b, o), hm, rfl⟩)⟩
  obtain ⟨fn, tmps, assign, body, hy, hR⟩ := (hc w hw).run hin
  have hm : xs.toArray.map a.eval = vs.toArray := by rw [List.map_toArray, evs_map ha hx]
  have hr : (Oper.semAt (fen none).round a.eval { dst := some dd, op := .call { callee := .value c, args := xs.toArray, argTypes := ats }, type := ty, pos := pos, after := af, guard := none }).run X.P w = .ok (.round l fn tmps assign body) w := by
    rw [fen_round, Oper.semAt_none]
    simp only [execOp, resolve, ha.ev hcv, hm, Deferred.ofValue, Sem.run_bind, Sem.run_pure, Result.andThen_ok, invoke, Array.append_empty, Array.empty_append, List.append_toArray, List.nil_append]
    simpa using hy
  rw [hr, Oper.uponIn_round]
  refine ⟨fun e => (by rw [fen_depth] at e; cases e), hR.mono ?_⟩
  rintro e w' ⟨v, L', rfl, h2, h3⟩
  exact hK' _ _ ((h v L' h2).run _ _ (ha.put (blt_lt hn) v) (hw2.callM h3))

/-- What a round's contract is made of: the assignments to the loop's variables, then the body. -/
theorem YieldM.of {P : Program} {tb : Tb P} {n l p ia ib rb : Nat} {rec : Loop} {aops bops : Array Oper} {σ : Env} {u : Value} {Li : Lst} {w : World} {R1 : Lst → Prop}
    (hm : Mod n { tmps := rec.tmps, defers := [] } σ) (hp : rec.params = #[p]) (hpn : p < n) (ha : rec.assign = .region ia aops false) (hb : rec.body = .block ib (.region rb bops false)) (hst : rec.state = .ready) (hpe : rec.pending = none)
    (h : RI ⟨P, tb, n, w, l :: blks Li⟩ (some l) aops aops.toList (fun σ2 L2 => ∃ L3, Keep L2 ((l, .loop rec) :: L3) ∧ RI ⟨P, tb, n, w, l :: blks Li⟩ (some l) bops bops.toList (fun σ4 L4 => ∃ L5, Keep L4 ((l, .loop { rec with state := .busy }) :: L5) ∧ R1 L5) σ2 ((l, .loop { rec with state := .busy }) :: L3)) ((p, u) :: σ) ((l, .loop rec) :: Li)) :
    YieldM P l [u] ((l, .loop rec) :: Li) w fun v L => v = .bool true ∧ ∃ L5, R1 L5 ∧ L = (l, .loop rec) :: L5 := by
  refine ⟨fun hw => ?_⟩
  have hl := hw.get l _ List.mem_cons_self
  refine ⟨_, _, _, _, run_yield hl (by rw [hp]; rfl), roundIn_of_wpIn trivial ?_⟩
  have hm' : Mod n { tmps := ((rec.params.zip #[u]).foldl (fun t (q, v) => t.setIfInBounds q v) rec.tmps), defers := [] } ((p, u) :: σ) := by
    have := hm.put hpn u
    rw [hp]
    simpa [Act.put] using this
  rw [ha, hb]
  refine Go.wpIn_mono (wpIn_region_list (h.run _ w hm' hw)) ?_
  rintro e a1 w1 ⟨rfl, σ2, L2, m2, h2, L3, hk, hbody⟩
  have h3 := h2.keep hk
  have hl1 := h3.get l _ List.mem_cons_self
  have hlt : l < w1.heap.size := (Array.getElem?_eq_some_iff.1 hl1).1
  refine ⟨_, run_beginRound hl1 hst, ?_⟩
  have h4 : Hp w (l :: blks Li) ((l, .loop { rec with state := .busy }) :: L3) (w1.putObj l (.loop { rec with state := .busy })) := h3.upd .head (Chg.setObj w1 _ (by simp)) (World.putObj_heap_same hlt)
  have hbl : (Code.region rb bops false).wpIn (Fence.wide.inRound l) 0 P (Exit.inBlock ib (roundPost P l fun e w' => ∃ v L', e = .returned v ∧ (v = .bool true ∧ ∃ L5, R1 L5 ∧ L' = (l, .loop rec) :: L5) ∧ Hp w (blks ((l, .loop rec) :: Li)) L' w')) a1 (w1.putObj l (.loop { rec with state := .busy })) := by
    refine Go.wpIn_mono (wpIn_region_list (hbody.run _ _ m2 h4)) ?_
    rintro e a5 w5 ⟨rfl, σ4, L4, m4, h5, L5, hk5, hR5⟩
    have h6 := h5.keep hk5
    have hl5 := h6.get l _ List.mem_cons_self
    have hlt5 : l < w5.heap.size := (Array.getElem?_eq_some_iff.1 hl5).1
    refine ⟨_, _, run_endRound none hl5, .bool true, (l, .loop rec) :: L5, rfl, ⟨rfl, L5, hR5, rfl⟩, ?_⟩
    have he : ({ { rec with state := LoopState.busy } with state := if (none : Option Code).isNone then .ready else .done, pending := none } : Loop) = rec := by
      cases rec; simp only at hst hpe; subst hst; subst hpe; rfl
    rw [he]
    exact h6.upd .head (Chg.setObj w5 _ (by simp)) (World.putObj_heap_same hlt5)
  exact wpIn_block hbl

def shift (ds : List Deferred) (a : Act) : Act := { a with defers := a.defers ++ ds }
theorem shift_eval (ds : List Deferred) (a : Act) : (shift ds a).eval = a.eval := by
  funext x; cases x <;> rfl
theorem shift_put (ds : List Deferred) (a : Act) (d : Option Tmp) (v : Value) : (shift ds a).put d v = shift ds (a.put d v) := by cases d <;> rfl
def shQ (ds : List Deferred) (Q : Exit → Act → World → Prop) : Exit → Act → World → Prop := fun e a' w' => ∃ a'', a' = shift ds a'' ∧ Q e a'' w'
theorem Oper.wp_shift {P : Program} {ds : List Deferred} {o : Oper} {a : Act} {w : World} {next next' : Act → World → Prop} {Q : Exit → Act → World → Prop} (hn : ∀ a w, next a w → next' (shift ds a) w) (h : o.wp P a w next Q) : o.wp P (shift ds a) w next' (shQ ds Q) := by
  unfold Oper.wp at h ⊢
  rw [shift_eval]
  generalize (execOp a.eval o).run P w = r at *
  cases r with
  | ok m w' =>
    cases m with
    | value v => rw [Oper.upon_value] at h ⊢; rw [shift_put]; exact hn _ _ h
    | skip => rw [Oper.upon_skip] at h ⊢; rw [shift_put]; exact hn _ _ h
    | defer d =>
      rw [Oper.upon_defer] at h ⊢
      have := hn _ _ h
      rw [← shift_put] at this
      exact this
    | enter f args =>
      rw [Oper.upon_enter] at h ⊢
      refine Calls.mono h fun e w'' he => ?_
      cases e with
      | returned v => simp only at he ⊢; rw [shift_put]; exact hn _ _ he
      | panicked c => exact ⟨a, rfl, he⟩
      | outgrown => obtain ⟨a1, w1, h1⟩ := he; exact ⟨shift ds a1, w1, a1, rfl, h1⟩
    | row f args =>
      refine Rows.mono (h : Rows P f args w' _) fun v w'' he => ?_
      rw [shift_put]; exact hn _ _ he
    | _ => exact h.elim
  | halt x w' => cases x <;> first | exact ⟨a, rfl, h⟩ | exact h.elim
theorem wpList_shift {P : Program} {ds : List Deferred} {all : Array Oper} {Q : Exit → Act → World → Prop} : ∀ (l : List Oper) (a : Act) (w : World), wpList P all Q l a w → wpList P all (shQ ds Q) l (shift ds a) w
  | [], a, w, h => ⟨a, rfl, h⟩
  | o :: r, a, w, h => by
    unfold wpList at h ⊢
    have ht : (shift ds a).tmps = a.tmps := rfl
    rw [ht]
    by_cases hw : Region.wanted o (yielded all a.tmps) = true
    · rw [if_pos hw] at h ⊢
      rcases h with h | ⟨h1, a1, w1, h2⟩
      · exact .inl (Oper.wp_shift (fun a w h => wpList_shift r a w h) h)
      · refine .inr ⟨?_, shift ds a1, w1, a1, rfl, h2⟩
        unfold Oper.asks at h1 ⊢
        rw [shift_eval]; exact h1
    · rw [if_neg hw] at h ⊢
      rw [shift_put]; exact wpList_shift r _ _ h
structure TD (X : Cx) (ds : List Deferred) (c : Code) (Q : Post) (σ : Env) (L : Lst) : Prop where
  run : ∀ a w, Mod X.n a σ → Hp X.w0 X.S L w → c.wp X.P (shQ ds (X.lift Q)) (shift ds a) w
section
variable {X : Cx} {ds : List Deferred} {x y : Code} {Q : Post} {σ : Env} {L : Lst}
theorem TD.region {id : Nat} {ops : Array Oper} (h : R X ops ops.toList (Q .normal) σ L) : TD X ds (.region id ops false) Q σ L :=
  ⟨fun a w ha hw => wp_mono (wp_region_list (wpList_shift _ _ _ (h.run a w ha hw))) fun e a w ⟨a2, h1, he, σ, L, h2, h3, h4⟩ => ⟨a2, h1, σ, L, h2, h3, he ▸ h4⟩⟩
theorem TD.seq (h : TD X ds x (thenQ (fun σ L => TD X ds y Q σ L) Q) σ L) : TD X ds (.seq x y) Q σ L :=
  ⟨fun a w ha hw => wp_seq (wp_mono (h.run a w ha hw) fun e a w ⟨a2, h1, σ, L, h2, h3, h4⟩ => by
    subst h1
    cases e with
    | normal => exact h4.run a2 w h2 h3
    | _ => exact ⟨a2, rfl, σ, L, h2, h3, h4⟩)⟩
theorem TD.ret (h : Q .ret σ L) : TD X ds .ret Q σ L := ⟨fun a w ha hw => wp_ret ⟨a, rfl, σ, L, ha, hw, h⟩⟩
end
/-- The judgement over a function that holds a range over a function, up to the loop. -/
structure TF (X : Cx) (fn : Func) (Rr : Ending → World → Prop) (c : Code) (σ : Env) (L : Lst) : Prop where
  run : ∀ a w, Mod X.n a σ → Hp X.w0 X.S L w → c.wp X.P (bodyPostM Fence.wide 0 X.P fn Rr) a w
def noQ (K : Env → Lst → Prop) : Post := fun e σ L => match e with | .normal => K σ L | _ => False
theorem TF.seq {X : Cx} {fn : Func} {Rr : Ending → World → Prop} {x y : Code} {σ : Env} {L : Lst} (h : T X x (noQ fun σ L => TF X fn Rr y σ L) σ L) : TF X fn Rr (.seq x y) σ L :=
  ⟨fun a w ha hw => wp_seq (wp_mono (h.run a w ha hw) fun e a w ⟨σ, L, h2, h3, h4⟩ => by
    cases e with
    | normal => exact h4.run a w h2 h3
    | _ => exact h4.elim)⟩
/-- The loop's record as the rounds find it. -/
structure RecOk (n : Nat) (σ : Env) (p : Nat) (assign body : Code) (rec : Loop) : Prop where
  mod : Mod n { tmps := rec.tmps, defers := [] } σ
  params : rec.params = #[p]
  assign : rec.assign = assign
  body : rec.body = body
  state : rec.state = .ready
  pending : rec.pending = none
/-- Where the loop begins: what the iterator is handed (La), what its call leaves (J), and the rest of the function. -/
structure RG (X : Cx) (gf : Nat) (k p : Nat) (assign body rest : Code) (Rp : Value → Lst → Prop) (g : Operand) (σ : Env) (L : Lst) : Prop where
  ex : ∃ (lb : List Value) (La Lr : Lst) (J : Lst → Prop), Keep L (La ++ Lr) ∧ ev σ g = some (.func (.func gf) #[] lb.toArray) ∧
    (∀ l rec w, RecOk X.n σ p assign body rec → (∃ L2, Hp X.w0 X.S (((l, .loop rec) :: La) ++ L2) w) → CallM X.P gf (.func (.yield l) #[] #[] :: lb) ((l, .loop rec) :: La) w fun v L' => ∃ Lb, J Lb ∧ L' = (l, .loop rec) :: Lb) ∧
    (∀ D Lb, J Lb → TD X [{ target := .collected D, args := #[] }] rest (fun e σ' L' => e = .ret ∧ ∃ v L3, look σ' k = some v ∧ Keep L' ((D, .deferred (some [])) :: L3) ∧ Rp v L3) σ ((D, .deferred (some [])) :: (Lb ++ Lr)))
theorem TF.range {X : Cx} {fn : Func} {Rp : Value → Lst → Prop} {x rest assign body : Code} {id p k gf : Nat} {g : Operand} {σ : Env} {L : Lst} (hfn : fn.results = #[.tmp k]) (he : X.tb.fns.contains gf = true)
    (h : T X x (noQ fun σ L => RG X gf k p assign body rest Rp g σ L) σ L) :
    TF X fn (fun e w' => ∃ v L', e = .returned v ∧ Rp v L' ∧ Hp X.w0 X.S L' w') (.seq (.seq x (.block id (.rangeFunc g #[p] assign body))) rest) σ L := by
  refine ⟨fun a w ha hw => wp_seq (wp_seq (wp_mono (h.run a w ha hw) ?_))⟩
  rintro e a w ⟨σ1, L1, m1, h1, q⟩
  cases e with
  | normal =>
    obtain ⟨lb, La, Lr, J, hk, hg, hc, hr⟩ := q.ex
    refine wp_block (wpIn_wide.1 (wpIn_rangeFunc (F := Fence.wide) (n := 0) fun fnn _ => ?_))
    obtain ⟨rec, hrec⟩ : ∃ rec : Loop, rec = { state := .ready, pending := none, fn := fnn, tmps := a.tmps, params := #[p], assign, body, defers := w.heap.size } := ⟨_, rfl⟩
    have hp1 := h1.keep hk
    have hp2 := hp1.alloc (.deferred (some []))
    have hp3 := hp2.alloc (.loop rec)
    rw [World.size_alloc] at hp3
    have hok : RecOk X.n σ1 p assign body rec := by
      subst hrec
      exact ⟨⟨m1.size, rfl, m1.ok⟩, rfl, rfl, rfl, rfl, rfl⟩
    have hperm : (((w.heap.size + 1, Obj.loop rec) :: La) ++ ((w.heap.size, Obj.deferred (some [])) :: Lr)).Perm ((w.heap.size + 1, Obj.loop rec) :: (w.heap.size, Obj.deferred (some [])) :: (La ++ Lr)) := by
      rw [List.cons_append]
      exact (List.perm_middle).cons _
    have hp4 := hp3.perm hperm
    generalize hW : (w.alloc (.deferred (some []))).alloc (.loop rec) = W1 at *
    refine ⟨w.heap.size + 1, [{ target := .collected w.heap.size, args := #[] }], W1, { target := .fn (.func gf) lb.toArray, args := #[.func (.yield (w.heap.size + 1)) #[] #[]] }, W1, gf,
      (.func (.yield (w.heap.size + 1)) #[] #[] :: lb).toArray, W1, ?_, ?_, fun _ _ => trivial, ?_, fun e => (by cases e), ?_⟩
    · rw [← hW, hrec]; exact run_enterLoop_outer _ _ _ _ _
    · simp only [resolve, m1.ev hg]
      simp [go_sem]
    · have h9 := X.tb.ent he (.func (.yield (w.heap.size + 1)) #[] #[] :: lb).toArray W1
      simp only [invoke]
      simpa using h9
    · have hin : Hp W1 (blks ((w.heap.size + 1, Obj.loop rec) :: La)) ((w.heap.size + 1, Obj.loop rec) :: La) W1 := ⟨.refl _ _, fun b o hm => hp4.get b o (List.mem_append_left _ hm), (List.nodup_append.1 (by have := hp4.nod; rwa [List.map_append] at this)).1, fun b o hm => .inr (List.mem_map.2 ⟨(b, o), hm, rfl⟩)⟩
      refine callsIn_wide.2 (Calls.mono ((hc (w.heap.size + 1) rec W1 hok ⟨_, hp4⟩).run hin) ?_)
      rintro e w3 ⟨v, L', rfl, ⟨Lb, hJ, rfl⟩, h3⟩
      have hp5 := hp4.callM h3
      have hl5 := hp5.get (w.heap.size + 1) _ List.mem_cons_self
      have hlt5 : w.heap.size + 1 < w3.heap.size := (Array.getElem?_eq_some_iff.1 hl5).1
      refine ⟨none, w3.putObj (w.heap.size + 1) (.loop { rec with state := .exhausted }), by rw [run_endLoop hl5 (by rw [hok.state]; simp), hok.pending], ?_⟩
      have hp6 : Hp X.w0 X.S ((w.heap.size + 1, Obj.loop { rec with state := .exhausted }) :: (Lb ++ ((w.heap.size, Obj.deferred (some [])) :: Lr))) (w3.putObj (w.heap.size + 1) (.loop { rec with state := .exhausted })) := hp5.upd .head (Chg.setObj w3 _ (by simp)) (World.putObj_heap_same hlt5)
      have hp7 := (hp6.sub (List.sublist_cons_self _ _)).perm (List.perm_middle.symm)
      have hrun := (hr w.heap.size Lb hJ).run a _ m1 hp7
      have hsh : shift [{ target := .collected w.heap.size, args := #[] }] a = { a with defers := [{ target := .collected w.heap.size, args := #[] }] ++ a.defers } := by
        unfold shift; rw [m1.defers]; rfl
      rw [hsh] at hrun
      refine wp_mono hrun ?_
      rintro e a9 w9 ⟨a10, rfl, σ9, L9, m9, h9, rfl, v9, L10, hv9, hk9, hR9⟩
      have h10 := h9.keep hk9
      have hD := h10.get w.heap.size _ List.mem_cons_self
      have hltD : w.heap.size < w9.heap.size := (Array.getElem?_eq_some_iff.1 hD).1
      have h11 : Hp X.w0 X.S ((w.heap.size, Obj.deferred none) :: L10) (w9.putObj w.heap.size (.deferred none)) := h10.upd .head (Chg.setObj w9 _ (by simp)) (World.putObj_heap_same hltD)
      have hde : (shift [{ target := .collected w.heap.size, args := #[] }] a10).defers = [{ target := .collected w.heap.size, args := #[] }] := by
        unfold shift; simp [m9.defers]
      show LeavesInM Fence.wide 0 X.P fn _ _ _ .returning w9
      rw [hde]
      refine ⟨by simp, .inl ⟨w.heap.size, _, rfl, run_takeDeferred hD, v9, ?_, v9, L10, rfl, hR9, h11.sub (List.sublist_cons_self _ _)⟩⟩
      rw [results_tmp hfn]
      have := m9.ok k v9 hv9
      show Result.ok ((shift _ a10).tmps.getD k undef) _ = _
      rw [show (shift [{ target := Target.collected w.heap.size, args := #[] }] a10).tmps = a10.tmps from rfl, this]
  | _ => exact q.elim
theorem number_mod {fn : Func} {n : Nat} {vs : List Value} (hn : fn.ntmps = n) (hvn : vs.length ≤ n) : Mod n { tmps := vs.toArray ++ Array.replicate (fn.ntmps - vs.toArray.size) undef, defers := [] } (number 0 vs) := by
  refine ⟨by simp [hn]; omega, rfl, fun t v hv => ?_⟩
  obtain ⟨_, h2⟩ := number_look hv
  rw [Nat.sub_zero] at h2
  obtain ⟨hl, he⟩ := List.getElem?_eq_some_iff.1 h2
  have h3 : (vs.toArray ++ Array.replicate (fn.ntmps - vs.toArray.size) undef)[t]? = some v := by
    rw [Array.getElem?_append, if_pos (by simpa using hl)]; simpa using h2
  simp only [Array.getD]
  obtain ⟨h4, h5⟩ := Array.getElem?_eq_some_iff.1 h3
  rw [dif_pos h4]; exact h5
theorem enterF {P : Program} (tb : Tb P) {f : FuncId} {fn : Func} {c : Code} {vs : List Value} {n : Nat} {R1 : Value → Lst → Prop} {w : World} {L : Lst}
    (hf : P.funcs[f]? = some fn) (hb : fn.body = some c) (hn : fn.ntmps = n) (hvn : Nat.ble vs.length n = true)
    (h : TF ⟨P, tb, n, w, blks L⟩ fn (fun e w' => ∃ v L', e = .returned v ∧ R1 v L' ∧ Hp w (blks L) L' w') c (number 0 vs) L) : CallM P f vs L w R1 := by
  refine ⟨fun hw => callsIn_wide.1 (callsIn_of_wp_marks (F := Fence.wide) (n := 0) hf hb trivial (wpIn_wide.2 (h.run _ w ?_ hw)))⟩
  exact number_mod hn (Nat.le_of_ble_eq_true hvn)
end Go.Proofs.YtligpachgcmkcaaGreat
set_option linter.unusedSimpArgs false
set_option linter.unusedVariables false
namespace Go.Proofs.YtligpachgcmkcaaGreat
open Go.RowKit Go.Shelf
set_option maxRecDepth 100000
theorem CallM.to {P : Program} {f : FuncId} {vs : List Value} {L : Lst} {w : World} {R R' : Value → Lst → Prop} (h : CallM P f vs L w R) (hr : ∀ v L, R v L → R' v L) : CallM P f vs L w R' :=
  ⟨fun hw => (h.run hw).mono fun e w' ⟨v, L', h1, h2, h3⟩ => ⟨v, L', h1, hr _ _ h2, h3⟩⟩
theorem ivalues_ok (p : Option Addr) (n cap : Nat) (w : World) : CallM Tryz.prog 53 [.slice p n cap] [] w fun v L => ∃ cb, v = .func (.func 71) #[] #[.pointer (some ⟨cb, 0, none⟩)] ∧ L = [(cb, .cells ⟨[.slice p n cap]⟩ 22 (0, 0))] := by
  refine enterK (tb := tb) Tryz.func53 rfl Tryz.ntmps53 rfl ?_
  repeat' (first | (apply R.is1; first | (apply R.pure; exact rfl; first | (apply Ok1.assign; exact rfl) | (apply Ok1.makeFunc; exact rfl; exact rfl)) | (apply R.box; (iterate 3 exact rfl); intro)) | (apply R.is0; first | fail) | (apply R.isG; first | (apply R.guard_run; exact rfl; exact rfl) | (apply R.guard_not; (iterate 3 exact rfl)) | (apply R.guard_not0; exact rfl; exact rfl) | (apply R.guard_un; (iterate 3 exact rfl)) | (apply R.guard_un0; exact rfl; exact rfl) | (apply R.guard rfl rfl ?_ (fun h => ⟨rfl, ?_⟩) <;> try intro)) | apply R.nil | (apply T.is; first | apply T.seq | apply T.region | apply T.block | apply T.scope | apply T.label | apply T.skip | apply T.exit | apply T.ret | (apply T.cond_t; exact rfl) | (apply T.cond_f; exact rfl) | (apply T.cond_h; exact rfl; assumption) | (apply T.cond_n; exact rfl; assumption) | (apply T.cond rfl <;> intro)) | apply Rnd.step)
  (apply RetOk.t; exact rfl)
  exact ⟨_, by (focus ((repeat' (first | exact Keep.nil _ | exact Ext.one _ _ | exact Ext.here _ _ | exact Ext.all _ | apply Keep.cons | apply Keep.app | apply Keep.last | apply Ext.cons | apply Ext.app)); done)), _, rfl, rfl⟩
theorem ivalues1_ok {β : Type} (I : Nat → β → Prop) (Li : Nat → β → Lst) (l : Nat) (o : Obj) (cb : Nat) (p : Option Addr) (n cap : Nat) (xs : List Int) (hn : n = xs.length) (hbig : n ≤ 1000000000) (y0 : β) (h0 : I 0 y0)
    (hY : ∀ i y x w, I i y → xs[i]? = some x → YieldM Tryz.prog l [.int .i64 x] ((l, o) :: Li i y) w fun v L => v = .bool true ∧ ∃ L5, (∃ y', I (i + 1) y' ∧ L5 = Li (i + 1) y') ∧ L = (l, o) :: L5) (w : World) (hp : RdSl w p iV xs) (hoff : xs ≠ [] → Off p (blks ((l, o) :: (cb, .cells ⟨[.slice p n cap]⟩ 22 (0, 0)) :: Li 0 y0))) :
    CallM Tryz.prog 71 [.func (.yield l) #[] #[], .pointer (some ⟨cb, 0, none⟩)] ((l, o) :: (cb, .cells ⟨[.slice p n cap]⟩ 22 (0, 0)) :: Li 0 y0) w fun v L => ∃ y, I n y ∧ L = (l, o) :: (cb, .cells ⟨[.slice p n cap]⟩ 22 (0, 0)) :: Li n y := by
  subst hn
  refine enterK (tb := tb) Tryz.func71 rfl Tryz.ntmps71 rfl ?_
  repeat' (first | (apply R.is1; first | (apply R.isBin; first | (apply R.pure; exact rfl; first | (apply Ok1.add64; exact rfl; exact rfl; omega; omega) | (apply Ok1.lss_t; exact rfl; exact rfl; omega) | (apply Ok1.lss_f; exact rfl; exact rfl; omega)) | (apply R.lss rfl rfl rfl <;> intro)) | (apply R.isCall; first | (apply R.pure; exact rfl; first | (apply Ok1.lenS; (iterate 3 exact rfl)) | (apply Ok1.lenStr; (iterate 3 exact rfl)) | (apply Ok1.lenMm; (iterate 3 exact rfl); (focus ((repeat' (first | exact At.head | apply At.tail | apply At.right)); done))) | (apply Ok1.lenM_nil; (iterate 3 exact rfl)))) | (apply R.pure; exact rfl; first | (apply Ok1.move; exact rfl) | (apply Ok1.load; exact rfl; first | (apply Ld.own1; exact rfl; exact rfl; (focus ((repeat' (first | exact At.head | apply At.tail | apply At.right)); done)); exact rfl) | (apply Ld.ownk; exact rfl; exact rfl; (focus ((repeat' (first | exact At.head | apply At.tail | apply At.right)); done)); exact rfl) | (apply Ld.old1; exact rfl; exact rfl; assumption; (first | exact List.not_mem_nil | assumption)) | (apply Ld.blk1; exact rfl; exact rfl; assumption; (first | exact List.not_mem_nil | assumption); exact rfl) | (apply Ld.blkk; exact rfl; exact rfl; assumption; (first | exact List.not_mem_nil | assumption); exact rfl)) | (apply Ok1.assign; exact rfl) | (apply Ok1.indexAddr; (iterate 5 exact rfl); omega; omega) | (apply Ok1.indexAddrA; (iterate 5 exact rfl); omega; omega) | (apply Ok1.not_t; exact rfl) | (apply Ok1.not_f; exact rfl) | (apply Ok1.not; exact rfl) | (apply Ok1.neg; exact rfl))) | (apply R.is0; first | fail) | (apply R.isG; first | (apply R.guard_run; exact rfl; exact rfl) | (apply R.guard_not; (iterate 3 exact rfl)) | (apply R.guard_not0; exact rfl; exact rfl) | (apply R.guard_un; (iterate 3 exact rfl)) | (apply R.guard_un0; exact rfl; exact rfl) | (apply R.guard rfl rfl ?_ (fun h => ⟨rfl, ?_⟩) <;> try intro)) | apply R.nil | (apply T.is; first | apply T.seq | apply T.region | apply T.block | apply T.scope | apply T.label | apply T.skip | apply T.exit | apply T.ret | (apply T.cond_t; exact rfl) | (apply T.cond_f; exact rfl) | (apply T.cond_h; exact rfl; assumption) | (apply T.cond_n; exact rfl; assumption) | (apply T.cond rfl <;> intro)) | apply Rnd.step)
  apply T.loopK (α := Nat × β) (I := fun x => x.1 ≤ xs.length ∧ I x.1 x.2) (σi := fun x => [(0, .func (.yield l) #[] #[]), (5, .slice p xs.length cap), (6, .int .i64 xs.length), (7, .int .i64 x.1)])
    (Li := fun x => (l, o) :: (cb, .cells ⟨[.slice p xs.length cap]⟩ 22 (0, 0)) :: (Li x.1 x.2 ++ [])) (μ := fun x => xs.length - x.1) (i0 := (0, y0))
  · exact ⟨Nat.zero_le _, h0⟩
  · exact ⟨rfl, rfl, rfl, rfl, trivial⟩
  · simp only [List.append_nil]
    (focus ((repeat' (first | exact Keep.nil _ | exact Ext.one _ _ | exact Ext.here _ _ | exact Ext.all _ | apply Keep.cons | apply Keep.app | apply Keep.last | apply Ext.cons | apply Ext.app)); done))
  · rintro ⟨i, y⟩ ⟨hi, hI⟩
    simp only at hi hI ⊢
    rcases Nat.lt_or_ge i xs.length with hlt | hge
    · obtain ⟨x, hx⟩ : ∃ x, xs[i]? = some x := ⟨_, List.getElem?_eq_getElem (by omega)⟩
      have hne : xs ≠ [] := by intro e; rw [e] at hlt; simp at hlt
      obtain ⟨b, ob, hpe, H⟩ := hp.at hx
      replace H := H 1 iV_len
      have hnb : b ∉ blks ((l, o) :: (cb, .cells ⟨[.slice p xs.length cap]⟩ 22 (0, 0)) :: Li 0 y0) := by
        have := hoff hne
        rw [hpe] at this
        exact this _ rfl
      repeat' (first | (apply RI.yield; (iterate 3 exact rfl); (focus (exact Ext.two _ (Ext.one _ _) (Ext.cons _ (Ext.here _ _)))); intro w1 hw1; exact hY i y x w1 hI hx; rintro v Lo ⟨rfl, L5, ⟨y', hI', rfl⟩, rfl⟩) | (apply R.is1; first | (apply R.isBin; first | (apply R.pure; exact rfl; first | (apply Ok1.add64; exact rfl; exact rfl; omega; omega) | (apply Ok1.lss_t; exact rfl; exact rfl; omega) | (apply Ok1.lss_f; exact rfl; exact rfl; omega)) | (apply R.lss rfl rfl rfl <;> intro)) | (apply R.isCall; first | (apply R.pure; exact rfl; first | (apply Ok1.lenS; (iterate 3 exact rfl)) | (apply Ok1.lenStr; (iterate 3 exact rfl)) | (apply Ok1.lenMm; (iterate 3 exact rfl); (focus ((repeat' (first | exact At.head | apply At.tail | apply At.right)); done))) | (apply Ok1.lenM_nil; (iterate 3 exact rfl)))) | (apply R.pure; exact rfl; first | (apply Ok1.indexAddrP; (iterate 4 exact rfl); exact hpe; exact rfl; omega; omega) | (apply Ok1.load; exact rfl; apply Ld.row0 H; exact rfl; exact hnb; (iterate 3 exact rfl)) | (apply Ok1.move; exact rfl) | (apply Ok1.load; exact rfl; first | (apply Ld.own1; exact rfl; exact rfl; (focus ((repeat' (first | exact At.head | apply At.tail | apply At.right)); done)); exact rfl) | (apply Ld.ownk; exact rfl; exact rfl; (focus ((repeat' (first | exact At.head | apply At.tail | apply At.right)); done)); exact rfl) | (apply Ld.old1; exact rfl; exact rfl; assumption; (first | exact List.not_mem_nil | assumption)) | (apply Ld.blk1; exact rfl; exact rfl; assumption; (first | exact List.not_mem_nil | assumption); exact rfl) | (apply Ld.blkk; exact rfl; exact rfl; assumption; (first | exact List.not_mem_nil | assumption); exact rfl)) | (apply Ok1.assign; exact rfl) | (apply Ok1.indexAddr; (iterate 5 exact rfl); omega; omega) | (apply Ok1.indexAddrA; (iterate 5 exact rfl); omega; omega) | (apply Ok1.not_t; exact rfl) | (apply Ok1.not_f; exact rfl) | (apply Ok1.not; exact rfl) | (apply Ok1.neg; exact rfl))) | (apply R.is0; first | fail) | (apply R.isG; first | (apply R.guard_run; exact rfl; exact rfl) | (apply R.guard_not; (iterate 3 exact rfl)) | (apply R.guard_not0; exact rfl; exact rfl) | (apply R.guard_un; (iterate 3 exact rfl)) | (apply R.guard_un0; exact rfl; exact rfl) | (apply R.guard rfl rfl ?_ (fun h => ⟨rfl, ?_⟩) <;> try intro)) | apply R.nil | (apply T.is; first | apply T.regionIn (id := 3) | apply T.seq | apply T.region | apply T.block | apply T.scope | apply T.label | apply T.skip | apply T.exit | apply T.ret | (apply T.cond_t; exact rfl) | (apply T.cond_f; exact rfl) | (apply T.cond_h; exact rfl; assumption) | (apply T.cond_n; exact rfl; assumption) | (apply T.cond rfl <;> intro)) | apply Rnd.step | (apply RI.step; exact rfl) | apply RI.nil)
      refine ⟨(i + 1, y'), ⟨by simp only; omega, hI'⟩, by simp only; omega, ⟨rfl, rfl, rfl, rfl, trivial⟩, ?_⟩
      simp only [List.append_nil, List.cons_append]
      (focus ((repeat' (first | exact Keep.nil _ | exact Ext.one _ _ | exact Ext.here _ _ | exact Ext.all _ | apply Keep.cons | apply Keep.app | apply Keep.last | apply Ext.cons | apply Ext.app)); done))
    · have him : i = xs.length := by omega
      subst him
      repeat' (first | (apply R.is1; first | (apply R.isBin; first | (apply R.pure; exact rfl; first | (apply Ok1.add64; exact rfl; exact rfl; omega; omega) | (apply Ok1.lss_t; exact rfl; exact rfl; omega) | (apply Ok1.lss_f; exact rfl; exact rfl; omega)) | (apply R.lss rfl rfl rfl <;> intro)) | (apply R.isCall; first | (apply R.pure; exact rfl; first | (apply Ok1.lenS; (iterate 3 exact rfl)) | (apply Ok1.lenStr; (iterate 3 exact rfl)) | (apply Ok1.lenMm; (iterate 3 exact rfl); (focus ((repeat' (first | exact At.head | apply At.tail | apply At.right)); done))) | (apply Ok1.lenM_nil; (iterate 3 exact rfl)))) | (apply R.pure; exact rfl; first | (apply Ok1.move; exact rfl) | (apply Ok1.load; exact rfl; first | (apply Ld.own1; exact rfl; exact rfl; (focus ((repeat' (first | exact At.head | apply At.tail | apply At.right)); done)); exact rfl) | (apply Ld.ownk; exact rfl; exact rfl; (focus ((repeat' (first | exact At.head | apply At.tail | apply At.right)); done)); exact rfl) | (apply Ld.old1; exact rfl; exact rfl; assumption; (first | exact List.not_mem_nil | assumption)) | (apply Ld.blk1; exact rfl; exact rfl; assumption; (first | exact List.not_mem_nil | assumption); exact rfl) | (apply Ld.blkk; exact rfl; exact rfl; assumption; (first | exact List.not_mem_nil | assumption); exact rfl)) | (apply Ok1.assign; exact rfl) | (apply Ok1.indexAddr; (iterate 5 exact rfl); omega; omega) | (apply Ok1.indexAddrA; (iterate 5 exact rfl); omega; omega) | (apply Ok1.not_t; exact rfl) | (apply Ok1.not_f; exact rfl) | (apply Ok1.not; exact rfl) | (apply Ok1.neg; exact rfl))) | (apply R.is0; first | fail) | (apply R.isG; first | (apply R.guard_run; exact rfl; exact rfl) | (apply R.guard_not; (iterate 3 exact rfl)) | (apply R.guard_not0; exact rfl; exact rfl) | (apply R.guard_un; (iterate 3 exact rfl)) | (apply R.guard_un0; exact rfl; exact rfl) | (apply R.guard rfl rfl ?_ (fun h => ⟨rfl, ?_⟩) <;> try intro)) | apply R.nil | (apply T.is; first | apply T.seq | apply T.region | apply T.block | apply T.scope | apply T.label | apply T.skip | apply T.exit | apply T.ret | (apply T.cond_t; exact rfl) | (apply T.cond_f; exact rfl) | (apply T.cond_h; exact rfl; assumption) | (apply T.cond_n; exact rfl; assumption) | (apply T.cond rfl <;> intro)) | apply Rnd.step)
      (apply RetOk.n)
      exact ⟨_, by simp only [List.append_nil]; (focus ((repeat' (first | exact Keep.nil _ | exact Ext.one _ _ | exact Ext.here _ _ | exact Ext.all _ | apply Keep.cons | apply Keep.app | apply Keep.last | apply Ext.cons | apply Ext.app)); done)), y, hI, rfl⟩
theorem appendSeq_ok (cb : Nat) (p : Option Addr) (n cap : Nat) (xs : List Int) (hn : n = xs.length) (hbig : n ≤ 1000000) (w : World) (hp : RdSl w p iV xs) (hoff : xs ≠ [] → Off p [cb]) :
    CallM Tryz.prog 76 [.slice none 0 0, .func (.func 71) #[] #[.pointer (some ⟨cb, 0, none⟩)]] [(cb, .cells ⟨[.slice p n cap]⟩ 22 (0, 0))] w fun v L => ∃ ov, OvOk 1 ov n (iis xs) ∧ v = slV ov n ∧ L = (cb, .cells ⟨[.slice p n cap]⟩ 22 (0, 0)) :: blkL 3 ov (iis xs) := by
  subst hn
  refine enterF (tb := tb) Tryz.func76 rfl Tryz.ntmps76 rfl ?_
  repeat' (first | (apply TF.range (gf := 71); exact rfl; exact rfl) | apply TF.seq | (apply R.is1; first | (apply R.pure; exact rfl; first | (apply Ok1.move; exact rfl) | (apply Ok1.load; exact rfl; first | (apply Ld.own1; exact rfl; exact rfl; (focus ((repeat' (first | exact At.head | apply At.tail | apply At.right)); done)); exact rfl) | (apply Ld.ownk; exact rfl; exact rfl; (focus ((repeat' (first | exact At.head | apply At.tail | apply At.right)); done)); exact rfl) | (apply Ld.old1; exact rfl; exact rfl; assumption; (first | exact List.not_mem_nil | assumption)) | (apply Ld.blk1; exact rfl; exact rfl; assumption; (first | exact List.not_mem_nil | assumption); exact rfl) | (apply Ld.blkk; exact rfl; exact rfl; assumption; (first | exact List.not_mem_nil | assumption); exact rfl)) | (apply Ok1.assign; exact rfl)) | (apply R.box; (iterate 3 exact rfl); intro) | (apply R.buildSlice; (iterate 12 exact rfl); intro)) | (apply R.is0; first | (apply R.store; (iterate 6 exact rfl); (focus ((repeat' (first | exact Upd.head | apply Upd.tail | apply Upd.right)); done)); exact rfl) | fail) | (apply R.isG; first | (apply R.guard_run; exact rfl; exact rfl) | (apply R.guard_not; (iterate 3 exact rfl)) | (apply R.guard_not0; exact rfl; exact rfl) | (apply R.guard_un; (iterate 3 exact rfl)) | (apply R.guard_un0; exact rfl; exact rfl) | (apply R.guard rfl rfl ?_ (fun h => ⟨rfl, ?_⟩) <;> try intro)) | apply R.nil | (apply T.is; first | apply T.seq | apply T.region | apply T.block | apply T.scope | apply T.label | apply T.skip | apply T.exit | apply T.ret | (apply T.cond_t; exact rfl) | (apply T.cond_f; exact rfl) | (apply T.cond_h; exact rfl; assumption) | (apply T.cond_n; exact rfl; assumption) | (apply T.cond rfl <;> intro)) | apply Rnd.step | (apply RI.step; exact rfl) | apply RI.nil)
  rename_i out
  obtain ⟨Li, hLi⟩ : ∃ Li : Nat → Ov → Lst, Li = fun i ov => (out, .cells ⟨[slV ov i]⟩ 22 (0, 0)) :: blkL 3 ov (iis (xs.take i)) := ⟨_, rfl⟩
  refine ⟨⟨_, (cb, .cells ⟨[.slice p xs.length cap]⟩ 22 (0, 0)) :: Li 0 none, [], fun Lb => ∃ ov, OvOk 1 ov xs.length (iis xs) ∧ Lb = (cb, .cells ⟨[.slice p xs.length cap]⟩ 22 (0, 0)) :: Li xs.length ov, ?_, rfl, ?_, ?_⟩⟩
  · subst hLi
    rw [List.append_nil]
    change Keep _ [_, _]
    (focus ((repeat' (first | exact Keep.nil _ | exact Ext.one _ _ | exact Ext.here _ _ | exact Ext.all _ | apply Keep.cons | apply Keep.app | apply Keep.last | apply Ext.cons | apply Ext.app)); done))
  · rintro l rec w1 hok ⟨L2, hw1⟩
    have hrd := hp.chg' hw1.chg hoff
    have hof2 := RdSl.old iV_len (by decide) hp hoff hw1 (Ext.here _ _)
    refine (ivalues1_ok (fun i ov => i ≤ xs.length ∧ OvOk 1 ov i (iis (xs.take i))) Li l _ cb p xs.length cap xs rfl (by omega) none ⟨Nat.zero_le _, OvOk.start 1⟩ ?_ w1 hrd hof2).to ?_
    · intro i ov x w2 ⟨hi, hI⟩ hx
      have hlt : i < xs.length := (List.getElem?_eq_some_iff.1 hx).1
      subst hLi
      apply YieldM.of (tb := tb) hok.mod hok.params (blt_lt rfl) hok.assign hok.body hok.state hok.pending
      repeat' (first | fail | (apply R.is1; first | (apply R.pure; exact rfl; first | (apply Ok1.move; exact rfl) | (apply Ok1.load; exact rfl; first | (apply Ld.own1; exact rfl; exact rfl; (focus ((repeat' (first | exact At.head | apply At.tail | apply At.right)); done)); exact rfl) | (apply Ld.ownk; exact rfl; exact rfl; (focus ((repeat' (first | exact At.head | apply At.tail | apply At.right)); done)); exact rfl) | (apply Ld.old1; exact rfl; exact rfl; assumption; (first | exact List.not_mem_nil | assumption)) | (apply Ld.blk1; exact rfl; exact rfl; assumption; (first | exact List.not_mem_nil | assumption); exact rfl) | (apply Ld.blkk; exact rfl; exact rfl; assumption; (first | exact List.not_mem_nil | assumption); exact rfl)) | (apply Ok1.assign; exact rfl)) | (apply R.box; (iterate 3 exact rfl); intro) | (apply R.buildSlice; (iterate 12 exact rfl); intro)) | (apply R.is0; first | (apply R.store; (iterate 6 exact rfl); (focus ((repeat' (first | exact Upd.head | apply Upd.tail | apply Upd.right)); done)); exact rfl) | fail) | (apply R.isG; first | (apply R.guard_run; exact rfl; exact rfl) | (apply R.guard_not; (iterate 3 exact rfl)) | (apply R.guard_not0; exact rfl; exact rfl) | (apply R.guard_un; (iterate 3 exact rfl)) | (apply R.guard_un0; exact rfl; exact rfl) | (apply R.guard rfl rfl ?_ (fun h => ⟨rfl, ?_⟩) <;> try intro)) | apply R.nil | (apply T.is; first | apply T.seq | apply T.region | apply T.block | apply T.scope | apply T.label | apply T.skip | apply T.exit | apply T.ret | (apply T.cond_t; exact rfl) | (apply T.cond_f; exact rfl) | (apply T.cond_h; exact rfl; assumption) | (apply T.cond_n; exact rfl; assumption) | (apply T.cond rfl <;> intro)) | apply Rnd.step | (apply RI.step; exact rfl) | apply RI.nil)
      refine ⟨_, .cons (.one _ _) (.last (.all _)), ?_⟩
      repeat' (first | fail | (apply R.is1; first | (apply R.isCall; first | (apply R.append1; (iterate 12 exact rfl); (focus ((repeat' (first | exact OwnAt.mid hI | exact OwnAt.base hI | exact OwnAt.nil _ | apply OwnAt.tail | apply OwnAt.right)); done)); (focus ((repeat' (first | exact At.head | apply At.tail | apply At.right)); done)); exact rfl; exact rfl; omega; omega; intro b2 j2 k2 hj2)) | (apply R.pure; exact rfl; first | (apply Ok1.move; exact rfl) | (apply Ok1.load; exact rfl; first | (apply Ld.own1; exact rfl; exact rfl; (focus ((repeat' (first | exact At.head | apply At.tail | apply At.right)); done)); exact rfl) | (apply Ld.ownk; exact rfl; exact rfl; (focus ((repeat' (first | exact At.head | apply At.tail | apply At.right)); done)); exact rfl) | (apply Ld.old1; exact rfl; exact rfl; assumption; (first | exact List.not_mem_nil | assumption)) | (apply Ld.blk1; exact rfl; exact rfl; assumption; (first | exact List.not_mem_nil | assumption); exact rfl) | (apply Ld.blkk; exact rfl; exact rfl; assumption; (first | exact List.not_mem_nil | assumption); exact rfl)) | (apply Ok1.assign; exact rfl)) | (apply R.box; (iterate 3 exact rfl); intro) | (apply R.buildSlice; (iterate 12 exact rfl); intro)) | (apply R.is0; first | (apply R.store; (iterate 6 exact rfl); (focus ((repeat' (first | exact Upd.head | apply Upd.tail | apply Upd.right)); done)); exact rfl) | fail) | (apply R.isG; first | (apply R.guard_run; exact rfl; exact rfl) | (apply R.guard_not; (iterate 3 exact rfl)) | (apply R.guard_not0; exact rfl; exact rfl) | (apply R.guard_un; (iterate 3 exact rfl)) | (apply R.guard_un0; exact rfl; exact rfl) | (apply R.guard rfl rfl ?_ (fun h => ⟨rfl, ?_⟩) <;> try intro)) | apply R.nil | (apply T.is; first | apply T.seq | apply T.region | apply T.block | apply T.scope | apply T.label | apply T.skip | apply T.exit | apply T.ret | (apply T.cond_t; exact rfl) | (apply T.cond_f; exact rfl) | (apply T.cond_h; exact rfl; assumption) | (apply T.cond_n; exact rfl; assumption) | (apply T.cond rfl <;> intro)) | apply Rnd.step | (apply RI.step; exact rfl) | apply RI.nil)
      have hs : iis (xs.take (i + 1)) = iis (xs.take i) ++ [.int .i64 x] := by rw [List.take_add_one, hx, iis_app]; rfl
      refine ⟨(out, .cells ⟨[slV (some (b2, j2, k2)) (i + 1)]⟩ 22 (0, 0)) :: blkL 3 (some (b2, j2, k2)) (iis (xs.take (i + 1))), ?_, some (b2, j2, k2), ⟨by omega, ?_⟩, rfl⟩
      · rw [hs]
        (focus ((repeat' (first | exact Keep.nil _ | exact Ext.one _ _ | exact Ext.here _ _ | exact Ext.all _ | apply Keep.cons | apply Keep.app | apply Keep.last | apply Ext.cons | apply Ext.app)); done))
      · rw [hs]
        exact hI.some (b := b2) (ys := [.int .i64 x]) (m := 1) rfl hj2
    · rintro v L ⟨ov, ⟨_, h2⟩, rfl⟩
      rw [List.take_length] at h2
      exact ⟨_, ⟨ov, h2, rfl⟩, rfl⟩
  · rintro D Lb ⟨ov, h2, rfl⟩
    subst hLi
    simp only [List.cons_append, List.append_nil, List.take_length]
    repeat' (first | apply TD.seq | apply TD.region | apply TD.ret | (apply R.is1; first | (apply R.pure; exact rfl; first | (apply Ok1.move; exact rfl) | (apply Ok1.load; exact rfl; first | (apply Ld.own1; exact rfl; exact rfl; (focus ((repeat' (first | exact At.head | apply At.tail | apply At.right)); done)); exact rfl) | (apply Ld.ownk; exact rfl; exact rfl; (focus ((repeat' (first | exact At.head | apply At.tail | apply At.right)); done)); exact rfl) | (apply Ld.old1; exact rfl; exact rfl; assumption; (first | exact List.not_mem_nil | assumption)) | (apply Ld.blk1; exact rfl; exact rfl; assumption; (first | exact List.not_mem_nil | assumption); exact rfl) | (apply Ld.blkk; exact rfl; exact rfl; assumption; (first | exact List.not_mem_nil | assumption); exact rfl)) | (apply Ok1.assign; exact rfl)) | (apply R.box; (iterate 3 exact rfl); intro) | (apply R.buildSlice; (iterate 12 exact rfl); intro)) | (apply R.is0; first | (apply R.store; (iterate 6 exact rfl); (focus ((repeat' (first | exact Upd.head | apply Upd.tail | apply Upd.right)); done)); exact rfl) | fail) | (apply R.isG; first | (apply R.guard_run; exact rfl; exact rfl) | (apply R.guard_not; (iterate 3 exact rfl)) | (apply R.guard_not0; exact rfl; exact rfl) | (apply R.guard_un; (iterate 3 exact rfl)) | (apply R.guard_un0; exact rfl; exact rfl) | (apply R.guard rfl rfl ?_ (fun h => ⟨rfl, ?_⟩) <;> try intro)) | apply R.nil | (apply T.is; first | apply T.seq | apply T.region | apply T.block | apply T.scope | apply T.label | apply T.skip | apply T.exit | apply T.ret | (apply T.cond_t; exact rfl) | (apply T.cond_f; exact rfl) | (apply T.cond_h; exact rfl; assumption) | (apply T.cond_n; exact rfl; assumption) | (apply T.cond rfl <;> intro)) | apply Rnd.step | (apply RI.step; exact rfl) | apply RI.nil)
    refine ⟨rfl, _, _, rfl, ?_, ov, h2, rfl, rfl⟩
    (focus ((repeat' (first | exact Keep.nil _ | exact Ext.one _ _ | exact Ext.here _ _ | exact Ext.all _ | apply Keep.cons | apply Keep.app | apply Keep.last | apply Ext.cons | apply Ext.app)); done))
end Go.Proofs.YtligpachgcmkcaaGreat
set_option linter.unusedSimpArgs false
set_option linter.unusedVariables false
namespace Go.Proofs.YtligpachgcmkcaaGreat
open Go.RowKit Go.Shelf
set_option maxRecDepth 100000
theorem collect_ok (cb : Nat) (p : Option Addr) (n cap : Nat) (xs : List Int) (hn : n = xs.length) (hbig : n ≤ 1000000) (w : World) (hp : RdSl w p iV xs) (hoff : xs ≠ [] → Off p [cb]) :
    CallM Tryz.prog 69 [.func (.func 71) #[] #[.pointer (some ⟨cb, 0, none⟩)]] [(cb, .cells ⟨[.slice p n cap]⟩ 22 (0, 0))] w fun v L => ∃ ov, OvOk 1 ov n (iis xs) ∧ v = slV ov n ∧ L = (cb, .cells ⟨[.slice p n cap]⟩ 22 (0, 0)) :: blkL 3 ov (iis xs) := by
  have h := fun w1 (hc : Chg [cb] w w1) => appendSeq_ok cb p n cap xs hn hbig w1 (hp.chg' hc hoff) hoff
  refine enterK (tb := tb) Tryz.func69 rfl Tryz.ntmps69 rfl ?_
  repeat' (first | (apply R.is1; first | (apply R.isCall; first | (apply R.callE (vs := [.slice none 0 0, .func (.func 71) #[] #[.pointer (some ⟨cb, 0, none⟩)]]); (iterate 3 exact rfl); exact Ext.all _; intro w1 hw1; exact h w1 hw1.chg; rintro v Lo ⟨ov, hov, rfl, rfl⟩)) | (apply R.pure; exact rfl; first | (apply Ok1.move; exact rfl) | (apply Ok1.assign; exact rfl))) | (apply R.is0; first | fail) | (apply R.isG; first | (apply R.guard_run; exact rfl; exact rfl) | (apply R.guard_not; (iterate 3 exact rfl)) | (apply R.guard_not0; exact rfl; exact rfl) | (apply R.guard_un; (iterate 3 exact rfl)) | (apply R.guard_un0; exact rfl; exact rfl) | (apply R.guard rfl rfl ?_ (fun h => ⟨rfl, ?_⟩) <;> try intro)) | apply R.nil | (apply T.is; first | apply T.seq | apply T.region | apply T.block | apply T.scope | apply T.label | apply T.skip | apply T.exit | apply T.ret | (apply T.cond_t; exact rfl) | (apply T.cond_f; exact rfl) | (apply T.cond_h; exact rfl; assumption) | (apply T.cond_n; exact rfl; assumption) | (apply T.cond rfl <;> intro)) | apply Rnd.step)
  (apply RetOk.t; exact rfl)
  exact ⟨_, by (focus ((repeat' (first | exact Keep.nil _ | exact Ext.one _ _ | exact Ext.here _ _ | exact Ext.all _ | apply Keep.cons | apply Keep.app | apply Keep.last | apply Ext.cons | apply Ext.app)); done)), ov, hov, rfl, rfl⟩
theorem sorted_ok (cb : Nat) (p : Option Addr) (n cap : Nat) (xs : List Int) (hn : n = xs.length) (hbig : n ≤ 1000000) (w : World) (hp : RdSl w p iV xs) (hoff : xs ≠ [] → Off p [cb]) :
    CallM Tryz.prog 52 [.func (.func 71) #[] #[.pointer (some ⟨cb, 0, none⟩)]] [(cb, .cells ⟨[.slice p n cap]⟩ 22 (0, 0))] w fun v L => ∃ ov, OvOk 1 ov n (iis (srt xs)) ∧ v = slV ov n ∧ L = (cb, .cells ⟨[.slice p n cap]⟩ 22 (0, 0)) :: blkL 3 ov (iis (srt xs)) := by
  subst hn
  have h := fun w1 (hc : Chg [cb] w w1) => collect_ok cb p xs.length cap xs rfl hbig w1 (hp.chg' hc hoff) hoff
  have hs := fun ov hov w1 => isort_ok xs (by omega) ov hov w1
  have hl : (iis (srt xs)).length = xs.length := by rw [iis_len, (srt_perm xs).length_eq]
  refine enterK (tb := tb) Tryz.func52 rfl Tryz.ntmps52 rfl ?_
  repeat' (first | (apply R.is1; first | (apply R.isCall; first | (apply R.callE (vs := [.func (.func 71) #[] #[.pointer (some ⟨cb, 0, none⟩)]]); (iterate 3 exact rfl); exact Ext.all _; intro w1 hw1; exact h w1 hw1.chg; rintro v Lo ⟨ov, hov, rfl, rfl⟩) | (apply R.callE (vs := [slV ov xs.length]); (iterate 3 exact rfl); exact Ext.cons _ (Ext.here _ _); intro w1 hw1; exact hs ov hov w1; rintro v Lo ⟨rfl, rfl⟩)) | (apply R.pure; exact rfl; first | (apply Ok1.move; exact rfl) | (apply Ok1.assign; exact rfl))) | (apply R.is0; first | fail) | (apply R.isG; first | (apply R.guard_run; exact rfl; exact rfl) | (apply R.guard_not; (iterate 3 exact rfl)) | (apply R.guard_not0; exact rfl; exact rfl) | (apply R.guard_un; (iterate 3 exact rfl)) | (apply R.guard_un0; exact rfl; exact rfl) | (apply R.guard rfl rfl ?_ (fun h => ⟨rfl, ?_⟩) <;> try intro)) | apply R.nil | (apply T.is; first | apply T.seq | apply T.region | apply T.block | apply T.scope | apply T.label | apply T.skip | apply T.exit | apply T.ret | (apply T.cond_t; exact rfl) | (apply T.cond_f; exact rfl) | (apply T.cond_h; exact rfl; assumption) | (apply T.cond_n; exact rfl; assumption) | (apply T.cond rfl <;> intro)) | apply Rnd.step)
  (apply RetOk.t; exact rfl)
  refine ⟨_, ?_, ov, ⟨by rw [hl, Nat.mul_one], hov.2⟩, rfl, rfl⟩
  (focus ((repeat' (first | exact Keep.nil _ | exact Ext.one _ _ | exact Ext.here _ _ | exact Ext.all _ | apply Keep.cons | apply Keep.app | apply Keep.last | apply Ext.cons | apply Ext.app)); done))
theorem twice_ok (p : Option Addr) (n cap : Nat) (xs : List Int) (hn : n = xs.length) (hbig : n ≤ 1000000) (w : World) (hp : RdSl w p iV xs) :
    CallM Tryz.prog 38 [.slice p n cap] [] w fun v L => v = .bool (decide (¬ xs.Nodup)) ∧ L = [] := by
  subst hn
  have hc := fun ys ov (hl : ys.length = xs.length) hov w1 => icompact_ok ys (by omega) ov hov w1
  have hu : (Go.Lib.compact (srt xs)).length ≤ xs.length := uniq_le xs
  have hue : (Go.Lib.compact (srt xs)).length = xs.length ↔ xs.Nodup := uniq_len xs
  have hsl : (srt xs).length = xs.length := (srt_perm xs).length_eq
  have hss := fun cb w1 hr ho => sorted_ok cb p xs.length cap xs rfl hbig w1 hr ho
  generalize srt xs = ys at *
  replace hc := fun ov hov w1 => hc ys ov hsl hov w1
  rw [hsl] at hc
  refine enterK (tb := tb) Tryz.func38 rfl Tryz.ntmps38 rfl ?_
  by_cases hnd : xs.Nodup
  · have h2 := hue.2 hnd
    rw [decide_eq_false (by simp [hnd])]
    repeat' (first | (apply R.is1; first | (apply R.isBin; first | (apply R.pure; exact rfl; first | (apply Ok1.neq_t; exact rfl; exact rfl; omega) | (apply Ok1.neq_f; exact rfl; exact rfl; omega) | (apply Ok1.neqP; (iterate 5 exact rfl)) | (apply Ok1.neqM; (iterate 5 exact rfl)) | (apply Ok1.neqS; (iterate 5 exact rfl))) | (apply R.neq rfl rfl rfl <;> intro) | (apply R.neqF; (iterate 8 exact rfl); all_goals intro)) | (apply R.isCall; first | (apply R.callE (vs := [.slice p xs.length cap]); (iterate 3 exact rfl); exact Ext.none _; intro w1 hw1; exact ivalues_ok p xs.length cap w1; rintro v Lo ⟨cb, rfl, rfl⟩) | (apply R.callE (vs := [.func (.func 71) #[] #[.pointer (some ⟨cb, 0, none⟩)]]); (iterate 3 exact rfl); exact Ext.here _ _; intro w1 hw1; exact hss cb w1 (hp.chg' hw1.chg (fun _ => Off.nil _)) (RdSl.old iV_len (by decide) hp (fun _ => Off.nil _) hw1 (Li := [(cb, .cells ⟨[.slice p xs.length cap]⟩ 22 (0, 0))]) (by (focus ((repeat' (first | exact Ext.none _ | exact Ext.one _ _ | exact Ext.here _ _ | exact Ext.all _ | apply Ext.cons | apply Ext.app | apply Ext.two)); done)))); rintro v Lo ⟨ov, hov, rfl, rfl⟩) | (apply R.callE (vs := [slV ov xs.length]); (iterate 3 exact rfl); exact Ext.cons _ (Ext.here _ _); intro w1 hw1; exact hc ov hov w1; rintro v Lo ⟨ov2, hov2, rfl, rfl⟩) | (apply R.pure; exact rfl; apply Ok1.lenOv; (iterate 3 exact rfl); first | exact hov2) | (apply R.pure; exact rfl; first | (apply Ok1.lenS; (iterate 3 exact rfl)) | (apply Ok1.lenStr; (iterate 3 exact rfl)) | (apply Ok1.lenMm; (iterate 3 exact rfl); (focus ((repeat' (first | exact At.head | apply At.tail | apply At.right)); done))) | (apply Ok1.lenM_nil; (iterate 3 exact rfl)))) | (apply R.pure; exact rfl; first | (apply Ok1.lenOv; (iterate 3 exact rfl); exact hov2) | (apply Ok1.move; exact rfl) | (apply Ok1.assign; exact rfl))) | (apply R.is0; first | fail) | (apply R.isG; first | (apply R.guard_run; exact rfl; exact rfl) | (apply R.guard_not; (iterate 3 exact rfl)) | (apply R.guard_not0; exact rfl; exact rfl) | (apply R.guard_un; (iterate 3 exact rfl)) | (apply R.guard_un0; exact rfl; exact rfl) | (apply R.guard rfl rfl ?_ (fun h => ⟨rfl, ?_⟩) <;> try intro)) | apply R.nil | (apply T.is; first | apply T.seq | apply T.region | apply T.block | apply T.scope | apply T.label | apply T.skip | apply T.exit | apply T.ret | (apply T.cond_t; exact rfl) | (apply T.cond_f; exact rfl) | (apply T.cond_h; exact rfl; assumption) | (apply T.cond_n; exact rfl; assumption) | (apply T.cond rfl <;> intro)) | apply Rnd.step)
    all_goals (apply RetOk.t; exact rfl)
    all_goals exact ⟨_, by (focus ((repeat' (first | exact Keep.nil _ | exact Ext.one _ _ | exact Ext.here _ _ | exact Ext.all _ | apply Keep.cons | apply Keep.app | apply Keep.last | apply Ext.cons | apply Ext.app)); done)), rfl, rfl⟩
  · have h2 : (Go.Lib.compact ys).length ≠ xs.length := fun e => hnd (hue.1 e)
    rw [decide_eq_true hnd]
    repeat' (first | (apply R.is1; first | (apply R.isBin; first | (apply R.pure; exact rfl; first | (apply Ok1.neq_t; exact rfl; exact rfl; omega) | (apply Ok1.neq_f; exact rfl; exact rfl; omega) | (apply Ok1.neqP; (iterate 5 exact rfl)) | (apply Ok1.neqM; (iterate 5 exact rfl)) | (apply Ok1.neqS; (iterate 5 exact rfl))) | (apply R.neq rfl rfl rfl <;> intro) | (apply R.neqF; (iterate 8 exact rfl); all_goals intro)) | (apply R.isCall; first | (apply R.callE (vs := [.slice p xs.length cap]); (iterate 3 exact rfl); exact Ext.none _; intro w1 hw1; exact ivalues_ok p xs.length cap w1; rintro v Lo ⟨cb, rfl, rfl⟩) | (apply R.callE (vs := [.func (.func 71) #[] #[.pointer (some ⟨cb, 0, none⟩)]]); (iterate 3 exact rfl); exact Ext.here _ _; intro w1 hw1; exact hss cb w1 (hp.chg' hw1.chg (fun _ => Off.nil _)) (RdSl.old iV_len (by decide) hp (fun _ => Off.nil _) hw1 (Li := [(cb, .cells ⟨[.slice p xs.length cap]⟩ 22 (0, 0))]) (by (focus ((repeat' (first | exact Ext.none _ | exact Ext.one _ _ | exact Ext.here _ _ | exact Ext.all _ | apply Ext.cons | apply Ext.app | apply Ext.two)); done)))); rintro v Lo ⟨ov, hov, rfl, rfl⟩) | (apply R.callE (vs := [slV ov xs.length]); (iterate 3 exact rfl); exact Ext.cons _ (Ext.here _ _); intro w1 hw1; exact hc ov hov w1; rintro v Lo ⟨ov2, hov2, rfl, rfl⟩) | (apply R.pure; exact rfl; apply Ok1.lenOv; (iterate 3 exact rfl); first | exact hov2) | (apply R.pure; exact rfl; first | (apply Ok1.lenS; (iterate 3 exact rfl)) | (apply Ok1.lenStr; (iterate 3 exact rfl)) | (apply Ok1.lenMm; (iterate 3 exact rfl); (focus ((repeat' (first | exact At.head | apply At.tail | apply At.right)); done))) | (apply Ok1.lenM_nil; (iterate 3 exact rfl)))) | (apply R.pure; exact rfl; first | (apply Ok1.lenOv; (iterate 3 exact rfl); exact hov2) | (apply Ok1.move; exact rfl) | (apply Ok1.assign; exact rfl))) | (apply R.is0; first | fail) | (apply R.isG; first | (apply R.guard_run; exact rfl; exact rfl) | (apply R.guard_not; (iterate 3 exact rfl)) | (apply R.guard_not0; exact rfl; exact rfl) | (apply R.guard_un; (iterate 3 exact rfl)) | (apply R.guard_un0; exact rfl; exact rfl) | (apply R.guard rfl rfl ?_ (fun h => ⟨rfl, ?_⟩) <;> try intro)) | apply R.nil | (apply T.is; first | apply T.seq | apply T.region | apply T.block | apply T.scope | apply T.label | apply T.skip | apply T.exit | apply T.ret | (apply T.cond_t; exact rfl) | (apply T.cond_f; exact rfl) | (apply T.cond_h; exact rfl; assumption) | (apply T.cond_n; exact rfl; assumption) | (apply T.cond rfl <;> intro)) | apply Rnd.step)
    all_goals (apply RetOk.t; exact rfl)
    all_goals exact ⟨_, by (focus ((repeat' (first | exact Keep.nil _ | exact Ext.one _ _ | exact Ext.here _ _ | exact Ext.all _ | apply Keep.cons | apply Keep.app | apply Keep.last | apply Ext.cons | apply Ext.app)); done)), rfl, rfl⟩
end Go.Proofs.YtligpachgcmkcaaGreat
set_option linter.unusedSimpArgs false
set_option linter.unusedVariables false
namespace Go.Proofs.YtligpachgcmkcaaGreat
open Go.RowKit Go.Shelf
set_option maxRecDepth 100000
/-- A set: four logs. -/
def setV (gs : List Lg) : List Value := gs.map Lg.v
def LsL (gs : List Lg) : Lst := gs.flatMap Lg.L
def SetL (bs : Nat) (gs : List Lg) : Lst := (bs, .cells ⟨setV gs⟩ 88 (0, 0)) :: LsL gs
structure GOk (gs : List Lg) : Prop where
  len : gs.length = 4
  ok : ∀ g ∈ gs, g.ok
  le : ∀ g ∈ gs, g.xs.length ≤ 256
def lgs (gs : List Lg) : List (List Int) := gs.map Lg.xs
def lcat (gs : List Lg) : List Int := gs.flatMap Lg.xs
structure SetR (w : World) (bs : Nat) (gs : List Lg) : Prop where
  b : w.heap[bs]? = some (.cells ⟨setV gs⟩ 88 (0, 0))
  rd : ∀ g ∈ gs, RdSl w (ovp g.ov) iV g.xs
theorem mem_LsL {gs : List Lg} {g : Lg} (h : g ∈ gs) {x : Nat × Obj} (hx : x ∈ g.L) : x ∈ LsL gs := List.mem_flatMap.2 ⟨g, h, hx⟩
theorem SetR.of {bs : Nat} {gs : List Lg} (hg : GOk gs) {w0 w : World} {S : List Nat} {L : Lst} (hw : Hp w0 S L w) (hin : ∀ x ∈ SetL bs gs, x ∈ L) : SetR w bs gs :=
  ⟨hw.get _ _ (hin _ List.mem_cons_self), fun g h => Lg.rd (hg.ok g h) hw fun x hx => hin _ (List.mem_cons_of_mem _ (mem_LsL h hx))⟩
theorem SetR.chg {bs : Nat} {gs : List Lg} {w w' : World} (h : SetR w bs gs) (hc : Chg [] w w') : SetR w' bs gs :=
  ⟨hc.heap h.b List.not_mem_nil, fun g hm => (h.rd g hm).chg' hc (fun _ => Off.nil _)⟩
theorem setV_get {gs : List Lg} {i : Nat} {g : Lg} (h : gs[i]? = some g) (hk : g.ok) : (setV gs)[0 + i * 1]? = some (.slice (ovp g.ov) g.xs.length (ovc g.ov g.xs.length)) := by
  rw [Nat.zero_add, Nat.mul_one, setV, List.getElem?_map, h, Option.map_some, Lg.v_eq hk]
theorem log_ok (bs : Nat) (gs : List Lg) (hg : GOk gs) (i : Nat) (g : Lg) (hi : gs[i]? = some g) (w : World) (hs : SetR w bs gs) :
    CallM Tryz.prog 40 [.pointer (some ⟨bs, 0, none⟩), .int .i64 i] [] w fun v L => ∃ ov, OvOk 1 ov g.xs.length (iis g.xs) ∧ v = slV ov g.xs.length ∧ L = blkL 3 ov (iis g.xs) := by
  have hlt : i < 4 := by rw [← hg.len]; exact (List.getElem?_eq_some_iff.1 hi).1
  have hm := List.mem_of_getElem? hi
  have hcell := setV_get hi (hg.ok g hm)
  have hle := hg.le g hm
  have hrd := hs.rd g hm
  have hb := hs.b
  have hcl := fun w1 (hc : Chg [] w w1) => iclone_ok (ovp g.ov) g.xs.length (ovc g.ov g.xs.length) g.xs rfl (by omega) w1 (hrd.chg' hc (fun _ => Off.nil _))
  refine enterK (tb := tb) Tryz.func40 rfl Tryz.ntmps40 rfl ?_
  repeat' (first | (apply R.is1; first | (apply R.isBin; (apply R.pure; exact rfl; first | (apply Ok1.lss_f; exact rfl; exact rfl; omega) | (apply Ok1.geq_f; exact rfl; exact rfl; omega) | (apply Ok1.eqlP; (iterate 5 exact rfl)))) | (apply R.isCall; (apply R.callE (vs := [.slice (ovp g.ov) g.xs.length (ovc g.ov g.xs.length)]); (iterate 3 exact rfl); exact Ext.none _; intro w1 hw1; exact hcl w1 hw1.chg; rintro v Lo ⟨ov, hov, _, rfl, rfl⟩)) | (apply R.pure; exact rfl; first | (apply Ok1.load; exact rfl; apply Ld.blk1; exact rfl; exact rfl; exact hb; exact List.not_mem_nil; exact hcell) | (apply Ok1.move; exact rfl) | (apply Ok1.fieldAddr; (iterate 5 exact rfl)) | (apply Ok1.assign; exact rfl) | (apply Ok1.indexAddrA; (iterate 5 exact rfl); omega; omega) | (apply Ok1.pick_f; exact rfl; exact rfl) | (apply Ok1.nilCheck; exact rfl))) | (apply R.isG; (apply R.guard_run; exact rfl; exact rfl)) | apply R.nil | (apply T.is; first | apply T.seq | apply T.region | apply T.skip | apply T.ret | (apply T.cond_f; exact rfl)))
  all_goals (apply RetOk.t; exact rfl)
  all_goals exact ⟨_, by (focus ((repeat' (first | exact Ext.here _ _ | apply Keep.last)); done)), ov, hov, rfl, rfl⟩
def lens (gs : List Lg) : List Value := gs.map fun g => .int .i64 g.xs.length
theorem versions_ok (bs : Nat) (gs : List Lg) (hg : GOk gs) (w : World) (hs : SetR w bs gs) :
    CallW Tryz.prog 24 [.pointer (some ⟨bs, 0, none⟩)] w fun v _ => v = .agg ⟨lens gs⟩ := by
  have hlog := fun i g hi w1 (hc : Chg [] w w1) => log_ok bs gs hg i g hi w1 (hs.chg hc)
  match gs, hg.len with
  | [a, b, c, d], _ =>
  have h0 := hlog 0 a rfl
  have h1 := hlog 1 b rfl
  have h2 := hlog 2 c rfl
  have h3 := hlog 3 d rfl
  clear hlog
  refine enterW (tb := tb) Tryz.func24 rfl Tryz.ntmps24 rfl ?_
  repeat' (first | (apply R.is1; first | (apply R.isBin; (apply R.pure; exact rfl; first | (apply Ok1.add64; exact rfl; exact rfl; omega; omega) | (apply Ok1.lss_t; exact rfl; exact rfl; omega) | (apply Ok1.lss_f; exact rfl; exact rfl; omega))) | (apply R.isCall; first | (apply R.callE; (iterate 3 exact rfl); exact Ext.none _; (first | (intro w1 hw1; exact h0 w1 hw1.chg) | (intro w1 hw1; exact h1 w1 hw1.chg) | (intro w1 hw1; exact h2 w1 hw1.chg) | (intro w1 hw1; exact h3 w1 hw1.chg)); rintro v Lo ⟨ov, hov, rfl, rfl⟩) | (apply R.pure; exact rfl; apply Ok1.lenOv; (iterate 3 exact rfl); exact hov)) | (apply R.pure; exact rfl; first | (apply Ok1.move; exact rfl) | (apply Ok1.load; exact rfl; (apply Ld.ownk; exact rfl; exact rfl; (focus ((repeat' (first | exact At.head | apply At.right)); done)); exact rfl)) | (apply Ok1.assign; exact rfl) | (apply Ok1.indexAddrA; (iterate 5 exact rfl); omega; omega)) | (apply R.alloc; (iterate 3 exact rfl); intro)) | (apply R.is0; (apply R.store; (iterate 6 exact rfl); (focus ((repeat' (first | exact Upd.head | apply Upd.tail | apply Upd.right)); done)); exact rfl)) | apply R.nil | (apply T.is; first | apply T.rounds 5 | apply T.seq | apply T.region | apply T.block | apply T.skip | apply T.exit | apply T.ret | (apply T.cond_t; exact rfl) | (apply T.cond_f; exact rfl)))
  all_goals (apply RetOk.c; exact rfl; ((apply Ld.ownk; exact rfl; exact rfl; (focus ((repeat' (first | exact At.head | apply At.tail | apply At.right)); done)); exact rfl)))
  all_goals rfl
end Go.Proofs.YtligpachgcmkcaaGreat
set_option linter.unusedSimpArgs false
set_option linter.unusedVariables false
namespace Go.Proofs.YtligpachgcmkcaaGreat
open Go.RowKit Go.Shelf
set_option maxRecDepth 100000
end Go.Proofs.YtligpachgcmkcaaGreat
set_option linter.unusedSimpArgs false
set_option linter.unusedVariables false
namespace Go.Proofs.YtligpachgcmkcaaGreat
open Go.RowKit Go.Shelf
set_option maxRecDepth 100000
theorem rnew_ok (w : World) : CallM Tryz.prog 19 [] [] w fun v L => ∃ bs, v = .pointer (some ⟨bs, 0, none⟩) ∧ L = SetL bs [lg0, lg0, lg0, lg0] := by
  refine enterK (tb := tb) Tryz.func19 rfl Tryz.ntmps19 rfl ?_
  repeat' (first | (apply R.is1; first | (apply R.pure; exact rfl; first | (apply Ok1.assign; exact rfl) | (apply Ok1.build; (iterate 5 exact rfl))) | (apply R.box; (iterate 3 exact rfl); intro)) | apply R.nil | (apply T.is; first | apply T.seq | apply T.region | apply T.ret))
  (apply RetOk.t; exact rfl)
  exact ⟨_, Keep.last (.all _), _, rfl, rfl⟩
theorem GOk.new : GOk [lg0, lg0, lg0, lg0] := ⟨rfl, by intro g h; simp only [List.mem_cons, List.not_mem_nil, or_false, or_self] at h; rw [h]; exact lg0_ok, by intro g h; simp only [List.mem_cons, List.not_mem_nil, or_false, or_self] at h; rw [h]; decide⟩
end Go.Proofs.YtligpachgcmkcaaGreat
set_option linter.unusedSimpArgs false
set_option linter.unusedVariables false
namespace Go.Proofs.YtligpachgcmkcaaGreat
open Go.RowKit Go.Shelf
set_option maxRecDepth 100000
def revE (ls : List (List Int)) (seed : Int) (xs : List Int) : Int :=
  if seed < 0 ∨ 4 ≤ seed ∨ ¬ SR xs then 10 else if ¬ (ls.getD seed.toNat [] ++ xs).Nodup then 8 else if 256 < (ls.getD seed.toNat [] ++ xs).length then 6 else 0
def revL (ls : List (List Int)) (seed : Int) (xs : List Int) : List (List Int) := if revE ls seed xs = 0 then ls.set seed.toNat (ls.getD seed.toNat [] ++ xs) else ls
theorem LsL_at {gs : List Lg} {i : Nat} {g : Lg} (h : gs[i]? = some g) : LsL gs = LsL (gs.take i) ++ (g.L ++ LsL (gs.drop (i + 1))) := by
  obtain ⟨hi, rfl⟩ := List.getElem?_eq_some_iff.1 h
  have e := List.take_append_drop i gs
  rw [List.drop_eq_getElem_cons hi] at e
  conv => lhs; rw [← e]
  simp only [LsL, List.flatMap_append, List.flatMap_cons]
theorem LsL_set {gs : List Lg} {i : Nat} (g' : Lg) (hi : i < gs.length) : LsL (gs.set i g') = LsL (gs.take i) ++ (g'.L ++ LsL (gs.drop (i + 1))) := by
  rw [List.set_eq_take_append_cons_drop, if_pos hi]
  simp only [LsL, List.flatMap_append, List.flatMap_cons]
theorem setV_set {gs : List Lg} {i : Nat} (g' : Lg) (hi : i < gs.length) : setE (setV gs) (0 + i * 1) [g'.v] = some (setV (gs.set i g')) := by
  have := setE_one (cs := setV gs) (o := 0 + i * 1) (v := g'.v) (by simp [setV]; omega)
  rw [this]
  simp [setV, List.map_set]
theorem GOk.set {gs : List Lg} (hg : GOk gs) (i : Nat) {g' : Lg} (h : g'.ok) (hl : g'.xs.length ≤ 256) : GOk (gs.set i g') :=
  ⟨by rw [List.length_set]; exact hg.len, fun g hm => by rcases List.mem_or_eq_of_mem_set hm with h1 | rfl; exact hg.ok g h1; exact h, fun g hm => by rcases List.mem_or_eq_of_mem_set hm with h1 | rfl; exact hg.le g h1; exact hl⟩
theorem revoke_ok (bs : Nat) (gs : List Lg) (hg : GOk gs) (seed : Int) (p : Option Addr) (n cap : Nat) (xs : List Int) (hn : n = xs.length) (hbig : n ≤ 1000) (w : World) (hp : RdSl w p iV xs) (hoff : xs ≠ [] → Off p (blks (SetL bs gs))) :
    CallM Tryz.prog 21 [.pointer (some ⟨bs, 0, none⟩), .int .i64 seed, .slice p n cap] (SetL bs gs) w fun v L => ∃ gs', v = .int .i64 (revE (lgs gs) seed xs) ∧ lgs gs' = revL (lgs gs) seed xs ∧ GOk gs' ∧ L = SetL bs gs' := by
  subst hn
  have hse := fun w1 (hc : Chg (blks (SetL bs gs)) w w1) => serials_ok p xs.length cap xs rfl (by omega) w1 (hp.chg' hc hoff)
  by_cases hr : seed < 0 ∨ 4 ≤ seed ∨ ¬ SR xs
  · have he : revE (lgs gs) seed xs = 10 := by rw [revE, if_pos hr]
    have hl : revL (lgs gs) seed xs = lgs gs := by rw [revL, he, if_neg (by decide)]
    rw [he, hl]
    by_cases h0 : seed < 0
    · refine enterK (tb := tb) Tryz.func21 rfl Tryz.ntmps21 rfl ?_
      repeat' (first | (apply R.is1; first | (apply R.isBin; first | (apply R.pure; exact rfl; first | (apply Ok1.lss_t; exact rfl; exact rfl; omega) | (apply Ok1.lss_f; exact rfl; exact rfl; omega) | (apply Ok1.gtr_t; exact rfl; exact rfl; omega) | (apply Ok1.gtr_f; exact rfl; exact rfl; omega) | (apply Ok1.geq_t; exact rfl; exact rfl; omega) | (apply Ok1.geq_f; exact rfl; exact rfl; omega) | (apply Ok1.eql_t; exact rfl; exact rfl; omega) | (apply Ok1.eql_f; exact rfl; exact rfl; omega) | (apply Ok1.eqlP; (iterate 5 exact rfl)) | (apply Ok1.eqlM; (iterate 5 exact rfl)) | (apply Ok1.eqlS; (iterate 5 exact rfl))) | (apply R.lss rfl rfl rfl <;> intro) | (apply R.gtr rfl rfl rfl <;> intro) | (apply R.geq rfl rfl rfl <;> intro) | (apply R.eql rfl rfl rfl <;> intro) | (apply R.eqlF; (iterate 8 exact rfl); all_goals intro)) | (apply R.isCall; first | (apply R.pure; exact rfl; first | (apply Ok1.lenS; (iterate 3 exact rfl)) | (apply Ok1.lenStr; (iterate 3 exact rfl)) | (apply Ok1.lenMm; (iterate 3 exact rfl); (focus ((repeat' (first | exact At.head | apply At.tail | apply At.right)); done))) | (apply Ok1.lenM_nil; (iterate 3 exact rfl)))) | (apply R.pure; exact rfl; first | (apply Ok1.move; exact rfl) | (apply Ok1.fieldAddr; (iterate 5 exact rfl)) | (apply Ok1.load; exact rfl; first | (apply Ld.own1; exact rfl; exact rfl; (focus ((repeat' (first | exact At.head | apply At.tail | apply At.right)); done)); exact rfl) | (apply Ld.ownk; exact rfl; exact rfl; (focus ((repeat' (first | exact At.head | apply At.tail | apply At.right)); done)); exact rfl) | (apply Ld.old1; exact rfl; exact rfl; assumption; (first | exact List.not_mem_nil | assumption)) | (apply Ld.blk1; exact rfl; exact rfl; assumption; (first | exact List.not_mem_nil | assumption); exact rfl) | (apply Ld.blkk; exact rfl; exact rfl; assumption; (first | exact List.not_mem_nil | assumption); exact rfl)) | (apply Ok1.assign; exact rfl) | (apply Ok1.indexAddr; (iterate 5 exact rfl); omega; omega) | (apply Ok1.indexAddrA; (iterate 5 exact rfl); omega; omega) | (apply Ok1.pick_t; exact rfl; exact rfl) | (apply Ok1.pick_f; exact rfl; exact rfl) | (apply Ok1.pick_h; exact rfl; assumption; exact rfl) | (apply Ok1.pick_n; exact rfl; assumption; exact rfl) | (apply Ok1.not_t; exact rfl) | (apply Ok1.not_f; exact rfl) | (apply Ok1.not; exact rfl) | (apply Ok1.nilCheck; exact rfl) | (apply Ok1.nilCheckF; exact rfl) | (apply Ok1.neg; exact rfl)) | (apply R.buildSlice; (iterate 12 exact rfl); intro)) | (apply R.is0; first | (apply R.store; (iterate 6 exact rfl); (focus ((repeat' (first | exact Upd.head | apply Upd.tail | apply Upd.right)); done)); exact rfl) | fail) | (apply R.isG; first | (apply R.guard_run; exact rfl; exact rfl) | (apply R.guard_not; (iterate 3 exact rfl)) | (apply R.guard_not0; exact rfl; exact rfl) | (apply R.guard_un; (iterate 3 exact rfl)) | (apply R.guard_un0; exact rfl; exact rfl) | (apply R.guard rfl rfl ?_ (fun h => ⟨rfl, ?_⟩) <;> try intro)) | apply R.nil | (apply T.is; first | apply T.seq | apply T.region | apply T.block | apply T.scope | apply T.label | apply T.skip | apply T.exit | apply T.ret | (apply T.cond_t; exact rfl) | (apply T.cond_f; exact rfl) | (apply T.cond_h; exact rfl; assumption) | (apply T.cond_n; exact rfl; assumption) | (apply T.cond rfl <;> intro)) | apply Rnd.step)
      (apply RetOk.t; exact rfl)
      exact ⟨_, Keep.last (.all _), gs, rfl, rfl, hg, rfl⟩
    · by_cases h4 : 4 ≤ seed
      · refine enterK (tb := tb) Tryz.func21 rfl Tryz.ntmps21 rfl ?_
        repeat' (first | (apply R.is1; first | (apply R.isBin; first | (apply R.pure; exact rfl; first | (apply Ok1.lss_t; exact rfl; exact rfl; omega) | (apply Ok1.lss_f; exact rfl; exact rfl; omega) | (apply Ok1.gtr_t; exact rfl; exact rfl; omega) | (apply Ok1.gtr_f; exact rfl; exact rfl; omega) | (apply Ok1.geq_t; exact rfl; exact rfl; omega) | (apply Ok1.geq_f; exact rfl; exact rfl; omega) | (apply Ok1.eql_t; exact rfl; exact rfl; omega) | (apply Ok1.eql_f; exact rfl; exact rfl; omega) | (apply Ok1.eqlP; (iterate 5 exact rfl)) | (apply Ok1.eqlM; (iterate 5 exact rfl)) | (apply Ok1.eqlS; (iterate 5 exact rfl))) | (apply R.lss rfl rfl rfl <;> intro) | (apply R.gtr rfl rfl rfl <;> intro) | (apply R.geq rfl rfl rfl <;> intro) | (apply R.eql rfl rfl rfl <;> intro) | (apply R.eqlF; (iterate 8 exact rfl); all_goals intro)) | (apply R.isCall; first | (apply R.pure; exact rfl; first | (apply Ok1.lenS; (iterate 3 exact rfl)) | (apply Ok1.lenStr; (iterate 3 exact rfl)) | (apply Ok1.lenMm; (iterate 3 exact rfl); (focus ((repeat' (first | exact At.head | apply At.tail | apply At.right)); done))) | (apply Ok1.lenM_nil; (iterate 3 exact rfl)))) | (apply R.pure; exact rfl; first | (apply Ok1.move; exact rfl) | (apply Ok1.fieldAddr; (iterate 5 exact rfl)) | (apply Ok1.load; exact rfl; first | (apply Ld.own1; exact rfl; exact rfl; (focus ((repeat' (first | exact At.head | apply At.tail | apply At.right)); done)); exact rfl) | (apply Ld.ownk; exact rfl; exact rfl; (focus ((repeat' (first | exact At.head | apply At.tail | apply At.right)); done)); exact rfl) | (apply Ld.old1; exact rfl; exact rfl; assumption; (first | exact List.not_mem_nil | assumption)) | (apply Ld.blk1; exact rfl; exact rfl; assumption; (first | exact List.not_mem_nil | assumption); exact rfl) | (apply Ld.blkk; exact rfl; exact rfl; assumption; (first | exact List.not_mem_nil | assumption); exact rfl)) | (apply Ok1.assign; exact rfl) | (apply Ok1.indexAddr; (iterate 5 exact rfl); omega; omega) | (apply Ok1.indexAddrA; (iterate 5 exact rfl); omega; omega) | (apply Ok1.pick_t; exact rfl; exact rfl) | (apply Ok1.pick_f; exact rfl; exact rfl) | (apply Ok1.pick_h; exact rfl; assumption; exact rfl) | (apply Ok1.pick_n; exact rfl; assumption; exact rfl) | (apply Ok1.not_t; exact rfl) | (apply Ok1.not_f; exact rfl) | (apply Ok1.not; exact rfl) | (apply Ok1.nilCheck; exact rfl) | (apply Ok1.nilCheckF; exact rfl) | (apply Ok1.neg; exact rfl)) | (apply R.buildSlice; (iterate 12 exact rfl); intro)) | (apply R.is0; first | (apply R.store; (iterate 6 exact rfl); (focus ((repeat' (first | exact Upd.head | apply Upd.tail | apply Upd.right)); done)); exact rfl) | fail) | (apply R.isG; first | (apply R.guard_run; exact rfl; exact rfl) | (apply R.guard_not; (iterate 3 exact rfl)) | (apply R.guard_not0; exact rfl; exact rfl) | (apply R.guard_un; (iterate 3 exact rfl)) | (apply R.guard_un0; exact rfl; exact rfl) | (apply R.guard rfl rfl ?_ (fun h => ⟨rfl, ?_⟩) <;> try intro)) | apply R.nil | (apply T.is; first | apply T.seq | apply T.region | apply T.block | apply T.scope | apply T.label | apply T.skip | apply T.exit | apply T.ret | (apply T.cond_t; exact rfl) | (apply T.cond_f; exact rfl) | (apply T.cond_h; exact rfl; assumption) | (apply T.cond_n; exact rfl; assumption) | (apply T.cond rfl <;> intro)) | apply Rnd.step)
        (apply RetOk.t; exact rfl)
        exact ⟨_, Keep.last (.all _), gs, rfl, rfl, hg, rfl⟩
      · have hs : ¬ SR xs := by rcases hr with h | h | h; exact absurd h h0; exact absurd h h4; exact h
        rw [decide_eq_false hs] at hse
        refine enterK (tb := tb) Tryz.func21 rfl Tryz.ntmps21 rfl ?_
        repeat' (first | (apply R.is1; first | (apply R.isBin; first | (apply R.pure; exact rfl; first | (apply Ok1.lss_t; exact rfl; exact rfl; omega) | (apply Ok1.lss_f; exact rfl; exact rfl; omega) | (apply Ok1.gtr_t; exact rfl; exact rfl; omega) | (apply Ok1.gtr_f; exact rfl; exact rfl; omega) | (apply Ok1.geq_t; exact rfl; exact rfl; omega) | (apply Ok1.geq_f; exact rfl; exact rfl; omega) | (apply Ok1.eql_t; exact rfl; exact rfl; omega) | (apply Ok1.eql_f; exact rfl; exact rfl; omega) | (apply Ok1.eqlP; (iterate 5 exact rfl)) | (apply Ok1.eqlM; (iterate 5 exact rfl)) | (apply Ok1.eqlS; (iterate 5 exact rfl))) | (apply R.lss rfl rfl rfl <;> intro) | (apply R.gtr rfl rfl rfl <;> intro) | (apply R.geq rfl rfl rfl <;> intro) | (apply R.eql rfl rfl rfl <;> intro) | (apply R.eqlF; (iterate 8 exact rfl); all_goals intro)) | (apply R.isCall; first | (apply R.callV (vs := [.slice p xs.length cap]); (iterate 3 exact rfl); intro w1 hw1; exact hse w1 hw1.chg) | (apply R.pure; exact rfl; first | (apply Ok1.lenS; (iterate 3 exact rfl)) | (apply Ok1.lenStr; (iterate 3 exact rfl)) | (apply Ok1.lenMm; (iterate 3 exact rfl); (focus ((repeat' (first | exact At.head | apply At.tail | apply At.right)); done))) | (apply Ok1.lenM_nil; (iterate 3 exact rfl)))) | (apply R.pure; exact rfl; first | (apply Ok1.move; exact rfl) | (apply Ok1.fieldAddr; (iterate 5 exact rfl)) | (apply Ok1.load; exact rfl; first | (apply Ld.own1; exact rfl; exact rfl; (focus ((repeat' (first | exact At.head | apply At.tail | apply At.right)); done)); exact rfl) | (apply Ld.ownk; exact rfl; exact rfl; (focus ((repeat' (first | exact At.head | apply At.tail | apply At.right)); done)); exact rfl) | (apply Ld.old1; exact rfl; exact rfl; assumption; (first | exact List.not_mem_nil | assumption)) | (apply Ld.blk1; exact rfl; exact rfl; assumption; (first | exact List.not_mem_nil | assumption); exact rfl) | (apply Ld.blkk; exact rfl; exact rfl; assumption; (first | exact List.not_mem_nil | assumption); exact rfl)) | (apply Ok1.assign; exact rfl) | (apply Ok1.indexAddr; (iterate 5 exact rfl); omega; omega) | (apply Ok1.indexAddrA; (iterate 5 exact rfl); omega; omega) | (apply Ok1.pick_t; exact rfl; exact rfl) | (apply Ok1.pick_f; exact rfl; exact rfl) | (apply Ok1.pick_h; exact rfl; assumption; exact rfl) | (apply Ok1.pick_n; exact rfl; assumption; exact rfl) | (apply Ok1.not_t; exact rfl) | (apply Ok1.not_f; exact rfl) | (apply Ok1.not; exact rfl) | (apply Ok1.nilCheck; exact rfl) | (apply Ok1.nilCheckF; exact rfl) | (apply Ok1.neg; exact rfl)) | (apply R.buildSlice; (iterate 12 exact rfl); intro)) | (apply R.is0; first | (apply R.store; (iterate 6 exact rfl); (focus ((repeat' (first | exact Upd.head | apply Upd.tail | apply Upd.right)); done)); exact rfl) | fail) | (apply R.isG; first | (apply R.guard_run; exact rfl; exact rfl) | (apply R.guard_not; (iterate 3 exact rfl)) | (apply R.guard_not0; exact rfl; exact rfl) | (apply R.guard_un; (iterate 3 exact rfl)) | (apply R.guard_un0; exact rfl; exact rfl) | (apply R.guard rfl rfl ?_ (fun h => ⟨rfl, ?_⟩) <;> try intro)) | apply R.nil | (apply T.is; first | apply T.seq | apply T.region | apply T.block | apply T.scope | apply T.label | apply T.skip | apply T.exit | apply T.ret | (apply T.cond_t; exact rfl) | (apply T.cond_f; exact rfl) | (apply T.cond_h; exact rfl; assumption) | (apply T.cond_n; exact rfl; assumption) | (apply T.cond rfl <;> intro)) | apply Rnd.step)
        (apply RetOk.t; exact rfl)
        exact ⟨_, Keep.last (.all _), gs, rfl, rfl, hg, rfl⟩
  · have h0 : ¬ seed < 0 := fun h => hr (.inl h)
    have h4 : ¬ 4 ≤ seed := fun h => hr (.inr (.inl h))
    have hs : SR xs := Classical.not_not.1 fun h => hr (.inr (.inr h))
    rw [decide_eq_true hs] at hse
    obtain ⟨i, rfl⟩ : ∃ i : Nat, seed = i := ⟨seed.toNat, by omega⟩
    have hi4 : i < 4 := by omega
    obtain ⟨g, hx⟩ : ∃ g, gs[i]? = some g := ⟨_, List.getElem?_eq_getElem (by rw [hg.len]; omega)⟩
    have hm := List.mem_of_getElem? hx
    have hgo := hg.ok g hm
    have hgl := hg.le g hm
    have hcell := setV_get hx hgo
    have hgd : (lgs gs).getD (i : Int).toNat [] = g.xs := by
      rw [Int.toNat_natCast, List.getD_eq_getElem?_getD, lgs, List.getElem?_map, hx]
      rfl
    have hcat : icat [⟨ovp g.ov, ovc g.ov g.xs.length, g.xs⟩, ⟨p, cap, xs⟩] = g.xs ++ xs := by simp [icat]
    have hcon := fun b w1 h1 h2 => iconcat_ok (some ⟨b, 0, none⟩) 2 2 [⟨ovp g.ov, ovc g.ov g.xs.length, g.xs⟩, ⟨p, cap, xs⟩] rfl (by rw [hcat, List.length_append]; omega) (by decide) w1 h1 h2
    rw [hcat] at hcon
    have hrev : revE (lgs gs) i xs = if ¬ (g.xs ++ xs).Nodup then 8 else if 256 < (g.xs ++ xs).length then 6 else 0 := by rw [revE, if_neg hr, hgd]
    have hal : (g.xs ++ xs).length ≤ 1256 := by rw [List.length_append]; omega
    have htw := fun p cap w1 h1 => twice_ok p (g.xs ++ xs).length cap (g.xs ++ xs) rfl (by omega) w1 h1
    have hset := fun g' => setV_set (gs := gs) (i := i) g' (by rw [hg.len]; exact hi4)
    have hrl : revL (lgs gs) i xs = if revE (lgs gs) i xs = 0 then (lgs gs).set i (g.xs ++ xs) else lgs gs := by rw [revL, hgd, Int.toNat_natCast]
    rw [hrl, hrev]
    clear hrl hrev hgd hcat
    generalize hall : g.xs ++ xs = all at *
    have hrd := fun w1 (hc : Chg (blks (SetL bs gs)) w w1) => hp.chg' hc hoff
    have hall2 : ∀ b w1, Hp w (blks (SetL bs gs)) ((b, .cells ⟨[.slice (ovp g.ov) g.xs.length (ovc g.ov g.xs.length), .slice p xs.length cap]⟩ 22 (0, 0)) :: SetL bs gs) w1 → CallM Tryz.prog 37 [.slice (some ⟨b, 0, none⟩) 2 2] [] w1 fun v L => ∃ ov, OvOk 1 ov all.length (iis all) ∧ v = slV ov all.length ∧ L = blkL 3 ov (iis all) := by
      intro b w1 hw1
      refine hcon b w1 (RdSl.of (junk := []) hw1 .head rfl) ?_
      intro z hz
      simp only [List.mem_cons, List.not_mem_nil, or_false] at hz
      rcases hz with rfl | rfl
      · exact Lg.rd hgo hw1 fun x hx => List.mem_cons_of_mem _ (List.mem_cons_of_mem _ (mem_LsL hm hx))
      · exact hrd w1 hw1.chg
    by_cases hnd : all.Nodup
    · rw [decide_eq_false (fun h => h hnd)] at htw
      rw [if_neg (fun h => h hnd)]
      by_cases hf : 256 < all.length
      · rw [if_pos hf, if_neg (by decide)]
        refine enterK (tb := tb) Tryz.func21 rfl Tryz.ntmps21 rfl ?_
        simp only [SetL]
        repeat' (first | (apply R.is1; first | (apply R.isBin; first | (apply R.pure; exact rfl; first | (apply Ok1.lss_t; exact rfl; exact rfl; omega) | (apply Ok1.lss_f; exact rfl; exact rfl; omega) | (apply Ok1.gtr_t; exact rfl; exact rfl; omega) | (apply Ok1.gtr_f; exact rfl; exact rfl; omega) | (apply Ok1.geq_t; exact rfl; exact rfl; omega) | (apply Ok1.geq_f; exact rfl; exact rfl; omega) | (apply Ok1.eql_t; exact rfl; exact rfl; omega) | (apply Ok1.eql_f; exact rfl; exact rfl; omega) | (apply Ok1.eqlP; (iterate 5 exact rfl)) | (apply Ok1.eqlM; (iterate 5 exact rfl)) | (apply Ok1.eqlS; (iterate 5 exact rfl))) | (apply R.lss rfl rfl rfl <;> intro) | (apply R.gtr rfl rfl rfl <;> intro) | (apply R.geq rfl rfl rfl <;> intro) | (apply R.eql rfl rfl rfl <;> intro) | (apply R.eqlF; (iterate 8 exact rfl); all_goals intro)) | (apply R.isCall; first | (apply R.callV (vs := [.slice p xs.length cap]); (iterate 3 exact rfl); intro w1 hw1; exact hse w1 hw1.chg) | (apply R.callE (vs := [.slice (some ⟨_, 0, none⟩) 2 2]); (iterate 3 exact rfl); exact Ext.none _; intro w1 hw1; exact hall2 _ w1 hw1; rintro v Lo ⟨ov, hov, rfl, rfl⟩; rw [slV_eq hov]) | (apply R.callE (vs := [.slice (ovp ov) all.length (ovc ov all.length)]); (iterate 3 exact rfl); exact Ext.none _; intro w1 hw1; exact htw (ovp ov) (ovc ov all.length) w1 (irdown hov hw1 (Ext.mem (by (focus ((repeat' (first | exact Ext.none _ | exact Ext.one _ _ | exact Ext.here _ _ | exact Ext.all _ | apply Ext.cons | apply Ext.app | apply Ext.two)); done))))); rintro v Lo ⟨rfl, rfl⟩) | (apply R.pure; exact rfl; first | (apply Ok1.lenS; (iterate 3 exact rfl)) | (apply Ok1.lenStr; (iterate 3 exact rfl)) | (apply Ok1.lenMm; (iterate 3 exact rfl); (focus ((repeat' (first | exact At.head | apply At.tail | apply At.right)); done))) | (apply Ok1.lenM_nil; (iterate 3 exact rfl)))) | (apply R.pure; exact rfl; first | (apply Ok1.load; exact rfl; apply Ld.own1; exact rfl; exact rfl; (focus ((repeat' (first | exact At.head | apply At.tail | apply At.right)); done)); exact hcell) | (apply Ok1.move; exact rfl) | (apply Ok1.fieldAddr; (iterate 5 exact rfl)) | (apply Ok1.load; exact rfl; first | (apply Ld.own1; exact rfl; exact rfl; (focus ((repeat' (first | exact At.head | apply At.tail | apply At.right)); done)); exact rfl) | (apply Ld.ownk; exact rfl; exact rfl; (focus ((repeat' (first | exact At.head | apply At.tail | apply At.right)); done)); exact rfl) | (apply Ld.old1; exact rfl; exact rfl; assumption; (first | exact List.not_mem_nil | assumption)) | (apply Ld.blk1; exact rfl; exact rfl; assumption; (first | exact List.not_mem_nil | assumption); exact rfl) | (apply Ld.blkk; exact rfl; exact rfl; assumption; (first | exact List.not_mem_nil | assumption); exact rfl)) | (apply Ok1.assign; exact rfl) | (apply Ok1.indexAddr; (iterate 5 exact rfl); omega; omega) | (apply Ok1.indexAddrA; (iterate 5 exact rfl); omega; omega) | (apply Ok1.pick_t; exact rfl; exact rfl) | (apply Ok1.pick_f; exact rfl; exact rfl) | (apply Ok1.pick_h; exact rfl; assumption; exact rfl) | (apply Ok1.pick_n; exact rfl; assumption; exact rfl) | (apply Ok1.not_t; exact rfl) | (apply Ok1.not_f; exact rfl) | (apply Ok1.not; exact rfl) | (apply Ok1.nilCheck; exact rfl) | (apply Ok1.nilCheckF; exact rfl) | (apply Ok1.neg; exact rfl)) | (apply R.buildSlice; (iterate 12 exact rfl); intro)) | (apply R.is0; first | (apply R.store; (iterate 6 exact rfl); (focus ((repeat' (first | exact Upd.head | apply Upd.tail | apply Upd.right)); done)); exact rfl) | fail) | (apply R.isG; first | (apply R.guard_run; exact rfl; exact rfl) | (apply R.guard_not; (iterate 3 exact rfl)) | (apply R.guard_not0; exact rfl; exact rfl) | (apply R.guard_un; (iterate 3 exact rfl)) | (apply R.guard_un0; exact rfl; exact rfl) | (apply R.guard rfl rfl ?_ (fun h => ⟨rfl, ?_⟩) <;> try intro)) | apply R.nil | (apply T.is; first | apply T.seq | apply T.region | apply T.block | apply T.scope | apply T.label | apply T.skip | apply T.exit | apply T.ret | (apply T.cond_t; exact rfl) | (apply T.cond_f; exact rfl) | (apply T.cond_h; exact rfl; assumption) | (apply T.cond_n; exact rfl; assumption) | (apply T.cond rfl <;> intro)) | apply Rnd.step)
        (apply RetOk.t; exact rfl)
        refine ⟨_, ?_, gs, rfl, rfl, hg, rfl⟩
        (focus ((repeat' (first | exact Keep.nil _ | exact Ext.one _ _ | exact Ext.here _ _ | exact Ext.all _ | apply Keep.cons | apply Keep.app | apply Keep.last | apply Ext.cons | apply Ext.app)); done))
      · rw [if_neg hf, if_pos rfl]
        refine enterK (tb := tb) Tryz.func21 rfl Tryz.ntmps21 rfl ?_
        simp only [SetL]
        repeat' (first | (apply R.is1; first | (apply R.isBin; first | (apply R.pure; exact rfl; first | (apply Ok1.lss_t; exact rfl; exact rfl; omega) | (apply Ok1.lss_f; exact rfl; exact rfl; omega) | (apply Ok1.gtr_t; exact rfl; exact rfl; omega) | (apply Ok1.gtr_f; exact rfl; exact rfl; omega) | (apply Ok1.geq_t; exact rfl; exact rfl; omega) | (apply Ok1.geq_f; exact rfl; exact rfl; omega) | (apply Ok1.eql_t; exact rfl; exact rfl; omega) | (apply Ok1.eql_f; exact rfl; exact rfl; omega) | (apply Ok1.eqlP; (iterate 5 exact rfl)) | (apply Ok1.eqlM; (iterate 5 exact rfl)) | (apply Ok1.eqlS; (iterate 5 exact rfl))) | (apply R.lss rfl rfl rfl <;> intro) | (apply R.gtr rfl rfl rfl <;> intro) | (apply R.geq rfl rfl rfl <;> intro) | (apply R.eql rfl rfl rfl <;> intro) | (apply R.eqlF; (iterate 8 exact rfl); all_goals intro)) | (apply R.isCall; first | (apply R.callV (vs := [.slice p xs.length cap]); (iterate 3 exact rfl); intro w1 hw1; exact hse w1 hw1.chg) | (apply R.callE (vs := [.slice (some ⟨_, 0, none⟩) 2 2]); (iterate 3 exact rfl); exact Ext.none _; intro w1 hw1; exact hall2 _ w1 hw1; rintro v Lo ⟨ov, hov, rfl, rfl⟩; rw [slV_eq hov]) | (apply R.callE (vs := [.slice (ovp ov) all.length (ovc ov all.length)]); (iterate 3 exact rfl); exact Ext.none _; intro w1 hw1; exact htw (ovp ov) (ovc ov all.length) w1 (irdown hov hw1 (Ext.mem (by (focus ((repeat' (first | exact Ext.none _ | exact Ext.one _ _ | exact Ext.here _ _ | exact Ext.all _ | apply Ext.cons | apply Ext.app | apply Ext.two)); done))))); rintro v Lo ⟨rfl, rfl⟩) | (apply R.pure; exact rfl; first | (apply Ok1.lenS; (iterate 3 exact rfl)) | (apply Ok1.lenStr; (iterate 3 exact rfl)) | (apply Ok1.lenMm; (iterate 3 exact rfl); (focus ((repeat' (first | exact At.head | apply At.tail | apply At.right)); done))) | (apply Ok1.lenM_nil; (iterate 3 exact rfl)))) | (apply R.pure; exact rfl; first | (apply Ok1.load; exact rfl; apply Ld.own1; exact rfl; exact rfl; (focus ((repeat' (first | exact At.head | apply At.tail | apply At.right)); done)); exact hcell) | (apply Ok1.move; exact rfl) | (apply Ok1.fieldAddr; (iterate 5 exact rfl)) | (apply Ok1.load; exact rfl; first | (apply Ld.own1; exact rfl; exact rfl; (focus ((repeat' (first | exact At.head | apply At.tail | apply At.right)); done)); exact rfl) | (apply Ld.ownk; exact rfl; exact rfl; (focus ((repeat' (first | exact At.head | apply At.tail | apply At.right)); done)); exact rfl) | (apply Ld.old1; exact rfl; exact rfl; assumption; (first | exact List.not_mem_nil | assumption)) | (apply Ld.blk1; exact rfl; exact rfl; assumption; (first | exact List.not_mem_nil | assumption); exact rfl) | (apply Ld.blkk; exact rfl; exact rfl; assumption; (first | exact List.not_mem_nil | assumption); exact rfl)) | (apply Ok1.assign; exact rfl) | (apply Ok1.indexAddr; (iterate 5 exact rfl); omega; omega) | (apply Ok1.indexAddrA; (iterate 5 exact rfl); omega; omega) | (apply Ok1.pick_t; exact rfl; exact rfl) | (apply Ok1.pick_f; exact rfl; exact rfl) | (apply Ok1.pick_h; exact rfl; assumption; exact rfl) | (apply Ok1.pick_n; exact rfl; assumption; exact rfl) | (apply Ok1.not_t; exact rfl) | (apply Ok1.not_f; exact rfl) | (apply Ok1.not; exact rfl) | (apply Ok1.nilCheck; exact rfl) | (apply Ok1.nilCheckF; exact rfl) | (apply Ok1.neg; exact rfl)) | (apply R.buildSlice; (iterate 12 exact rfl); intro)) | (apply R.is0; first | (apply R.store; (iterate 6 exact rfl); (focus ((repeat' (first | exact Upd.head | apply Upd.tail | apply Upd.right)); done)); have h9 := hset ⟨ov, all⟩; rw [Lg.v_eq (g := ⟨ov, all⟩) hov] at h9; exact h9) | (apply R.store; (iterate 6 exact rfl); (focus ((repeat' (first | exact Upd.head | apply Upd.tail | apply Upd.right)); done)); exact rfl) | fail) | (apply R.isG; first | (apply R.guard_run; exact rfl; exact rfl) | (apply R.guard_not; (iterate 3 exact rfl)) | (apply R.guard_not0; exact rfl; exact rfl) | (apply R.guard_un; (iterate 3 exact rfl)) | (apply R.guard_un0; exact rfl; exact rfl) | (apply R.guard rfl rfl ?_ (fun h => ⟨rfl, ?_⟩) <;> try intro)) | apply R.nil | (apply T.is; first | apply T.seq | apply T.region | apply T.block | apply T.scope | apply T.label | apply T.skip | apply T.exit | apply T.ret | (apply T.cond_t; exact rfl) | (apply T.cond_f; exact rfl) | (apply T.cond_h; exact rfl; assumption) | (apply T.cond_n; exact rfl; assumption) | (apply T.cond rfl <;> intro)) | apply Rnd.step)
        (apply RetOk.t; exact rfl)
        refine ⟨_, ?_, gs.set i ⟨ov, all⟩, rfl, by rw [lgs, List.map_set]; rfl, hg.set i hov (by show all.length ≤ 256; omega), rfl⟩
        rw [LsL_at hx, LsL_set _ (by rw [hg.len]; exact hi4)]
        simp only [Lg.L]
        (focus ((repeat' (first | exact Keep.nil _ | exact Ext.one _ _ | exact Ext.here _ _ | exact Ext.all _ | apply Keep.cons | apply Keep.app | apply Keep.last | apply Ext.cons | apply Ext.app)); done))
    · rw [decide_eq_true hnd] at htw
      rw [if_pos hnd, if_neg (by decide)]
      refine enterK (tb := tb) Tryz.func21 rfl Tryz.ntmps21 rfl ?_
      simp only [SetL]
      repeat' (first | (apply R.is1; first | (apply R.isBin; first | (apply R.pure; exact rfl; first | (apply Ok1.lss_t; exact rfl; exact rfl; omega) | (apply Ok1.lss_f; exact rfl; exact rfl; omega) | (apply Ok1.gtr_t; exact rfl; exact rfl; omega) | (apply Ok1.gtr_f; exact rfl; exact rfl; omega) | (apply Ok1.geq_t; exact rfl; exact rfl; omega) | (apply Ok1.geq_f; exact rfl; exact rfl; omega) | (apply Ok1.eql_t; exact rfl; exact rfl; omega) | (apply Ok1.eql_f; exact rfl; exact rfl; omega) | (apply Ok1.eqlP; (iterate 5 exact rfl)) | (apply Ok1.eqlM; (iterate 5 exact rfl)) | (apply Ok1.eqlS; (iterate 5 exact rfl))) | (apply R.lss rfl rfl rfl <;> intro) | (apply R.gtr rfl rfl rfl <;> intro) | (apply R.geq rfl rfl rfl <;> intro) | (apply R.eql rfl rfl rfl <;> intro) | (apply R.eqlF; (iterate 8 exact rfl); all_goals intro)) | (apply R.isCall; first | (apply R.callV (vs := [.slice p xs.length cap]); (iterate 3 exact rfl); intro w1 hw1; exact hse w1 hw1.chg) | (apply R.callE (vs := [.slice (some ⟨_, 0, none⟩) 2 2]); (iterate 3 exact rfl); exact Ext.none _; intro w1 hw1; exact hall2 _ w1 hw1; rintro v Lo ⟨ov, hov, rfl, rfl⟩; rw [slV_eq hov]) | (apply R.callE (vs := [.slice (ovp ov) all.length (ovc ov all.length)]); (iterate 3 exact rfl); exact Ext.none _; intro w1 hw1; exact htw (ovp ov) (ovc ov all.length) w1 (irdown hov hw1 (Ext.mem (by (focus ((repeat' (first | exact Ext.none _ | exact Ext.one _ _ | exact Ext.here _ _ | exact Ext.all _ | apply Ext.cons | apply Ext.app | apply Ext.two)); done))))); rintro v Lo ⟨rfl, rfl⟩) | (apply R.pure; exact rfl; first | (apply Ok1.lenS; (iterate 3 exact rfl)) | (apply Ok1.lenStr; (iterate 3 exact rfl)) | (apply Ok1.lenMm; (iterate 3 exact rfl); (focus ((repeat' (first | exact At.head | apply At.tail | apply At.right)); done))) | (apply Ok1.lenM_nil; (iterate 3 exact rfl)))) | (apply R.pure; exact rfl; first | (apply Ok1.load; exact rfl; apply Ld.own1; exact rfl; exact rfl; (focus ((repeat' (first | exact At.head | apply At.tail | apply At.right)); done)); exact hcell) | (apply Ok1.move; exact rfl) | (apply Ok1.fieldAddr; (iterate 5 exact rfl)) | (apply Ok1.load; exact rfl; first | (apply Ld.own1; exact rfl; exact rfl; (focus ((repeat' (first | exact At.head | apply At.tail | apply At.right)); done)); exact rfl) | (apply Ld.ownk; exact rfl; exact rfl; (focus ((repeat' (first | exact At.head | apply At.tail | apply At.right)); done)); exact rfl) | (apply Ld.old1; exact rfl; exact rfl; assumption; (first | exact List.not_mem_nil | assumption)) | (apply Ld.blk1; exact rfl; exact rfl; assumption; (first | exact List.not_mem_nil | assumption); exact rfl) | (apply Ld.blkk; exact rfl; exact rfl; assumption; (first | exact List.not_mem_nil | assumption); exact rfl)) | (apply Ok1.assign; exact rfl) | (apply Ok1.indexAddr; (iterate 5 exact rfl); omega; omega) | (apply Ok1.indexAddrA; (iterate 5 exact rfl); omega; omega) | (apply Ok1.pick_t; exact rfl; exact rfl) | (apply Ok1.pick_f; exact rfl; exact rfl) | (apply Ok1.pick_h; exact rfl; assumption; exact rfl) | (apply Ok1.pick_n; exact rfl; assumption; exact rfl) | (apply Ok1.not_t; exact rfl) | (apply Ok1.not_f; exact rfl) | (apply Ok1.not; exact rfl) | (apply Ok1.nilCheck; exact rfl) | (apply Ok1.nilCheckF; exact rfl) | (apply Ok1.neg; exact rfl)) | (apply R.buildSlice; (iterate 12 exact rfl); intro)) | (apply R.is0; first | (apply R.store; (iterate 6 exact rfl); (focus ((repeat' (first | exact Upd.head | apply Upd.tail | apply Upd.right)); done)); exact rfl) | fail) | (apply R.isG; first | (apply R.guard_run; exact rfl; exact rfl) | (apply R.guard_not; (iterate 3 exact rfl)) | (apply R.guard_not0; exact rfl; exact rfl) | (apply R.guard_un; (iterate 3 exact rfl)) | (apply R.guard_un0; exact rfl; exact rfl) | (apply R.guard rfl rfl ?_ (fun h => ⟨rfl, ?_⟩) <;> try intro)) | apply R.nil | (apply T.is; first | apply T.seq | apply T.region | apply T.block | apply T.scope | apply T.label | apply T.skip | apply T.exit | apply T.ret | (apply T.cond_t; exact rfl) | (apply T.cond_f; exact rfl) | (apply T.cond_h; exact rfl; assumption) | (apply T.cond_n; exact rfl; assumption) | (apply T.cond rfl <;> intro)) | apply Rnd.step)
      (apply RetOk.t; exact rfl)
      refine ⟨_, ?_, gs, rfl, rfl, hg, rfl⟩
      (focus ((repeat' (first | exact Keep.nil _ | exact Ext.one _ _ | exact Ext.here _ _ | exact Ext.all _ | apply Keep.cons | apply Keep.app | apply Keep.last | apply Ext.cons | apply Ext.app)); done))
end Go.Proofs.YtligpachgcmkcaaGreat
set_option linter.unusedSimpArgs false
set_option linter.unusedVariables false
namespace Go.Proofs.YtligpachgcmkcaaGreat
open Go.RowKit Go.Shelf
set_option maxRecDepth 100000
section
variable {X : Cx} {σ : Env} {L Lr : Lst} {d : Option Nat} {ty : TypeId} {pos : String} {af : Array Edge} {g : Option (Nat × Bool)} {x : Operand} {t e : TypeId} {r re : TRow} {p : Option Addr} {n cap i j : Nat}
end
/-- A delta: from where, and a log's part, of each. -/
abbrev Dl := List (Int × Pi)
theorem fl_pi (ps : List Pi) : fl Pi.v ps = ps.map fun z => .slice z.p z.xs.length z.cap := by
  unfold fl
  induction ps with
  | nil => rfl
  | cons a l ih => simp only [List.map_cons, List.flatten_cons, ih]; rfl
end Go.Proofs.YtligpachgcmkcaaGreat
set_option linter.unusedSimpArgs false
set_option linter.unusedVariables false
namespace Go.Proofs.YtligpachgcmkcaaGreat
open Go.RowKit Go.Shelf
set_option maxRecDepth 100000
/-- How much of it both have; the error; the log. -/
def both (xs ys : List Int) (k : Nat) : Nat := min (xs.length - k) ys.length
def jAll (xs ys : List Int) (k : Nat) : List Int := xs ++ ys.drop (both xs ys k)
def jE (xs ys : List Int) (k : Nat) : Int :=
  if (xs.drop k).take (both xs ys k) ≠ ys.take (both xs ys k) then 3 else if ¬ (jAll xs ys k).Nodup then 3 else if 256 < (jAll xs ys k).length then 6 else 0
def jL (xs ys : List Int) (k : Nat) : List Int := if jE xs ys k = 0 then jAll xs ys k else []
end Go.Proofs.YtligpachgcmkcaaGreat
set_option linter.unusedSimpArgs false
set_option linter.unusedVariables false
namespace Go.Proofs.YtligpachgcmkcaaGreat
open Go.RowKit Go.Shelf
set_option maxRecDepth 100000
/-- A log, from where, and the delta's part of it. -/
abbrev Jx := List Int × Int × List Int
def JE (x : Jx) : Int := jE x.1 x.2.2 x.2.1.toNat
def JL (x : Jx) : List Int := jL x.1 x.2.2 x.2.1.toNat
def DR (dd : List (Int × List Int)) : Prop := ∀ y ∈ dd, 0 ≤ y.1 ∧ y.1 ≤ 256 ∧ y.2.length ≤ 256 ∧ SR y.2
instance (dd : List (Int × List Int)) : Decidable (DR dd) := by unfold DR; infer_instance
def appE (zz : List Jx) : Int := if ∃ x ∈ zz, (x.1.length : Int) < x.2.1 then 9 else if ∃ x ∈ zz, JE x = 3 then 3 else if ∃ x ∈ zz, JE x = 6 then 6 else 0
def appX (ls : List (List Int)) (dd : List (Int × List Int)) : Int := if DR dd then appE (ls.zip dd) else 10
def appL (ls : List (List Int)) (dd : List (Int × List Int)) : List (List Int) := if appX ls dd = 0 then (ls.zip dd).map JL else ls
theorem je_cases (x : Jx) : JE x = 0 ∨ JE x = 3 ∨ JE x = 6 := by
  unfold JE jE
  by_cases c1 : (x.1.drop x.2.1.toNat).take (both x.1 x.2.2 x.2.1.toNat) ≠ x.2.2.take (both x.1 x.2.2 x.2.1.toNat)
  · exact .inr (.inl (if_pos c1))
  · rw [if_neg c1]
    by_cases c2 : ¬ (jAll x.1 x.2.2 x.2.1.toNat).Nodup
    · exact .inr (.inl (if_pos c2))
    · rw [if_neg c2]
      by_cases c3 : 256 < (jAll x.1 x.2.2 x.2.1.toNat).length
      · exact .inr (.inr (if_pos c3))
      · exact .inl (if_neg c3)
def zz (gs : List Lg) (d : Dl) : List Jx := (lgs gs).zip (d.map fun x => (x.1, x.2.xs))
theorem lens_eq (gs : List Lg) : lens gs = iis (gs.map fun g => (g.xs.length : Int)) := by simp [lens, iis]
end Go.Proofs.YtligpachgcmkcaaGreat
set_option linter.unusedSimpArgs false
set_option linter.unusedVariables false
namespace Go.Proofs.YtligpachgcmkcaaGreat
open Go.RowKit Go.Shelf
set_option maxRecDepth 100000
section
variable {X : Cx} {σ : Env} {L Lr : Lst} {d : Option Nat} {ty : TypeId} {pos : String} {af : Array Edge} {g : Option (Nat × Bool)} {x : Operand} {t e : TypeId} {r re : TRow} {p : Option Addr} {n cap i j : Nat}
end
theorem ovc_le {n : Nat} {ov : Ov} {xs : List Value} (h : OvOk 1 ov n xs) : n ≤ ovc ov n := by
  unfold ovc
  cases ov with
  | none => have := h.2; simp only at this ⊢; omega
  | some q => simp only; omega
/-- A delta whose logs lie in the blocks of L. -/
structure DlO (d : Dl) (L : Lst) : Prop where
  cap : ∀ x ∈ d, x.2.xs.length ≤ x.2.cap
  adr : ∀ x ∈ d, x.2.xs ≠ [] → ∃ b o, x.2.p = some ⟨b, o, none⟩ ∧ b ∈ blks L
  rd : ∀ (w0 w : World) (S : List Nat) (L' : Lst), Hp w0 S L' w → (∀ z ∈ L, z ∈ L') → ∀ x ∈ d, RdSl w x.2.p iV x.2.xs
theorem DlO.nil (L : Lst) : DlO [] L := ⟨by simp, by simp, by simp⟩
theorem DlO.snoc {d : Dl} {L : Lst} (h : DlO d L) {ov : Ov} {xs : List Int} (hov : OvOk 1 ov xs.length (iis xs)) (f : Int) {k c : Nat} (hk : k ≤ xs.length) (hc : xs.length ≤ c) {m : Nat} (hm : xs.length - k ≤ m) :
    DlO (d ++ [(f, ⟨sufP (ovp ov) c k 1, m, xs.drop k⟩)]) (blkL 3 ov (iis xs) ++ L) := by
  refine ⟨fun x hx => ?_, fun x hx hne => ?_, fun w0 w S L' hw hin x hx => ?_⟩
  · rcases List.mem_append.1 hx with h1 | h1
    · exact h.cap x h1
    · rw [List.mem_singleton.1 h1]
      simp only [List.length_drop]
      exact hm
  · rcases List.mem_append.1 hx with h1 | h1
    · obtain ⟨b, o, h2, h3⟩ := h.adr x h1 hne
      refine ⟨b, o, h2, ?_⟩
      rw [blks, List.map_append]
      exact List.mem_append_right _ h3
    · rw [List.mem_singleton.1 h1] at hne ⊢
      simp only at hne ⊢
      cases ov with
      | none =>
        have h0 : xs.length = 0 := hov.2
        have : xs = [] := List.eq_nil_of_length_eq_zero h0
        subst this
        simp at hne
      | some q =>
        obtain ⟨b, j, junk⟩ := q
        have hb : b ∈ blks (blkL 3 (some (b, j, junk)) (iis xs) ++ L) := by simp [blks, blkL]
        unfold sufP ovp
        by_cases hck : c = k
        · exact ⟨b, 0, by rw [if_pos hck], hb⟩
        · exact ⟨b, 0 + k * 1, by rw [if_neg hck]; simp [Addr.add]; omega, hb⟩
  · rcases List.mem_append.1 hx with h1 | h1
    · exact h.rd w0 w S L' hw (fun z hz => hin z (List.mem_append_right _ hz)) x h1
    · rw [List.mem_singleton.1 h1]
      exact (irdown hov hw fun z hz => hin z (List.mem_append_left _ hz)).suf iV_len hk hc
def pur (d : Dl) : List (Int × List Int) := d.map fun x => (x.1, x.2.xs)
end Go.Proofs.YtligpachgcmkcaaGreat
set_option linter.unusedSimpArgs false
set_option linter.unusedVariables false
namespace Go.Proofs.YtligpachgcmkcaaGreat
open Go.RowKit Go.Shelf
set_option maxRecDepth 100000
theorem lens_of {gs : List Lg} {ls : List (List Int)} (h : lgs gs = ls) : lens gs = iis (ls.map fun x => (x.length : Int)) := by
  rw [lens_eq, ← h, lgs, List.map_map]; rfl
end Go.Proofs.YtligpachgcmkcaaGreat
set_option linter.unusedSimpArgs false
set_option linter.unusedVariables false
namespace Go.Proofs.YtligpachgcmkcaaGreat
open Go.RowKit Go.Shelf
/-- Logs as they must be. -/
def LOk (ls : List (List Int)) : Prop := ∀ xs ∈ ls, SR xs ∧ xs.Nodup ∧ xs.length ≤ 256
theorem LOk.rev {ls : List (List Int)} (h : LOk ls) (seed : Int) (xs : List Int) : LOk (revL ls seed xs) := by
  unfold revL
  by_cases h0 : revE ls seed xs = 0
  · rw [if_pos h0]
    unfold revE at h0
    split at h0
    · cases h0
    · rename_i hr
      split at h0
      · cases h0
      · rename_i hn
        split at h0
        · cases h0
        · rename_i hf
          intro ys hy
          rcases List.mem_or_eq_of_mem_set hy with h1 | rfl
          · exact h ys h1
          · refine ⟨fun y hy => ?_, Classical.not_not.1 hn, by omega⟩
            rcases List.mem_append.1 hy with h2 | h2
            · rw [List.getD_eq_getElem?_getD] at h2
              cases hg : ls[seed.toNat]? with
              | none => rw [hg] at h2; simp at h2
              | some zs =>
                rw [hg] at h2
                exact (h zs (List.mem_of_getElem? hg)).1 y h2
            · exact (Classical.not_not.1 fun hs => hr (.inr (.inr hs))) y h2
  · rw [if_neg h0]; exact h
end Go.Proofs.YtligpachgcmkcaaGreat
set_option linter.unusedSimpArgs false
set_option linter.unusedVariables false
namespace Go.Proofs.YtligpachgcmkcaaGreat
open Go.RowKit Go.Shelf
set_option maxRecDepth 100000
end Go.Proofs.YtligpachgcmkcaaGreat
set_option linter.unusedSimpArgs false
set_option linter.unusedVariables false
namespace Go.Proofs.YtligpachgcmkcaaGreat
open Go.RowKit Go.Shelf
set_option maxRecDepth 100000
theorem nums1_len (xs : List Int) : (numsI 1 xs).length = 2 * xs.length := by
  induction xs with
  | nil => rfl
  | cons x l ih =>
    simp only [numsI, List.flatMap_cons, List.length_append, List.length_cons] at *
    simp only [numI, List.length_cons, List.length_nil]
    omega
theorem nums_byt (s : Nat) (xs : List Int) : Byt (numsI s xs) := by
  intro y hy
  obtain ⟨x, hx, h⟩ := List.mem_flatMap.1 hy
  exact num_byt s x y h
theorem i_at {xs : List Int} {i : Nat} {x : Int} (h : xs[i]? = some x) : (iis xs)[i * 1]? = some (.int .i64 x) := by rw [Nat.mul_one, iis, List.getElem?_map, h]; rfl
end Go.Proofs.YtligpachgcmkcaaGreat
set_option linter.unusedSimpArgs false
set_option linter.unusedVariables false
namespace Go.Proofs.YtligpachgcmkcaaGreat
open Go.RowKit Go.Shelf
set_option maxRecDepth 100000
end Go.Proofs.YtligpachgcmkcaaGreat
set_option linter.unusedSimpArgs false
set_option linter.unusedVariables false
namespace Go.Proofs.YtligpachgcmkcaaGreat
open Go.RowKit Go.Shelf
set_option maxRecDepth 100000
end Go.Proofs.YtligpachgcmkcaaGreat
