/- The digest: Copy, Sum. -/
import Derived.Test.YtligpachgcmkcaaDg6
set_option linter.unusedSimpArgs false
set_option linter.unusedVariables false
namespace Go.Proofs.Ytligpachgcmkcaa
open Go.RowKit Go.Shelf
set_option maxRecDepth 100000

theorem rCopy_ok (r : Nat) (st : RS) (b : List Int) (hI : RuI st b) (hbig : b.length ≤ 1000000000) (w : World) (hb : w.heap[r]? = some (.cells ⟨st.s.v ++ rnC st⟩ 115 (0, 0))) (hl : RdSl w st.p u8V st.lf) :
    CallM Try.prog 91 [.pointer (some ⟨r, 0, none⟩)] [] w fun v L => ∃ r' st', v = .pointer (some ⟨r', 0, none⟩) ∧ L = RL r' st' ∧ RuI st' b := by
  refine enterK (tb := tb) Try.func91 rfl Try.ntmps91 rfl ?_
  have hll := left_len b
  rw [← hI.left] at hll
  obtain ⟨on, s, ov, xs, p1, cap1, k, lf, n⟩ := st
  simp only [RL, rnC, H8.v, H8.l, u32s, List.map_cons, List.map_nil, List.cons_append, List.nil_append] at hb hl hll ⊢
  have hcl := fun w1 (hc : Chg [] w w1) => clone_ok p1 lf.length cap1 lf rfl (by omega) w1 (hl.chg hc (Off.nil _))
  repeat' (first | (apply R.is1; first | (apply R.isBin; (apply R.pure; exact rfl; (apply Ok1.eqlP; (iterate 5 exact rfl)))) | (apply R.isCall; (apply R.callE; (iterate 3 exact rfl); exact Ext.none _; intro w1 hw1; exact hcl w1 hw1.chg; rintro v Lo ⟨ov2, hov2, hsome, rfl, rfl⟩; rw [slV_eq hov2])) | (apply R.pure; exact rfl; first | (apply Ok1.move; exact rfl) | (apply Ok1.fieldAddr; (iterate 5 exact rfl)) | (apply Ok1.load; exact rfl; first | (apply Ld.blk1; exact rfl; exact rfl; assumption; (exact List.not_mem_nil); exact rfl) | (apply Ld.blkk; exact rfl; exact rfl; assumption; (exact List.not_mem_nil); exact rfl)) | (apply Ok1.assign; exact rfl) | (apply Ok1.nilCheck; exact rfl)) | (apply R.alloc; (iterate 3 exact rfl); intro)) | (apply R.is0; (apply R.store; (iterate 6 exact rfl); (focus ((repeat' (first | exact Upd.head | apply Upd.right)); done)); exact rfl)) | apply R.nil | (apply T.is; first | apply T.seq | apply T.region | apply T.skip | apply T.ret | (apply T.cond_f; exact rfl)))
  rename_i br
  (apply RetOk.t; exact rfl)
  refine ⟨_, ?_, br, ⟨on, s, ov2, lf, ovp ov2, ovc ov2 lf.length, 0, lf, n⟩, rfl, rfl, ⟨hov2, Sfx.refl _ _, rfl, ?_, hI.n, hI.left, hI.byt, hI.words, hI.off⟩⟩
  · simp only [RL, rnC, H8.v, H8.l, u32s, List.map_cons, List.map_nil, List.cons_append, List.nil_append]
    (focus ((repeat' (first | exact Ext.one _ _ | exact Ext.here _ _ | apply Keep.cons | apply Keep.last | apply Ext.app)); done))
  · simp only
    cases ov2 with
    | none => have : lf.length = 0 := hov2.2; simp [ovc, this]
    | some z => simp [ovc]
theorem rdown {ov : Ov} {xs : List Int} {e : Nat} (hov : OvOk 1 ov xs.length (u8s xs)) {w0 w : World} {S : List Nat} {L : Lst} (hw : Hp w0 S L w) (hin : ∀ x ∈ blkL e ov (u8s xs), x ∈ L) : RdSl w (ovp ov) u8V xs := by
  rw [← fl_u8] at hov hin
  exact RdSl.own' hw hin hov u8V_len
theorem RuI.rd {st : RS} {b : List Int} (hI : RuI st b) {w0 w : World} {S : List Nat} {L : Lst} (hw : Hp w0 S L w) (hin : ∀ x ∈ blkL 5 st.ov (u8s st.xs), x ∈ L) : RdSl w st.p u8V st.lf := by
  rw [hI.lf]
  exact hI.sfx.rd _ _ rfl (rdown hI.ov hw hin)
theorem rSum_ok (r : Nat) (st : RS) (b : List Int) (hI : RuI st b) (hbig : b.length ≤ 999999000) (w : World) (hb : w.heap[r]? = some (.cells ⟨st.s.v ++ rnC st⟩ 115 (0, 0))) (hl : RdSl w st.p u8V st.lf) :
    CallW Try.prog 64 [.pointer (some ⟨r, 0, none⟩)] w fun v _ => v = .agg ⟨u8s (shaI b)⟩ := by
  refine enterW (tb := tb) Try.func64 rfl Try.ntmps64 rfl ?_
  have hcopy := fun w1 (hc : Chg [] w w1) => rCopy_ok r st b hI (by omega) w1 (hc.heap hb List.not_mem_nil) (hl.chg hc (Off.nil _))
  repeat' (first | (apply R.is1; first | (apply R.isBin; (apply R.pure; exact rfl; (apply Ok1.eqlP; (iterate 5 exact rfl)))) | (apply R.isCall; (apply R.callE; (iterate 3 exact rfl); exact Ext.none _; intro w1 hw1; exact hcopy w1 hw1.chg; rintro v Lo ⟨r', st', rfl, rfl, hI'⟩)) | (apply R.pure; exact rfl; (apply Ok1.move; exact rfl)) | (apply R.alloc; (iterate 3 exact rfl); intro)) | apply R.nil | (apply T.is; first | apply T.seq | apply T.region | apply T.skip | (apply T.cond_f; exact rfl)))
  repeat' (first | (apply R.is1; first | (apply R.isCall; (apply R.callE (Li := RL r' st'); (iterate 3 exact rfl); (focus ((repeat' (exact Ext.here _ _)); done)); intro w1 hw1; exact rAdd_ok r' st' b hI' none 0 0 [] rfl (by intro y hy; cases hy) (by rw [cat_nil, List.append_nil]; omega) (by decide) w1 (.inl rfl) (fun h => absurd rfl h) (by intro y hy; cases hy); rintro v Lo ⟨st2, rfl, rfl, hI2, hon2⟩; rw [cat_nil, List.append_nil] at hI2)) | (apply R.pure; exact rfl; (apply Ok1.assign; exact rfl)) | (apply R.buildSlice; (iterate 12 exact rfl); intro)) | apply R.nil | (apply T.is; first | apply T.seq | apply T.region | apply T.block))
  rename_i bt b4
  have hl2 := left_len b
  rw [← hI2.left] at hl2
  have hIw := hI2.words hon2
  have hn0 := hI.n
  obtain ⟨on2, s2, ov2, xs2, p2, cap2, k2, lf2, n2⟩ := st2
  obtain ⟨on0, s0, ov0, xs0, p0, cap0, k0, lf0, n0⟩ := st
  simp only at hl2 hIw hn0 hon2
  obtain ⟨Z, hZ⟩ : ∃ Z, Z = (119 - b.length % 64) % 64 := ⟨_, rfl⟩
  simp only [rnC, H8.v, H8.l, u32s, List.map_cons, List.map_nil, List.cons_append, List.nil_append] at hb
  simp only [RL, rnC, H8.v, H8.l, u32s, List.map_cons, List.map_nil, List.cons_append, List.nil_append]
  apply T.loopK (α := Nat × Ov) (I := fun x => x.1 ≤ Z ∧ OvOk 1 x.2 (1 + x.1) (u8s (128 :: List.replicate x.1 0))) (σi := fun x => [(0, .pointer (some ⟨r, 0, none⟩)), (2, .pointer (some ⟨bt, 0, none⟩)), (3, .pointer (some ⟨r', 0, none⟩)), (4, slV x.2 (1 + x.1))])
    (Li := fun x => (r', .cells ⟨[.int .u32 s2.a, .int .u32 s2.b, .int .u32 s2.c, .int .u32 s2.d, .int .u32 s2.e, .int .u32 s2.f, .int .u32 s2.g, .int .u32 s2.h, .bool on2, .slice p2 lf2.length cap2, .int .i64 n2]⟩ 115 (0, 0)) :: (bt, .cells ⟨List.replicate 32 (.int .u8 0)⟩ 54 (0, 0)) :: (blkL 5 x.2 (u8s (128 :: List.replicate x.1 0)) ++ blkL 5 ov2 (u8s xs2))) (μ := fun x => Z - x.1) (i0 := (0, some (b4, 0, [])))
  · exact ⟨Nat.zero_le _, rfl, rfl⟩
  · exact ⟨rfl, rfl, rfl, rfl, trivial⟩
  · (focus ((repeat' (first | exact Ext.one _ _ | exact Ext.here _ _ | exact Ext.all _ | apply Keep.cons | apply Keep.app | apply Keep.last | apply Ext.cons | apply Ext.app)); done))
  · rintro ⟨j, ov⟩ ⟨hj, hov⟩
    simp only at hj hov ⊢
    rcases Nat.lt_or_ge j Z with hlt | hge
    · have hne : ((lf2.length : Int) + ((1 + j : Nat) : Int) + 8) % 64 ≠ 0 := by omega
      repeat' (first | (apply R.is1; first | (apply R.isBin; (apply R.pure; exact rfl; first | (apply Ok1.add64; exact rfl; exact rfl; omega; omega) | (apply Ok1.neq_t; exact rfl; exact rfl; omega) | (apply Ok1.remN; exact rfl; exact rfl; omega; omega))) | (apply R.isCall; first | (apply R.pure; exact rfl; apply Ok1.lenOv; (iterate 3 exact rfl); exact hov) | (apply R.append1; (iterate 12 exact rfl); (focus ((repeat' (first | exact OwnAt.mid hov | apply OwnAt.tail)); done)); exact At.head; exact rfl; exact rfl; omega; omega; intro b2 j2 k2 hj2) | (apply R.pure; exact rfl; (apply Ok1.lenS; (iterate 3 exact rfl)))) | (apply R.pure; exact rfl; first | (apply Ok1.move; exact rfl) | (apply Ok1.fieldAddr; (iterate 5 exact rfl)) | (apply Ok1.load; exact rfl; (apply Ld.own1; exact rfl; exact rfl; exact At.head; exact rfl)) | (apply Ok1.assign; exact rfl) | (apply Ok1.nilCheck; exact rfl)) | (apply R.buildSlice; (iterate 12 exact rfl); intro)) | apply R.nil | (apply T.is; first | apply T.seq | apply T.region | apply T.block | apply T.skip | (apply T.cond_t; exact rfl)))
      have hov' := hov.some (b := b2) (ys := [.int .u8 0]) (m := 1) rfl hj2
      have hu : u8s (128 :: List.replicate (j + 1) 0) = u8s (128 :: List.replicate j 0) ++ [.int .u8 0] := by rw [List.replicate_succ']; simp [u8s]
      refine ⟨(j + 1, some (b2, j2, k2)), ⟨by simp only; omega, by simp only [hu]; exact hov'⟩, by simp only; omega, ⟨rfl, rfl, rfl, rfl, trivial⟩, ?_⟩
      simp only [hu, blkL, List.cons_append, List.nil_append]
      (focus ((repeat' (first | exact Ext.one _ _ | exact Ext.all _ | apply Keep.cons | apply Keep.last | apply Ext.cons)); done))
    · have hjZ : j = Z := by omega
      subst j
      have hne : ((lf2.length : Int) + ((1 + Z : Nat) : Int) + 8) % 64 = 0 := by omega
      repeat' (first | (apply R.is1; first | (apply R.isBin; (apply R.pure; exact rfl; first | (apply Ok1.add64; exact rfl; exact rfl; omega; omega) | (apply Ok1.neq_f; exact rfl; exact rfl; omega) | (apply Ok1.remN; exact rfl; exact rfl; omega; omega))) | (apply R.isCall; first | (apply R.pure; exact rfl; apply Ok1.lenOv; (iterate 3 exact rfl); exact hov) | (apply R.pure; exact rfl; (apply Ok1.lenS; (iterate 3 exact rfl)))) | (apply R.pure; exact rfl; first | (apply Ok1.move; exact rfl) | (apply Ok1.fieldAddr; (iterate 5 exact rfl)) | (apply Ok1.load; exact rfl; (apply Ld.own1; exact rfl; exact rfl; exact At.head; exact rfl)) | (apply Ok1.assign; exact rfl) | (apply Ok1.nilCheck; exact rfl))) | apply R.nil | (apply T.is; first | apply T.seq | apply T.region | apply T.block | apply T.exit | (apply T.cond_f; exact rfl)))
      apply T.loopK (α := Nat × Ov) (I := fun x => x.1 ≤ 8 ∧ OvOk 1 x.2 (1 + Z + x.1) (u8s (128 :: (List.replicate Z 0 ++ (lenI (8 * (n0 : Int))).take x.1)))) (σi := fun x => [(0, .pointer (some ⟨r, 0, none⟩)), (2, .pointer (some ⟨bt, 0, none⟩)), (3, .pointer (some ⟨r', 0, none⟩)), (4, slV x.2 (1 + Z + x.1)), (5, .int .i64 (7 - (x.1 : Int)))])
        (Li := fun x => (r', .cells ⟨[.int .u32 s2.a, .int .u32 s2.b, .int .u32 s2.c, .int .u32 s2.d, .int .u32 s2.e, .int .u32 s2.f, .int .u32 s2.g, .int .u32 s2.h, .bool on2, .slice p2 lf2.length cap2, .int .i64 n2]⟩ 115 (0, 0)) :: (bt, .cells ⟨List.replicate 32 (.int .u8 0)⟩ 54 (0, 0)) :: (blkL 5 x.2 (u8s (128 :: (List.replicate Z 0 ++ (lenI (8 * (n0 : Int))).take x.1))) ++ blkL 5 ov2 (u8s xs2))) (μ := fun x => 8 - x.1) (i0 := (0, ov))
      · exact ⟨Nat.zero_le _, by simpa using hov⟩
      · exact ⟨rfl, rfl, rfl, rfl, rfl, trivial⟩
      · simp only [List.take_zero, List.append_nil]
        (focus ((repeat' (first | exact Ext.one _ _ | exact Ext.here _ _ | exact Ext.all _ | apply Keep.cons | apply Keep.app | apply Keep.last)); done))
      · clear hov hcopy hl
        rintro ⟨m, ov⟩ ⟨hm, hov⟩
        simp only at hm hov ⊢
        rcases Nat.lt_or_ge m 8 with hlt | hge
        · have hmz : m = 0 ∨ m = 1 ∨ m = 2 ∨ m = 3 ∨ m = 4 ∨ m = 5 ∨ m = 6 ∨ m = 7 := by omega
          have hu : u8s (128 :: (List.replicate Z 0 ++ (lenI (8 * (n0 : Int))).take (m + 1))) = u8s (128 :: (List.replicate Z 0 ++ (lenI (8 * (n0 : Int))).take m)) ++ [.int .u8 ((lenI (8 * (n0 : Int))).getD m 0)] := by
            rcases hmz with rfl | rfl | rfl | rfl | rfl | rfl | rfl | rfl <;> simp [lenI, u8s]
          have hpos : (0 : Int) ≤ n0 := by omega
          have hbg : (n0 : Int) ≤ 1000000000 := by omega
          obtain ⟨sh, hsh⟩ : ∃ sh : Int, sh = pw (8 * (7 - m)) := ⟨_, rfl⟩
          have hval : IntKind.u8.wrap ((n0 : Int) * 8 / sh) = (lenI (8 * (n0 : Int))).getD m 0 := by
            rw [u8_mod, Int.mul_comm]
            subst hsh
            rcases hmz with rfl | rfl | rfl | rfl | rfl | rfl | rfl | rfl <;> first | rfl | (simp [lenI, pw])
          have hj8 : (8 * (7 - (m : Int))).toNat = 8 * (7 - m) := by omega
          have hsh2 : pw (8 * (7 - (m : Int))).toNat = sh := by rw [hj8]; exact hsh.symm
          have hb64 : (8 * (7 - (m : Int))).toNat ≤ IntKind.u64.bits := by rw [hj8]; show 8 * (7 - m) ≤ 64; omega
          clear hsh
          repeat' (first | (apply R.is1; first | (apply R.isBin; (apply R.pure; exact rfl; first | (apply Ok1.mulU; exact rfl; exact rfl; omega; omega) | (apply Ok1.shr; exact rfl; exact rfl; omega; exact hb64; exact hsh2) | (apply Ok1.sub64; exact rfl; exact rfl; omega; omega) | (apply Ok1.geq_t; exact rfl; exact rfl; omega) | (apply Ok1.mul64; exact rfl; exact rfl; omega; omega))) | (apply R.isCall; (apply R.append1; (iterate 12 exact rfl); (focus ((repeat' (first | exact OwnAt.mid hov | apply OwnAt.tail)); done)); exact At.head; exact rfl; exact rfl; omega; omega; intro b2 j2 k2 hj2)) | (apply R.pure; exact rfl; first | (apply Ok1.convU64; (iterate 5 exact rfl); omega; omega) | (apply Ok1.move; exact rfl) | (apply Ok1.fieldAddr; (iterate 5 exact rfl)) | (apply Ok1.load; exact rfl; (apply Ld.blk1; exact rfl; exact rfl; assumption; (exact List.not_mem_nil); exact rfl)) | (apply Ok1.assign; exact rfl) | (apply Ok1.nilCheck; exact rfl) | (apply Ok1.conv; (iterate 5 exact rfl))) | (apply R.buildSlice; (iterate 12 exact rfl); intro)) | apply R.nil | (apply T.is; first | apply T.seq | apply T.region | apply T.block | apply T.skip | (apply T.cond_t; exact rfl)))
          have hov' := hov.some (b := b2) (ys := [.int .u8 (IntKind.u8.wrap ((n0 : Int) * 8 / sh))]) (m := 1) rfl hj2
          rw [hval, ← hu] at hov'
          rw [hval, ← hu]
          refine ⟨(m + 1, some (b2, j2, k2)), ⟨by simp only; omega, hov'⟩, by simp only; omega, ⟨rfl, rfl, rfl, rfl, ?_, trivial⟩, ?_⟩
          · rw [show (7 : Int) - ((m + 1 : Nat) : Int) = 7 - (m : Int) - 1 by omega]
            rfl
          · simp only [blkL, List.cons_append, List.nil_append]
            (focus ((repeat' (first | exact Ext.one _ _ | exact Ext.all _ | apply Keep.cons | apply Keep.last | apply Ext.cons)); done))
        · have hm8 : m = 8 := by omega
          subst hm8
          have hpad : (128 :: (List.replicate Z 0 ++ (lenI (8 * (n0 : Int))).take 8)) = padI b.length := by subst hZ; subst hn0; rfl
          rw [hpad] at hov ⊢
          have hpl : 1 + Z + 8 = (padI b.length).length := by have := hov.1; rw [u8s_len] at this; omega
          have hbp : Byt (padI b.length) := by
            intro y hy
            rcases List.mem_cons.1 hy with rfl | hy
            · omega
            · rcases List.mem_append.1 hy with hy | hy
              · rw [List.eq_of_mem_replicate hy]; omega
              · simp only [lenI, List.mem_cons, List.not_mem_nil, or_false] at hy
                rcases hy with rfl | rfl | rfl | rfl | rfl | rfl | rfl | rfl <;> omega
          have hpb : (padI b.length).length ≤ 80 := by omega
          rw [hpl] at hov ⊢
          cases ov with
          | none => exact absurd hov.2 (by omega)
          | some z =>
          obtain ⟨be, je, ke⟩ := z
          have hcat : cat [⟨some ⟨be, 0, none⟩, (padI b.length).length + je, padI b.length⟩] = padI b.length := by simp [cat]
          have hsl := sha_len b
          have hls : (u8s (shaI b)).length = 32 := by rw [u8s_len, hsl]
          have hone := u8s_one (shaI b)
          have hset : ∀ cs : List Value, cs.length = 32 → setE cs 0 (u8s (shaI b)) = some (u8s (shaI b)) := fun cs h => setE_all (by rw [hls, h])
          have hsub := subE_all hls
          have hsw := sha_words b
          generalize padI b.length = pd at *
          simp only [slV, blkL, List.cons_append, List.nil_append]
          repeat' (first | (apply R.is1; first | (apply R.isBin; (apply R.pure; exact rfl; (apply Ok1.geq_f; exact rfl; exact rfl; omega))) | (apply R.isCall; (apply R.callE (Li := RL r' ⟨on2, s2, ov2, xs2, p2, cap2, k2, lf2, n2⟩); (iterate 3 exact rfl); (focus (exact Ext.cons _ (Ext.two _ (Ext.one _ _) (Ext.cons _ (Ext.cons _ (Ext.all _)))))); intro w1 hw1; have h9 := rAdd_ok r' ⟨on2, s2, ov2, xs2, p2, cap2, k2, lf2, n2⟩ b hI2 (some ⟨_, 0, none⟩) 1 1 [⟨some ⟨be, 0, none⟩, pd.length + je, pd⟩] rfl (by rw [hcat]; exact hbp) (by rw [hcat, List.length_append]; omega) (by decide) w1 (RdSl.of (v := Pt.v) (rs := [⟨some ⟨be, 0, none⟩, pd.length + je, pd⟩]) (junk := []) hw1 (by exact At.head) rfl) (fun _ => Off.of (k := 0) hw1 (Ext.cons _ (Ext.two _ (Ext.one _ _) (Ext.cons _ (Ext.cons _ (Ext.all _))))) (by exact At.head)) (fun y hy => by rw [List.mem_singleton.1 hy]; exact ⟨RdSl.of (v := u8V) (rs := pd) (junk := ke) hw1 (by (focus ((repeat' (first | exact At.head | apply At.tail)); done))) (by rw [fl_u8]), fun _ => Off.of (k := 0) hw1 (Ext.cons _ (Ext.two _ (Ext.one _ _) (Ext.cons _ (Ext.cons _ (Ext.all _))))) (by (focus ((repeat' (first | exact At.head | apply At.tail)); done)))⟩); exact h9; rintro v Lo ⟨st3, rfl, rfl, hI3, hon3⟩)) | (apply R.pure; exact rfl; first | (apply Ok1.move; exact rfl) | (apply Ok1.fieldAddr; (iterate 5 exact rfl)) | (apply Ok1.nilCheck; exact rfl)) | (apply R.buildSlice; (iterate 12 exact rfl); intro)) | apply R.nil | (apply T.is; first | apply T.seq | apply T.region | apply T.exit | (apply T.cond_f; exact rfl)))
          rw [hcat] at hI3
          have hw3 := hI3.words hon3
          rw [← hw3] at hsw
          simp only [RL, List.cons_append]
          repeat' (first | (apply R.is1; (apply R.isCall; (apply R.callV; (iterate 3 exact rfl); intro w1 hw1; have h9 := out_ok r' st3.s (rnC st3) _ _ w1 (hw1.get _ _ (At.mem (by exact At.head))); rw [← hsw] at h9; exact h9))) | (apply R.is0; (apply R.store; (iterate 4 exact rfl); exact hls; exact hone; (focus ((repeat' (first | exact Upd.head | apply Upd.tail | apply Upd.right)); done)); exact hset _ rfl)) | apply R.nil | (apply T.is; apply T.ret))
          apply RetOk.c
          exact rfl
          apply Ld.ownk
          exact rfl
          exact rfl
          (focus ((repeat' (first | exact At.head | apply At.tail | apply At.right)); done))
          exact hsub
          rfl
theorem dSum_ok (pp : Option Addr) (m cap : Nat) (ps : List Pt) (hm : m = ps.length) (hbyt : Byt (cat ps)) (hbig : (cat ps).length ≤ 999999000) (hm2 : m ≤ 1000000000) (w : World) (hp : RdSl w pp Pt.v ps) (hall : ∀ x ∈ ps, RdSl w x.p u8V x.xs) :
    CallW Try.prog 90 [.slice pp m cap] w fun v _ => v = .agg ⟨u8s (shaI (cat ps))⟩ := by
  refine enterW (tb := tb) Try.func90 rfl Try.ntmps90 rfl ?_
  obtain ⟨st0, hst0⟩ : ∃ st0 : RS, st0 = ⟨false, ⟨0, 0, 0, 0, 0, 0, 0, 0⟩, none, [], none, 0, 0, [], 0⟩ := ⟨_, rfl⟩
  have hI0 : RuI st0 [] := by subst hst0; exact ⟨OvOk.start 1, Sfx.refl _ _, rfl, Nat.le_refl _, rfl, rfl, (fun x hx => by cases hx), (fun h => by cases h), fun _ => rfl⟩
  have hsl := sha_len (cat ps)
  have hls : (u8s (shaI (cat ps))).length = 32 := by rw [u8s_len, hsl]
  have hone := u8s_one (shaI (cat ps))
  have hset : ∀ cs : List Value, cs.length = 32 → setE cs 0 (u8s (shaI (cat ps))) = some (u8s (shaI (cat ps))) := fun cs h => setE_all (by rw [hls, h])
  have hsub := subE_all hls
  repeat' (first | (apply R.is1; first | (apply R.pure; exact rfl; first | (apply Ok1.move; exact rfl) | (apply Ok1.build; (iterate 5 exact rfl))) | (apply R.box; (iterate 3 exact rfl); intro) | (apply R.alloc; (iterate 3 exact rfl); intro)) | apply R.nil | (apply T.is; first | apply T.seq | apply T.region))
  rename_i bt br
  repeat' ((apply R.is1; (apply R.isCall; (apply R.callE (Li := RL br st0); (iterate 3 exact rfl); (focus (subst hst0; exact Ext.one _ _)); intro w1 hw1; exact rAdd_ok br st0 [] hI0 pp m cap ps hm hbyt (by simpa using by omega) hm2 w1 (hp.chg' hw1.chg (fun _ => Off.nil _)) (hp.old Pt.v_len (by decide) (fun _ => Off.nil _) hw1 (by subst hst0; exact Ext.one _ _)) (fun y hy => ⟨(hall y hy).chg' hw1.chg (fun _ => Off.nil _), (hall y hy).old u8V_len (by decide) (fun _ => Off.nil _) hw1 (by subst hst0; exact Ext.one _ _)⟩); rintro v Lo ⟨st1, rfl, rfl, hI1, hon1⟩; rw [List.nil_append] at hI1))))
  have hsum := fun w1 hb hl => rSum_ok br st1 (cat ps) hI1 hbig w1 hb hl
  simp only [RL, List.cons_append]
  repeat' (first | (apply R.is1; (apply R.isCall; (apply R.callV; (iterate 3 exact rfl); intro w1 hw1; exact hsum w1 (hw1.get _ _ (At.mem (by exact At.head))) (hI1.rd hw1 (Ext.mem (by (focus ((repeat' (first | exact Ext.here _ _ | apply Ext.cons)); done)))))))) | (apply R.is0; (apply R.store; (iterate 4 exact rfl); exact hls; exact hone; (focus ((repeat' (first | exact Upd.head | apply Upd.tail | apply Upd.right)); done)); exact hset _ rfl)) | apply R.nil | (apply T.is; apply T.ret))
  apply RetOk.c
  exact rfl
  apply Ld.ownk
  exact rfl
  exact rfl
  (focus ((repeat' (first | exact At.head | apply At.tail | apply At.right)); done))
  exact hsub
  rfl
end Go.Proofs.Ytligpachgcmkcaa
