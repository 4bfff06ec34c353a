/- The document's digest: the rounds; all of it. -/
import Derived.Test.YtligpachgcmkcaaRf1
set_option linter.unusedSimpArgs false
set_option linter.unusedVariables false
namespace Go.Proofs.Ytligpachgcmkcaa
open Go.RowKit Go.Shelf
set_option maxRecDepth 100000

theorem sum_loop6 (w : World) (bT bO bm bh bw bv M jm j : Nat) (km tv us : List Value) (bb W : List Int) (st : H8) (rs : Nat → H8)
    (hgk : ∀ i, i < 64 → tv[0 + i * 1]? = some (.int .u32 (kI.getD i 0))) (hgw : ∀ i, i < 64 → us[0 + i * 1]? = some (.int .u32 (W.getD i 0))) (hr0 : rs 0 = st) (hrs : ∀ i, rs (i + 1) = stepI (rs i) (kI.getD i 0) (W.getD i 0)) {Q : Post} {σ : Env} {L : Lst}
    (hs : Sub ([(2, .pointer (some ⟨bT, 0, none⟩)), (4, .pointer (some ⟨bO, 0, none⟩)), (5, .slice (some ⟨bm, 0, none⟩) (64 * M) (64 * M + jm)), (8, .pointer (some ⟨bh, 0, none⟩)), (9, .int .i64 (64 * (j : Int))), (10, .pointer (some ⟨bw, 0, none⟩)), (15, .pointer (some ⟨bv, 0, none⟩)), (16, .int .i64 0)] : Env) σ) (hL : Keep L [(bv, .cells ⟨st.v⟩ 111 (0, 0)), (bw, .cells ⟨us⟩ 136 (0, 0)), (bh, .cells ⟨st.v⟩ 111 (0, 0)), (bm, .cells ⟨u8s bb ++ km⟩ 5 (0, 0)), (bT, .cells ⟨tv⟩ 138 (0, 0)), (bO, .cells ⟨List.replicate 32 (.int .u8 0)⟩ 54 (0, 0))])
    (hQ : ∀ σ' L', Sub ([(2, .pointer (some ⟨bT, 0, none⟩)), (4, .pointer (some ⟨bO, 0, none⟩)), (5, .slice (some ⟨bm, 0, none⟩) (64 * M) (64 * M + jm)), (8, .pointer (some ⟨bh, 0, none⟩)), (9, .int .i64 (64 * (j : Int))), (10, .pointer (some ⟨bw, 0, none⟩)), (15, .pointer (some ⟨bv, 0, none⟩))] : Env) σ' → Keep L' [(bv, .cells ⟨(rs 64).v⟩ 111 (0, 0)), (bh, .cells ⟨st.v⟩ 111 (0, 0)), (bm, .cells ⟨u8s bb ++ km⟩ 5 (0, 0)), (bT, .cells ⟨tv⟩ 138 (0, 0)), (bO, .cells ⟨List.replicate 32 (.int .u8 0)⟩ 54 (0, 0))] → Q (.exit 10) σ' L') :
    T ⟨Try.prog, tb, 266, w, []⟩ (atL6 (codeOf Try.f97)) Q σ L := by
  apply T.loopK (α := Nat) (I := fun i => i ≤ 64) (σi := fun i => [(2, .pointer (some ⟨bT, 0, none⟩)), (4, .pointer (some ⟨bO, 0, none⟩)), (5, .slice (some ⟨bm, 0, none⟩) (64 * M) (64 * M + jm)), (8, .pointer (some ⟨bh, 0, none⟩)), (9, .int .i64 (64 * (j : Int))), (10, .pointer (some ⟨bw, 0, none⟩)), (15, .pointer (some ⟨bv, 0, none⟩)), (16, .int .i64 i)])
    (Li := fun i => [(bv, .cells ⟨(rs i).v⟩ 111 (0, 0)), (bw, .cells ⟨us⟩ 136 (0, 0)), (bh, .cells ⟨st.v⟩ 111 (0, 0)), (bm, .cells ⟨u8s bb ++ km⟩ 5 (0, 0)), (bT, .cells ⟨tv⟩ 138 (0, 0)), (bO, .cells ⟨List.replicate 32 (.int .u8 0)⟩ 54 (0, 0))]) (μ := fun i => 64 - i) (i0 := 0)
  · exact Nat.zero_le _
  · exact hs
  · rw [hr0]; exact hL
  · intro i hi
    rcases Nat.lt_or_ge i 64 with hlt3 | hge3
    · have g1 := hgk i hlt3
      have g2 := hgw i hlt3
      have hst := hrs i
      generalize kI.getD i 0 = ki at *
      generalize W.getD i 0 = wi at *
      generalize rs i = s1 at *
      simp only [H8.v, H8.l, u32s, List.map_cons, List.map_nil]
      repeat' (first | (apply R.is1; first | (apply R.isBin; (apply R.pure; exact rfl; first | (apply Ok1.orCh; exact rfl; exact rfl) | (apply Ok1.orMaj; exact rfl; exact rfl) | (apply Ok1.xorK; exact rfl; exact rfl) | (apply Ok1.andK; exact rfl; exact rfl) | (apply Ok1.orK; exact rfl; exact rfl) | (apply Ok1.add32; exact rfl; exact rfl) | (apply Ok1.add64; exact rfl; exact rfl; omega; omega) | (apply Ok1.lss_t; exact rfl; exact rfl; omega))) | (apply R.pure; exact rfl; first | (apply Ok1.move; exact rfl) | (apply Ok1.load; exact rfl; (apply Ld.own1; exact rfl; exact rfl; exact At.head; exact rfl)) | (apply Ok1.assign; exact rfl) | (apply Ok1.indexAddrA; (iterate 5 exact rfl); omega; omega) | (apply Ok1.buildA; (iterate 6 exact rfl)))) | (apply R.is0; (apply R.store; (iterate 6 exact rfl); exact Upd.head; exact setE_all rfl)) | apply R.nil | (apply T.is; first | (apply T.drawC (id := 29) [0] (by decide); ((apply A.take 0; exact rfl; exact rfl; kernel_rfl; kernel_rfl; kernel_rfl; (apply Ok1.indexAddrA; (iterate 5 exact rfl); omega; omega)) <;> (apply A.take 1; exact rfl; exact rfl; kernel_rfl; kernel_rfl; kernel_rfl; (apply Ok1.load; exact rfl; (apply Ld.own1; exact rfl; exact rfl; exact At.head; exact rfl))) <;> (apply A.call 2; exact rfl; exact rfl; kernel_rfl; kernel_rfl; kernel_rfl; exact rfl; exact rfl; (exact fun w1 _ => (right1_ok s1.e 6 64 67108864 (by decide) (by decide) rfl rfl).w w1)) <;> (apply A.take 3; exact rfl; exact rfl; kernel_rfl; kernel_rfl; kernel_rfl; (apply Ok1.indexAddrA; (iterate 5 exact rfl); omega; omega)) <;> (apply A.take 4; exact rfl; exact rfl; kernel_rfl; kernel_rfl; kernel_rfl; (apply Ok1.load; exact rfl; (apply Ld.own1; exact rfl; exact rfl; exact At.head; exact rfl))) <;> (apply A.call 5; exact rfl; exact rfl; kernel_rfl; kernel_rfl; kernel_rfl; exact rfl; exact rfl; (exact fun w1 _ => (right1_ok s1.e 11 2048 2097152 (by decide) (by decide) rfl rfl).w w1)) <;> (apply A.take 6; exact rfl; exact rfl; kernel_rfl; kernel_rfl; kernel_rfl; (apply Ok1.xorK; exact rfl; exact rfl)) <;> (apply A.take 7; exact rfl; exact rfl; kernel_rfl; kernel_rfl; kernel_rfl; (apply Ok1.indexAddrA; (iterate 5 exact rfl); omega; omega)) <;> (apply A.take 8; exact rfl; exact rfl; kernel_rfl; kernel_rfl; kernel_rfl; (apply Ok1.load; exact rfl; (apply Ld.own1; exact rfl; exact rfl; exact At.head; exact rfl))) <;> (apply A.call 9; exact rfl; exact rfl; kernel_rfl; kernel_rfl; kernel_rfl; exact rfl; exact rfl; (exact fun w1 _ => (right1_ok s1.e 25 33554432 128 (by decide) (by decide) rfl rfl).w w1)) <;> (apply A.take 10; exact rfl; exact rfl; kernel_rfl; kernel_rfl; kernel_rfl; (apply Ok1.xorK; exact rfl; exact rfl)) <;> (apply A.take 11; exact rfl; exact rfl; kernel_rfl; kernel_rfl; kernel_rfl; (apply Ok1.assign; exact rfl)) <;> (apply A.done; kernel_rfl))) | (apply T.drawC (id := 31) [0,1,4] (by decide); ((apply A.take 0; exact rfl; exact rfl; kernel_rfl; kernel_rfl; kernel_rfl; (apply Ok1.indexAddrA; (iterate 5 exact rfl); omega; omega)) <;> (apply A.take 1; exact rfl; exact rfl; kernel_rfl; kernel_rfl; kernel_rfl; (apply Ok1.load; exact rfl; (apply Ld.own1; exact rfl; exact rfl; exact At.head; exact rfl))) <;> (apply A.take 2; exact rfl; exact rfl; kernel_rfl; kernel_rfl; kernel_rfl; (apply Ok1.move; exact rfl)) <;> (apply A.take 3; exact rfl; exact rfl; kernel_rfl; kernel_rfl; kernel_rfl; (apply Ok1.add32; exact rfl; exact rfl)) <;> (apply A.take 4; exact rfl; exact rfl; kernel_rfl; kernel_rfl; kernel_rfl; (apply Ok1.move; exact rfl)) <;> (apply A.take 5; exact rfl; exact rfl; kernel_rfl; kernel_rfl; kernel_rfl; (apply Ok1.add32; exact rfl; exact rfl)) <;> (apply A.take 6; exact rfl; exact rfl; kernel_rfl; kernel_rfl; kernel_rfl; (apply Ok1.move; exact rfl)) <;> (apply A.take 7; exact rfl; exact rfl; kernel_rfl; kernel_rfl; kernel_rfl; (apply Ok1.fieldAddr; (iterate 5 exact rfl))) <;> (apply A.take 8; exact rfl; exact rfl; kernel_rfl; kernel_rfl; kernel_rfl; (apply Ok1.indexAddrA; (iterate 5 exact rfl); omega; omega)) <;> (apply A.take 9; exact rfl; exact rfl; kernel_rfl; kernel_rfl; kernel_rfl; (apply Ok1.load; exact rfl; apply Ld.own1; exact rfl; exact rfl; (focus ((repeat' (first | exact At.head | apply At.tail)); done)); exact g1)) <;> (apply A.take 10; exact rfl; exact rfl; kernel_rfl; kernel_rfl; kernel_rfl; (apply Ok1.add32; exact rfl; exact rfl)) <;> (apply A.take 11; exact rfl; exact rfl; kernel_rfl; kernel_rfl; kernel_rfl; (apply Ok1.move; exact rfl)) <;> (apply A.take 12; exact rfl; exact rfl; kernel_rfl; kernel_rfl; kernel_rfl; (apply Ok1.indexAddrA; (iterate 5 exact rfl); omega; omega)) <;> (apply A.take 13; exact rfl; exact rfl; kernel_rfl; kernel_rfl; kernel_rfl; (apply Ok1.load; exact rfl; apply Ld.own1; exact rfl; exact rfl; (focus ((repeat' (first | exact At.head | apply At.tail)); done)); exact g2)) <;> (apply A.take 14; exact rfl; exact rfl; kernel_rfl; kernel_rfl; kernel_rfl; (apply Ok1.add32; exact rfl; exact rfl)) <;> (apply A.take 15; exact rfl; exact rfl; kernel_rfl; kernel_rfl; kernel_rfl; (apply Ok1.assign; exact rfl)) <;> (apply A.done; kernel_rfl))) | (apply T.drawC (id := 32) [0] (by decide); ((apply A.take 0; exact rfl; exact rfl; kernel_rfl; kernel_rfl; kernel_rfl; (apply Ok1.indexAddrA; (iterate 5 exact rfl); omega; omega)) <;> (apply A.take 1; exact rfl; exact rfl; kernel_rfl; kernel_rfl; kernel_rfl; (apply Ok1.load; exact rfl; (apply Ld.own1; exact rfl; exact rfl; exact At.head; exact rfl))) <;> (apply A.call 2; exact rfl; exact rfl; kernel_rfl; kernel_rfl; kernel_rfl; exact rfl; exact rfl; (exact fun w1 _ => (right1_ok s1.a 2 4 1073741824 (by decide) (by decide) rfl rfl).w w1)) <;> (apply A.take 3; exact rfl; exact rfl; kernel_rfl; kernel_rfl; kernel_rfl; (apply Ok1.indexAddrA; (iterate 5 exact rfl); omega; omega)) <;> (apply A.take 4; exact rfl; exact rfl; kernel_rfl; kernel_rfl; kernel_rfl; (apply Ok1.load; exact rfl; (apply Ld.own1; exact rfl; exact rfl; exact At.head; exact rfl))) <;> (apply A.call 5; exact rfl; exact rfl; kernel_rfl; kernel_rfl; kernel_rfl; exact rfl; exact rfl; (exact fun w1 _ => (right1_ok s1.a 13 8192 524288 (by decide) (by decide) rfl rfl).w w1)) <;> (apply A.take 6; exact rfl; exact rfl; kernel_rfl; kernel_rfl; kernel_rfl; (apply Ok1.xorK; exact rfl; exact rfl)) <;> (apply A.take 7; exact rfl; exact rfl; kernel_rfl; kernel_rfl; kernel_rfl; (apply Ok1.indexAddrA; (iterate 5 exact rfl); omega; omega)) <;> (apply A.take 8; exact rfl; exact rfl; kernel_rfl; kernel_rfl; kernel_rfl; (apply Ok1.load; exact rfl; (apply Ld.own1; exact rfl; exact rfl; exact At.head; exact rfl))) <;> (apply A.call 9; exact rfl; exact rfl; kernel_rfl; kernel_rfl; kernel_rfl; exact rfl; exact rfl; (exact fun w1 _ => (right1_ok s1.a 22 4194304 1024 (by decide) (by decide) rfl rfl).w w1)) <;> (apply A.take 10; exact rfl; exact rfl; kernel_rfl; kernel_rfl; kernel_rfl; (apply Ok1.xorK; exact rfl; exact rfl)) <;> (apply A.take 11; exact rfl; exact rfl; kernel_rfl; kernel_rfl; kernel_rfl; (apply Ok1.assign; exact rfl)) <;> (apply A.done; kernel_rfl))) | apply T.seq | apply T.region | apply T.block | apply T.skip | (apply T.cond_t; exact rfl)))
      refine ⟨i + 1, by omega, by omega, ⟨rfl, rfl, rfl, rfl, rfl, rfl, rfl, rfl, trivial⟩, ?_⟩
      rw [hst]
      (focus ((repeat' (first | exact Keep.nil _ | exact Ext.one _ _ | apply Keep.cons)); done))
    · have him : i = 64 := by omega
      subst him
      generalize rs 64 = t at *
      repeat' (first | (apply R.is1; first | (apply R.isBin; (apply R.pure; exact rfl; (apply Ok1.lss_f; exact rfl; exact rfl; omega))) | (apply R.pure; exact rfl; (apply Ok1.move; exact rfl))) | apply R.nil | (apply T.is; first | apply T.seq | apply T.region | apply T.exit | (apply T.cond_f; exact rfl)))
      exact hQ _ _ ⟨rfl, rfl, rfl, rfl, rfl, rfl, rfl, trivial⟩ (by (focus ((repeat' (first | exact Keep.nil _ | exact Ext.one _ _ | apply Keep.cons | apply Ext.cons)); done)))
theorem sum_loop8 (w : World) (bO bh bo : Nat) (st : H8) {Q : Post} {σ : Env} {L : Lst}
    (hs : Sub ([(4, .pointer (some ⟨bO, 0, none⟩)), (8, .pointer (some ⟨bh, 0, none⟩)), (24, .pointer (some ⟨bo, 0, none⟩)), (25, .int .i64 0)] : Env) σ) (hL : Keep L [(bo, .cells ⟨List.replicate 32 (.int .u8 0)⟩ 54 (0, 0)), (bh, .cells ⟨st.v⟩ 111 (0, 0)), (bO, .cells ⟨List.replicate 32 (.int .u8 0)⟩ 54 (0, 0))])
    (hQ : ∀ σ' L', Sub ([(4, .pointer (some ⟨bO, 0, none⟩)), (24, .pointer (some ⟨bo, 0, none⟩))] : Env) σ' → Keep L' [(bo, .cells ⟨u8s (outI st)⟩ 54 (0, 0)), (bO, .cells ⟨List.replicate 32 (.int .u8 0)⟩ 54 (0, 0))] → Q (.exit 14) σ' L') :
    T ⟨Try.prog, tb, 266, w, []⟩ (atL8 (codeOf Try.f97)) Q σ L := by
  refine T.weakK ?_ hL hs
  simp only [H8.v, H8.l, u32s, List.map_cons, List.map_nil]
  repeat' (first | (apply R.is1; first | (apply R.isBin; (apply R.pure; exact rfl; first | (apply Ok1.add64; exact rfl; exact rfl; omega; omega) | (apply Ok1.sub64; exact rfl; exact rfl; omega; omega) | (apply Ok1.lss_t; exact rfl; exact rfl; omega) | (apply Ok1.lss_f; exact rfl; exact rfl; omega) | (apply Ok1.mul64; exact rfl; exact rfl; omega; omega) | (apply Ok1.shr; exact rfl; exact rfl; omega; exact Nat.le_of_ble_eq_true rfl; (first | exact pwE8 | exact pwE16 | exact pwE24 | exact rfl)) | (apply Ok1.quo64; exact rfl; exact rfl; omega; omega; omega) | (apply Ok1.remN; exact rfl; exact rfl; omega; omega))) | (apply R.pure; exact rfl; first | (apply Ok1.move; exact rfl) | (apply Ok1.load; exact rfl; (apply Ld.own1; exact rfl; exact rfl; (focus ((repeat' (first | exact At.head | apply At.tail)); done)); exact rfl)) | (apply Ok1.assign; exact rfl) | (apply Ok1.indexAddrA; (iterate 5 exact rfl); omega; omega) | (apply Ok1.conv; (iterate 5 exact rfl)))) | (apply R.is0; (apply R.store; (iterate 6 exact rfl); exact Upd.head; exact rfl)) | apply R.nil | (apply T.is; first | apply T.rounds 33 | apply T.seq | apply T.region | apply T.block | apply T.skip | apply T.exit | (apply T.cond_t; exact rfl) | (apply T.cond_f; exact rfl)))
  refine hQ _ _ ⟨rfl, rfl, trivial⟩ ?_
  have p0 : pw 0 = 1 := rfl
  simp only [Int.reduceAdd, Int.reduceMul, Int.reduceSub, Int.reduceMod, Int.reduceToNat, p0, u8_mod, Int.ediv_one, outI, H8.l, u8s, List.flatMap_cons, List.flatMap_nil, List.map_cons, List.map_nil, List.cons_append, List.nil_append, List.append_nil]
  (focus ((repeat' (first | exact Keep.nil _ | exact Ext.one _ _ | apply Keep.cons | apply Ext.cons)); done))
theorem sum_ok (p : Option Addr) (n cap : Nat) (b : List Int) (hn : n = b.length) (hbig : n ≤ 999999000) (hb : Byt b) (w : World) (hp : RdSl w p u8V b) :
    CallW Try.prog 97 [.agg ⟨tabV⟩, .slice p n cap] w fun v _ => v = .agg ⟨u8s (shaI b)⟩ := by
  subst hn
  have hgk : ∀ i, i < 64 → tabV[0 + i * 1]? = some (.int .u32 (kI.getD i 0)) := fun i hi => arr_get (l := kI) (zs := h0I.v) (by rw [kI_len]; exact hi)
  have hgh : subE tabV 64 8 = some h0I.v := rfl
  have htl : tabV.length = 72 := rfl
  have hto : tabV.all Value.oneCell' = true := rfl
  have hx0 : OvOk 1 (none : Ov) 0 [] := OvOk.start 1
  generalize tabV = tv at *
  refine enterW (tb := tb) Try.func97 rfl Try.ntmps97 rfl ?_
  repeat' (first | (apply R.is1; first | (apply R.buildSlice0; (iterate 4 exact rfl); intro b0) | (apply R.isCall; first | (apply R.appendRd (xs := b) (v := u8V) (sz := 1) (ov := some (b0, 0, [])) (n := 0) (old := []); (iterate 12 exact rfl); exact ⟨rfl, rfl⟩; (focus ((repeat' (exact Ext.one _ _)); done)); exact rfl; exact u8V_len; exact rfl; (intro w1 hw1; exact hp.chg hw1.chg (Off.nil _)); (focus (rw [fl_u8]; exact u8s_one b)); omega; intro ov1 hov1 hsome; rw [fl_u8, List.nil_append, Nat.zero_add] at hov1; rw [fl_u8, List.nil_append, Nat.zero_add]) | (apply R.append1; (iterate 12 exact rfl); (focus ((repeat' (first | exact OwnAt.mid hov1 | apply OwnAt.tail)); done)); exact At.head; exact rfl; exact rfl; omega; omega; intro b2 j2 k2 hj2)) | (apply R.pure; exact rfl; first | (apply Ok1.move; exact rfl) | (apply Ok1.assign; exact rfl)) | (apply R.box; (iterate 3 exact rfl); intro) | (apply R.alloc; (iterate 3 exact rfl); intro) | (apply R.buildSlice; (iterate 12 exact rfl); intro)) | apply R.nil | (apply T.is; first | apply T.seq | apply T.region | apply T.block))
  rename_i bT bO bS
  have hovm := hov1.some (b := b2) (ys := [.int .u8 128]) (m := 1) rfl hj2
  obtain ⟨Z, hZ⟩ : ∃ Z, Z = (119 - b.length % 64) % 64 := ⟨_, rfl⟩
  apply T.loopK (α := Nat × Ov) (I := fun x => x.1 ≤ Z ∧ OvOk 1 x.2 (b.length + 1 + x.1) (u8s (b ++ 128 :: List.replicate x.1 0))) (σi := fun x => [(1, .slice p b.length cap), (2, .pointer (some ⟨bT, 0, none⟩)), (4, .pointer (some ⟨bO, 0, none⟩)), (5, slV x.2 (b.length + 1 + x.1))])
    (Li := fun x => (bT, .cells ⟨tv⟩ 138 (0, 0)) :: (bO, .cells ⟨List.replicate 32 (.int .u8 0)⟩ 54 (0, 0)) :: blkL 5 x.2 (u8s (b ++ 128 :: List.replicate x.1 0))) (μ := fun x => Z - x.1) (i0 := (0, some (b2, j2, k2)))
  · refine ⟨Nat.zero_le _, ?_⟩
    simp only [List.replicate_zero, u8s_app]
    exact hovm
  · exact ⟨rfl, rfl, rfl, rfl, trivial⟩
  · simp only [blkL, List.replicate_zero, u8s_app]
    (focus ((repeat' (first | exact Keep.nil _ | exact Ext.one _ _ | apply Keep.cons | apply Ext.cons)); done))
  · clear hov1 hovm hj2
    rintro ⟨j, ov⟩ ⟨hj, hov⟩
    simp only at hj hov ⊢
    rcases Nat.lt_or_ge j Z with hlt | hge
    · have hne : ((b.length + 1 + j : Nat) : Int) % 64 ≠ 56 := by omega
      repeat' (first | (apply R.is1; first | (apply R.isBin; (apply R.pure; exact rfl; first | (apply Ok1.neq_t; exact rfl; exact rfl; omega) | (apply Ok1.remN; exact rfl; exact rfl; omega; omega))) | (apply R.isCall; first | (apply R.pure; exact rfl; apply Ok1.lenOv; (iterate 3 exact rfl); exact hov) | (apply R.append1; (iterate 12 exact rfl); (focus ((repeat' (first | exact OwnAt.base hov | apply OwnAt.tail)); done)); exact At.head; exact rfl; exact rfl; omega; omega; intro b2 j2 k2 hj2)) | (apply R.pure; exact rfl; first | (apply Ok1.move; exact rfl) | (apply Ok1.assign; exact rfl)) | (apply R.buildSlice; (iterate 12 exact rfl); intro)) | apply R.nil | (apply T.is; first | apply T.seq | apply T.region | apply T.block | apply T.skip | (apply T.cond_t; exact rfl)))
      have hov' := hov.some (b := b2) (ys := [.int .u8 0]) (m := 1) rfl hj2
      have hu : u8s (b ++ 128 :: List.replicate (j + 1) 0) = u8s (b ++ 128 :: List.replicate j 0) ++ [.int .u8 0] := by rw [List.replicate_succ']; simp [u8s]
      refine ⟨(j + 1, some (b2, j2, k2)), ⟨by simp only; omega, by simp only [hu]; exact hov'⟩, by simp only; omega, ⟨rfl, rfl, rfl, rfl, trivial⟩, ?_⟩
      simp only [hu, blkL, List.cons_append, List.nil_append]
      (focus ((repeat' (first | exact Keep.nil _ | exact Ext.one _ _ | apply Keep.cons | apply Ext.cons)); done))
    · have hjZ : j = Z := by omega
      subst j
      have hne : ((b.length + 1 + Z : Nat) : Int) % 64 = 56 := by omega
      repeat' (first | (apply R.is1; first | (apply R.isBin; (apply R.pure; exact rfl; first | (apply Ok1.mulU; exact rfl; exact rfl; omega; omega) | (apply Ok1.neq_f; exact rfl; exact rfl; omega) | (apply Ok1.remN; exact rfl; exact rfl; omega; omega))) | (apply R.isCall; first | (apply R.pure; exact rfl; apply Ok1.lenOv; (iterate 3 exact rfl); exact hov) | (apply R.pure; exact rfl; (apply Ok1.lenS; (iterate 3 exact rfl)))) | (apply R.pure; exact rfl; first | (apply Ok1.convU64; (iterate 5 exact rfl); omega; omega) | (apply Ok1.move; exact rfl) | (apply Ok1.assign; exact rfl))) | apply R.nil | (apply T.is; first | apply T.seq | apply T.region | apply T.block | apply T.exit | (apply T.cond_f; exact rfl)))
      apply T.loopK (α := Nat × Ov) (I := fun x => x.1 ≤ 8 ∧ OvOk 1 x.2 (b.length + 1 + Z + x.1) (u8s (b ++ 128 :: (List.replicate Z 0 ++ (lenI (8 * (b.length : Int))).take x.1)))) (σi := fun x => [(2, .pointer (some ⟨bT, 0, none⟩)), (4, .pointer (some ⟨bO, 0, none⟩)), (5, slV x.2 (b.length + 1 + Z + x.1)), (6, .int .u64 (8 * (b.length : Int))), (7, .int .i64 x.1)])
        (Li := fun x => (bT, .cells ⟨tv⟩ 138 (0, 0)) :: (bO, .cells ⟨List.replicate 32 (.int .u8 0)⟩ 54 (0, 0)) :: blkL 5 x.2 (u8s (b ++ 128 :: (List.replicate Z 0 ++ (lenI (8 * (b.length : Int))).take x.1)))) (μ := fun x => 8 - x.1) (i0 := (0, ov))
      · exact ⟨Nat.zero_le _, by simpa using hov⟩
      · exact ⟨rfl, rfl, rfl, rfl, rfl, trivial⟩
      · simp only [List.take_zero, List.append_nil]
        (focus ((repeat' (first | exact Ext.one _ _ | exact Ext.all _ | apply Keep.cons | apply Keep.last)); done))
      · clear hov
        rintro ⟨m, ov⟩ ⟨hm, hov⟩
        simp only at hm hov ⊢
        rcases Nat.lt_or_ge m 8 with hlt | hge
        · have hmz : m = 0 ∨ m = 1 ∨ m = 2 ∨ m = 3 ∨ m = 4 ∨ m = 5 ∨ m = 6 ∨ m = 7 := by omega
          have hu : u8s (b ++ 128 :: (List.replicate Z 0 ++ (lenI (8 * (b.length : Int))).take (m + 1))) = u8s (b ++ 128 :: (List.replicate Z 0 ++ (lenI (8 * (b.length : Int))).take m)) ++ [.int .u8 ((lenI (8 * (b.length : Int))).getD m 0)] := by
            rcases hmz with rfl | rfl | rfl | rfl | rfl | rfl | rfl | rfl <;> simp [lenI, u8s]
          obtain ⟨sh, hsh⟩ : ∃ sh : Int, sh = pw (8 * (7 - m)) := ⟨_, rfl⟩
          have hval : IntKind.u8.wrap (8 * (b.length : Int) / sh) = (lenI (8 * (b.length : Int))).getD m 0 := by
            rw [u8_mod]
            subst hsh
            rcases hmz with rfl | rfl | rfl | rfl | rfl | rfl | rfl | rfl <;> first | rfl | (simp [lenI, pw])
          have hj8 : (56 - 8 * (m : Int)).toNat = 8 * (7 - m) := by omega
          have hsh2 : pw (56 - 8 * (m : Int)).toNat = sh := by rw [hj8]; exact hsh.symm
          have hb64 : (56 - 8 * (m : Int)).toNat ≤ IntKind.u64.bits := by rw [hj8]; show 8 * (7 - m) ≤ 64; omega
          have hsh3 : IntKind.u64.wrap (1 * sh) = sh ∧ 0 < sh := by
            subst hsh
            rcases hmz with rfl | rfl | rfl | rfl | rfl | rfl | rfl | rfl <;> exact ⟨rfl, by decide⟩
          clear hsh
          repeat' (first | (apply R.is1; first | (apply R.isBin; (apply R.pure; exact rfl; first | (apply Ok1.shlE; exact rfl; exact rfl; omega; exact hb64; exact hsh2; exact hsh3.1) | (apply Ok1.quoU; exact rfl; exact rfl; omega; exact hsh3.2; omega) | (apply Ok1.add64; exact rfl; exact rfl; omega; omega) | (apply Ok1.sub64; exact rfl; exact rfl; omega; omega) | (apply Ok1.lss_t; exact rfl; exact rfl; omega) | (apply Ok1.mul64; exact rfl; exact rfl; omega; omega))) | (apply R.isCall; (apply R.append1; (iterate 12 exact rfl); (focus ((repeat' (first | exact OwnAt.base hov | apply OwnAt.tail)); done)); exact At.head; exact rfl; exact rfl; omega; omega; intro b2 j2 k2 hj2)) | (apply R.pure; exact rfl; first | (apply Ok1.move; exact rfl) | (apply Ok1.assign; exact rfl) | (apply Ok1.conv; (iterate 5 exact rfl))) | (apply R.buildSlice; (iterate 12 exact rfl); intro)) | apply R.nil | (apply T.is; first | apply T.seq | apply T.region | apply T.block | apply T.skip | (apply T.cond_t; exact rfl)))
          have hov' := hov.some (b := b2) (ys := [.int .u8 (IntKind.u8.wrap (8 * (b.length : Int) / sh))]) (m := 1) rfl hj2
          rw [hval, ← hu] at hov'
          rw [hval, ← hu]
          refine ⟨(m + 1, some (b2, j2, k2)), ⟨by simp only; omega, hov'⟩, by simp only; omega, ⟨rfl, rfl, rfl, rfl, rfl, trivial⟩, ?_⟩
          simp only [blkL, List.cons_append, List.nil_append]
          (focus ((repeat' (first | exact Keep.nil _ | exact Ext.one _ _ | apply Keep.cons | apply Ext.cons)); done))
        · have hm8 : m = 8 := by omega
          subst hm8
          have hpad : b ++ (128 :: (List.replicate Z 0 ++ (lenI (8 * (b.length : Int))).take 8)) = b ++ padI b.length := by subst hZ; rfl
          rw [hpad] at hov ⊢
          have hpl : b.length + 1 + Z + 8 = (b ++ padI b.length).length := by rw [List.length_append, pad_len]; omega
          have hbp : Byt (b ++ padI b.length) := hb.app (pad_byt _)
          have hpb : (b ++ padI b.length).length ≤ 999999100 := by omega
          have hmod : (b ++ padI b.length).length % 64 = 0 := by rw [List.length_append, pad_len]; omega
          rw [hpl] at hov ⊢
          obtain ⟨M, hM⟩ : ∃ M, M = (b ++ padI b.length).length / 64 := ⟨_, rfl⟩
          have hsha : shaI b = outI (allI kI M (b ++ padI b.length) h0I) := by rw [hM]; rfl
          rw [hsha]
          have hlen : (b ++ padI b.length).length = 64 * M := by omega
          rw [hlen] at hov ⊢
          generalize b ++ padI b.length = bb at *
          obtain ⟨bm, jm, km, rfl⟩ := ovsome hov (by omega)
          simp only [slV, blkL]
          repeat' (first | (apply R.is1; first | (apply R.isBin; (apply R.pure; exact rfl; (apply Ok1.lss_f; exact rfl; exact rfl; omega))) | (apply R.pure; exact rfl; first | (apply Ok1.load; exact rfl; apply Ld.ownk; exact rfl; exact rfl; exact At.head; exact hgh) | (apply Ok1.move; exact rfl) | (apply Ok1.fieldAddr; (iterate 5 exact rfl)) | (apply Ok1.assign; exact rfl)) | (apply R.alloc; (iterate 3 exact rfl); intro)) | (apply R.is0; (apply R.store; (iterate 6 exact rfl); exact Upd.head; exact setE_all rfl)) | apply R.nil | (apply T.is; first | apply T.seq | apply T.region | apply T.block | apply T.exit | (apply T.cond_f; exact rfl)))
          repeat' (fail)
          rename_i bh
          apply T.loopK (α := Nat) (I := fun j => j ≤ M) (σi := fun j => [(2, .pointer (some ⟨bT, 0, none⟩)), (4, .pointer (some ⟨bO, 0, none⟩)), (5, .slice (some ⟨bm, 0, none⟩) (64 * M) (64 * M + jm)), (8, .pointer (some ⟨bh, 0, none⟩)), (9, .int .i64 (64 * (j : Int)))])
            (Li := fun j => [(bh, .cells ⟨(allI kI j bb h0I).v⟩ 111 (0, 0)), (bm, .cells ⟨u8s bb ++ km⟩ 5 (0, 0)), (bT, .cells ⟨tv⟩ 138 (0, 0)), (bO, .cells ⟨List.replicate 32 (.int .u8 0)⟩ 54 (0, 0))]) (μ := fun j => M - j) (i0 := 0)
          · exact Nat.zero_le _
          · exact ⟨rfl, rfl, rfl, rfl, rfl, trivial⟩
          · (focus ((repeat' (first | exact Keep.nil _ | exact Ext.one _ _ | apply Keep.cons | apply Ext.cons)); done))
          · intro j hj
            have hsn := all_snoc kI j bb h0I
            generalize hst0 : allI kI j bb h0I = st at *
            rcases Nat.lt_or_ge j M with hlt | hge
            · repeat' (first | (apply R.is1; first | (apply R.isBin; (apply R.pure; exact rfl; (apply Ok1.lss_t; exact rfl; exact rfl; omega))) | (apply R.isCall; (apply R.pure; exact rfl; (apply Ok1.lenS; (iterate 3 exact rfl)))) | (apply R.pure; exact rfl; first | (apply Ok1.move; exact rfl) | (apply Ok1.assign; exact rfl) | (apply Ok1.buildA; (iterate 6 exact rfl))) | (apply R.alloc; (iterate 3 exact rfl); intro)) | (apply R.is0; (apply R.store; (iterate 6 exact rfl); exact Upd.head; exact rfl)) | apply R.nil | (apply T.is; first | apply T.seq | apply T.region | apply T.block | apply T.skip | (apply T.cond_t; exact rfl)))
              rename_i bw
              obtain ⟨bk, hbk⟩ : ∃ bk, bk = (bb.drop (64 * j)).take 64 := ⟨_, rfl⟩
              have hbl : bk.length = 64 := by rw [hbk, List.length_take, List.length_drop]; omega
              have hbb : Byt bk := by rw [hbk]; exact (hbp.drop _).take _
              rw [← hbk] at hsn
              have hgm : ∀ k, k < 64 → (u8s bb ++ km)[64 * j + k]? = some (.int .u8 (bk.getD k 0)) := by
                intro k hk
                rw [List.getElem?_append_left (by rw [u8s_len]; omega)]
                simp only [u8s, List.getElem?_map, hbk, List.getD_eq_getElem?_getD, List.getElem?_take, List.getElem?_drop, hk, if_true]
                rw [List.getElem?_eq_getElem (by omega)]
                rfl
              clear hbk
              have hM8 : M ≤ 100000000 := by omega
              repeat' ((apply T.is; (refine sum_loop4 w bT bO bm bh bw M jm j km tv bb bk st hlen hM8 hlt hbl hbb hgm ?_ ?_ ?_)))
              · exact ⟨rfl, rfl, rfl, rfl, rfl, rfl, rfl, trivial⟩
              · (focus ((repeat' (first | exact Keep.nil _ | exact Ext.one _ _ | apply Keep.cons)); done))
              · intro σ' L' hs hk
                refine T.weakK (σ' := [(2, .pointer (some ⟨bT, 0, none⟩)), (4, .pointer (some ⟨bO, 0, none⟩)), (5, .slice (some ⟨bm, 0, none⟩) (64 * M) (64 * M + jm)), (8, .pointer (some ⟨bh, 0, none⟩)), (9, .int .i64 (64 * (j : Int))), (10, .pointer (some ⟨bw, 0, none⟩))]) ?_ hk hs
                have hsl := sched_len bk 64
                have hgw : ∀ i, i < 64 → (u32s (schedI bk 64))[0 + i * 1]? = some (.int .u32 ((schedI bk 64).getD i 0)) := fun i hi => by have := arr_get (l := schedI bk 64) (zs := []) (k := i) (by omega); rwa [List.append_nil] at this
                have hmix : mixI kI bk st = addH st (roundsI kI (schedI bk 64) st 64) := rfl
                have hr0 : roundsI kI (schedI bk 64) st 0 = st := rfl
                have hrs : ∀ i, roundsI kI (schedI bk 64) st (i + 1) = stepI (roundsI kI (schedI bk 64) st i) (kI.getD i 0) ((schedI bk 64).getD i 0) := fun _ => rfl
                have hsv : subE st.v 0 8 = some st.v := subE_all rfl
                clear hgm
                generalize roundsI kI (schedI bk 64) st = rs at *
                generalize hW : u32s (schedI bk 64) = us at *
                repeat' (first | (apply R.is1; first | (apply R.pure; exact rfl; first | (apply Ok1.load; exact rfl; apply Ld.ownk; exact rfl; exact rfl; (focus ((repeat' (first | exact At.head | apply At.tail)); done)); exact hsv) | (apply Ok1.assign; exact rfl)) | (apply R.alloc; (iterate 3 exact rfl); intro)) | (apply R.is0; (apply R.store; (iterate 6 exact rfl); exact Upd.head; exact setE_all rfl)) | apply R.nil | (apply T.is; first | apply T.seq | apply T.region | apply T.block))
                rename_i bv
                repeat' ((apply T.is; (refine sum_loop6 w bT bO bm bh bw bv M jm j km tv us bb (schedI bk 64) st rs hgk hgw hr0 hrs ?_ ?_ ?_)))
                · exact ⟨rfl, rfl, rfl, rfl, rfl, rfl, rfl, rfl, trivial⟩
                · (focus ((repeat' (first | exact Keep.nil _ | exact Ext.one _ _ | apply Keep.cons)); done))
                · intro σ' L' hs hk
                  refine T.weakK (σ' := [(2, .pointer (some ⟨bT, 0, none⟩)), (4, .pointer (some ⟨bO, 0, none⟩)), (5, .slice (some ⟨bm, 0, none⟩) (64 * M) (64 * M + jm)), (8, .pointer (some ⟨bh, 0, none⟩)), (9, .int .i64 (64 * (j : Int))), (10, .pointer (some ⟨bw, 0, none⟩)), (15, .pointer (some ⟨bv, 0, none⟩))]) ?_ hk hs
                  rw [hmix] at hsn
                  generalize rs 64 = t at *
                  clear hgk hgw hrs
                  simp only [H8.v, H8.l, u32s, List.map_cons, List.map_nil]
                  repeat' (first | (apply R.is1; first | (apply R.isBin; (apply R.pure; exact rfl; first | (apply Ok1.add64; exact rfl; exact rfl; omega; omega) | (apply Ok1.lss_t; exact rfl; exact rfl; omega) | (apply Ok1.lss_f; exact rfl; exact rfl; omega))) | (apply R.pure; exact rfl; first | (apply Ok1.move; exact rfl) | (apply Ok1.assign; exact rfl))) | apply R.nil | (apply T.is; first | apply T.rounds 9 | (apply T.drawC (id := 39) [0] (by decide); ((apply A.take 0; exact rfl; exact rfl; kernel_rfl; kernel_rfl; kernel_rfl; (apply Ok1.move; exact rfl)) <;> (apply A.take 1; exact rfl; exact rfl; kernel_rfl; kernel_rfl; kernel_rfl; (apply Ok1.move; exact rfl)) <;> (apply A.take 2; exact rfl; exact rfl; kernel_rfl; kernel_rfl; kernel_rfl; (apply Ok1.indexAddrA; (iterate 5 exact rfl); omega; omega)) <;> (apply A.take 4; exact rfl; exact rfl; kernel_rfl; kernel_rfl; kernel_rfl; (apply Ok1.move; exact rfl)) <;> (apply A.take 5; exact rfl; exact rfl; kernel_rfl; kernel_rfl; kernel_rfl; (apply Ok1.indexAddrA; (iterate 5 exact rfl); omega; omega)) <;> (apply A.take 6; exact rfl; exact rfl; kernel_rfl; kernel_rfl; kernel_rfl; (apply Ok1.load; exact rfl; (apply Ld.own1; exact rfl; exact rfl; exact At.head; exact rfl))) <;> (apply A.one 3; kernel_rfl; exact rfl; (((apply R.pure; exact rfl; (apply Ok1.load; exact rfl; (apply Ld.own1; exact rfl; exact rfl; (focus ((repeat' (first | exact At.head | apply At.tail)); done)); exact rfl))))); apply R.nil; refine ⟨?_, ?_⟩; (focus ((repeat' (first | exact trivial | (refine ⟨?_, ?_⟩; exact At.head)))))) <;> (apply A.take 7; exact rfl; exact rfl; kernel_rfl; kernel_rfl; kernel_rfl; (apply Ok1.add32; exact rfl; exact rfl)) <;> (apply A.take 8; exact rfl; exact rfl; kernel_rfl; kernel_rfl; kernel_rfl; (apply Ok1.indexAddrA; (iterate 5 exact rfl); omega; omega)) <;> (apply A.one 9; kernel_rfl; exact rfl; (((apply R.store; (iterate 6 exact rfl); (focus ((repeat' (first | exact Upd.head | apply Upd.tail)); done)); exact rfl))); apply R.nil; refine ⟨?_, ?_⟩; (focus ((repeat' (first | exact trivial | (refine ⟨?_, ?_⟩; exact At.head)))))) <;> (apply A.done; kernel_rfl))) | apply T.seq | apply T.region | apply T.block | apply T.skip | apply T.exit | (apply T.cond_t; exact rfl) | (apply T.cond_f; exact rfl)))
                  refine ⟨j + 1, by omega, by omega, ⟨rfl, rfl, rfl, rfl, ?_, trivial⟩, ?_⟩
                  · rw [show (64 : Int) * ((j + 1 : Nat) : Int) = 64 * (j : Int) + 64 by omega]; rfl
                  · rw [hsn]; (focus ((repeat' (first | exact Keep.nil _ | exact Ext.one _ _ | apply Keep.cons | apply Ext.cons)); done))
            · have hjM : j = M := by omega
              subst hjM
              rw [hst0]
              clear hgk hgh hsn
              have hol : (u8s (outI st)).length = 32 := by rw [u8s_len, out_len]
              have hoo := u8s_one (outI st)
              repeat' (first | (apply R.is1; first | (apply R.isBin; (apply R.pure; exact rfl; (apply Ok1.lss_f; exact rfl; exact rfl; omega))) | (apply R.isCall; (apply R.pure; exact rfl; (apply Ok1.lenS; (iterate 3 exact rfl)))) | (apply R.pure; exact rfl; first | (apply Ok1.move; exact rfl) | (apply Ok1.assign; exact rfl) | (apply Ok1.buildA; (iterate 6 exact rfl))) | (apply R.alloc; (iterate 3 exact rfl); intro)) | (apply R.is0; (apply R.store; (iterate 6 exact rfl); exact Upd.head; exact rfl)) | apply R.nil | (apply T.is; first | apply T.seq | apply T.region | apply T.block | apply T.exit | (apply T.cond_f; exact rfl)))
              rename_i bo
              refine sum_loop8 w bO bh bo st ?_ ?_ ?_
              · exact ⟨rfl, rfl, rfl, rfl, trivial⟩
              · (focus ((repeat' (first | exact Keep.nil _ | exact Ext.one _ _ | apply Keep.cons | apply Ext.cons)); done))
              · intro σ' L' hs hk
                refine T.weakK (σ' := [(4, .pointer (some ⟨bO, 0, none⟩)), (24, .pointer (some ⟨bo, 0, none⟩))]) ?_ hk hs
                repeat' (first | (apply R.is1; (apply R.pure; exact rfl; (apply Ok1.load; exact rfl; apply Ld.ownk; exact rfl; exact rfl; exact At.head; exact subE_all hol))) | (apply R.is0; (apply R.store; (iterate 4 exact rfl); exact hol; exact hoo; (focus ((repeat' (first | exact Upd.head | apply Upd.tail)); done)); exact setE_all hol)) | apply R.nil | (apply T.is; first | apply T.seq | apply T.region | apply T.ret))
                apply RetOk.c
                exact rfl
                apply Ld.ownk
                exact rfl
                exact rfl
                (focus ((repeat' (first | exact At.head | apply At.tail)); done))
                exact subE_all hol
                rfl
end Go.Proofs.Ytligpachgcmkcaa
