/- Texts of the proof: Rf1, Rf2, Rf7, Rf8, Cl1, Rf9, Ss1, Ss2, Ss3. -/
import Derived.Test.YtidjnjlejhoalaaGreatL16gb3
set_option linter.unusedSimpArgs false
set_option linter.unusedVariables false
namespace Go.Proofs.YtidjnjlejhoalaaGreat
open Go.RowKit Go.Shelf
set_option maxRecDepth 100000
section
variable {X : Cx} {σ : Env} {L : Lst} {d : Option Nat} {ty ty2 t : TypeId} {pos : String} {af : Array Edge} {g : Option (Nat × Bool)} {x y : Operand} {k : IntKind} {i j : Int}
theorem Ok1.orCh {a b c : Int} (hx : ev σ x = some (.int .u32 (andI .u32 a b))) (hy : ev σ y = some (.int .u32 (andI .u32 (xorI .u32 a 4294967295) c))) : Ok1 X ⟨d, .binOp .or t x y ty2, ty, pos, af, g⟩ σ L (.int .u32 (chI a b c)) := by
  rw [← ch_eq]; exact Ok1.orK hx hy
theorem Ok1.orMaj {a b c : Int} (hx : ev σ x = some (.int .u32 (orI .u32 (andI .u32 a b) (andI .u32 a c)))) (hy : ev σ y = some (.int .u32 (andI .u32 b c))) : Ok1 X ⟨d, .binOp .or t x y ty2, ty, pos, af, g⟩ σ L (.int .u32 (majI a b c)) := by
  rw [← maj_eq]; exact Ok1.orK hx hy
theorem Ok1.shlE {k2 : IntKind} {m z : Int} (hx : ev σ x = some (.int k i)) (hy : ev σ y = some (.int k2 j)) (h : 0 ≤ j) (h2 : j.toNat ≤ k.bits) (hm : pw j.toNat = m) (hz : k.wrap (i * m) = z) : Ok1 X ⟨d, .binOp .shl t x y ty2, ty, pos, af, g⟩ σ L (.int k z) := by
  subst hz; exact Ok1.shl hx hy h h2 hm
end
theorem right1_ok (x n p q : Int) (h0 : 0 < n) (h1 : n < 32) (hp : pw n.toNat = p) (hq : pw (32 - n).toNat = q) : CallP Tryz.prog 263 [.int .u32 x, .int .i64 n] (.int .u32 (rotr x p q)) := by
  refine enterP (tb := tb) Tryz.func263 rfl Tryz.ntmps263 rfl fun w => ?_
  have hn : n.toNat ≤ IntKind.u32.bits := by show n.toNat ≤ 32; omega
  have hn2 : (32 - n).toNat ≤ IntKind.u32.bits := by show (32 - n).toNat ≤ 32; omega
  repeat' (first | (apply R.is1; (apply R.pure; exact rfl; (apply Ok1.assign; exact rfl))) | apply R.nil | (apply T.is; first | (apply T.drawC (id := 1) [] (by decide); ((apply A.take 0; exact rfl; exact rfl; kernel_rfl; kernel_rfl; kernel_rfl; (apply Ok1.move; exact rfl)) <;> (apply A.take 1; exact rfl; exact rfl; kernel_rfl; kernel_rfl; kernel_rfl; (apply Ok1.move; exact rfl)) <;> (apply A.take 2; exact rfl; exact rfl; kernel_rfl; kernel_rfl; kernel_rfl; (apply Ok1.shr; exact rfl; exact rfl; omega; exact hn; exact hp)) <;> (apply A.take 3; exact rfl; exact rfl; kernel_rfl; kernel_rfl; kernel_rfl; (apply Ok1.move; exact rfl)) <;> (apply A.take 4; exact rfl; exact rfl; kernel_rfl; kernel_rfl; kernel_rfl; (apply Ok1.move; exact rfl)) <;> (apply A.take 5; exact rfl; exact rfl; kernel_rfl; kernel_rfl; kernel_rfl; (apply Ok1.sub64; exact rfl; exact rfl; omega; omega)) <;> (apply A.take 6; exact rfl; exact rfl; kernel_rfl; kernel_rfl; kernel_rfl; (apply Ok1.shl; exact rfl; exact rfl; omega; exact hn2; exact hq)) <;> (apply A.take 7; exact rfl; exact rfl; kernel_rfl; kernel_rfl; kernel_rfl; (apply Ok1.orK; exact rfl; exact rfl)) <;> (apply A.take 8; exact rfl; exact rfl; kernel_rfl; kernel_rfl; kernel_rfl; (apply Ok1.assign; exact rfl)) <;> (apply A.done; kernel_rfl))) | apply T.seq | apply T.region | apply T.ret))
  (apply RetOk.t; exact rfl)
  unfold rotr
  rw [orI_comm]
  rfl
def tabV : List Value := u32s kI ++ h0I.v
theorem all_snoc (K : List Int) (i : Nat) (b : List Int) (s : H8) : allI K (i + 1) b s = mixI K ((b.drop (64 * i)).take 64) (allI K i b s) := by rw [allI_add K 1 i]; rfl
theorem pad_byt (n : Nat) : Byt (padI n) := by
  intro y hy
  rcases List.mem_cons.1 hy with rfl | hy
  · omega
  · rcases List.mem_append.1 hy with hy | hy
    · rw [List.eq_of_mem_replicate hy]; omega
    · simp only [lenI, List.mem_cons, List.not_mem_nil, or_false] at hy
      rcases hy with rfl | rfl | rfl | rfl | rfl | rfl | rfl | rfl <;> omega
theorem pad_len (n : Nat) : (padI n).length = 9 + (119 - n % 64) % 64 := by simp [padI, lenI]; omega
theorem w4 {a b c d : Int} (ha : 0 ≤ a ∧ a ≤ 255) (hb : 0 ≤ b ∧ b ≤ 255) (hc : 0 ≤ c ∧ c ≤ 255) (hd : 0 ≤ d ∧ d ≤ 255) : wr (wr (256 * wr (wr (256 * wr (wr (256 * wr (wr (256 * 0) + a)) + b)) + c)) + d) = wordI a b c d := by
  simp only [wr_mod, wordI]; omega
def cL : Code → Code | .seq a _ => a | c => c
def cR : Code → Code | .seq _ b => b | c => c
def cB : Code → Code | .block _ c => c | .loop c => c | c => c
def codeOf (f : Func) : Code := match f.body with | some c => c | none => .skip
def atY (c : Code) : Code := cB (cL (cR (cB (cB (cR (cL (cR (cR (cR (cR (cR (cR c))))))))))))
def atL4 (c : Code) : Code := cB (cR (cL (cR (atY c))))
def atL8 (c : Code) : Code := cB (cR (cL (cR (cR (cR (cR (cR (cR (cR (cR c))))))))))
def atL6 (c : Code) : Code := cB (cR (cL (cR (cR (cR (atY c))))))
theorem sum_loop4 (w : World) (bT bO bm bh bw M jm j : Nat) (km tv : List Value) (bb bk : List Int) (st : H8) (hlen : bb.length = 64 * M) (hbig : M ≤ 100000000) (hlt : j < M) (hbl : bk.length = 64) (hbb : Byt bk)
    (hgm : ∀ k, k < 64 → (u8s bb ++ km)[64 * j + k]? = some (.int .u8 (bk.getD k 0))) {Q : Post} {σ : Env} {L : Lst}
    (hs : Sub ([(2, .pointer (some ⟨bT, 0, none⟩)), (4, .pointer (some ⟨bO, 0, none⟩)), (5, .slice (some ⟨bm, 0, none⟩) (64 * M) (64 * M + jm)), (8, .pointer (some ⟨bh, 0, none⟩)), (9, .int .i64 (64 * (j : Int))), (10, .pointer (some ⟨bw, 0, none⟩)), (11, .int .i64 0)] : Env) σ) (hL : Keep L [(bw, .cells ⟨List.replicate 64 (.int .u32 0)⟩ 28 (0, 0)), (bh, .cells ⟨st.v⟩ 29 (0, 0)), (bm, .cells ⟨u8s bb ++ km⟩ 5 (0, 0)), (bT, .cells ⟨tv⟩ 31 (0, 0)), (bO, .cells ⟨List.replicate 32 (.int .u8 0)⟩ 128 (0, 0))])
    (hQ : ∀ σ' L', Sub ([(2, .pointer (some ⟨bT, 0, none⟩)), (4, .pointer (some ⟨bO, 0, none⟩)), (5, .slice (some ⟨bm, 0, none⟩) (64 * M) (64 * M + jm)), (8, .pointer (some ⟨bh, 0, none⟩)), (9, .int .i64 (64 * (j : Int))), (10, .pointer (some ⟨bw, 0, none⟩))] : Env) σ' → Keep L' [(bw, .cells ⟨u32s (schedI bk 64)⟩ 28 (0, 0)), (bh, .cells ⟨st.v⟩ 29 (0, 0)), (bm, .cells ⟨u8s bb ++ km⟩ 5 (0, 0)), (bT, .cells ⟨tv⟩ 31 (0, 0)), (bO, .cells ⟨List.replicate 32 (.int .u8 0)⟩ 128 (0, 0))] → Q (.exit 6) σ' L') :
    T ⟨Tryz.prog, tb, 266, w, []⟩ (atL4 (codeOf Tryz.f214)) Q σ L := by
  apply T.loopK (α := Nat) (I := fun i => i ≤ 64) (σi := fun i => [(2, .pointer (some ⟨bT, 0, none⟩)), (4, .pointer (some ⟨bO, 0, none⟩)), (5, .slice (some ⟨bm, 0, none⟩) (64 * M) (64 * M + jm)), (8, .pointer (some ⟨bh, 0, none⟩)), (9, .int .i64 (64 * (j : Int))), (10, .pointer (some ⟨bw, 0, none⟩)), (11, .int .i64 i)])
    (Li := fun i => [(bw, .cells ⟨u32s (schedI bk i) ++ List.replicate (64 - i) (.int .u32 0)⟩ 28 (0, 0)), (bh, .cells ⟨st.v⟩ 29 (0, 0)), (bm, .cells ⟨u8s bb ++ km⟩ 5 (0, 0)), (bT, .cells ⟨tv⟩ 31 (0, 0)), (bO, .cells ⟨List.replicate 32 (.int .u8 0)⟩ 128 (0, 0))]) (μ := fun i => 64 - i) (i0 := 0)
  · exact Nat.zero_le _
  · exact hs
  · exact hL
  · intro i hi
    have hsl := sched_len bk i
    have hnn : schedI bk (i + 1) = schedI bk i ++ [nextI bk (schedI bk i)] := rfl
    have hnx : nextI bk (schedI bk i) = nextI bk (schedI bk i) := rfl
    conv at hnx => rhs; unfold nextI
    rcases Nat.lt_or_ge i 64 with hlt2 | hge2
    · generalize schedI bk i = l at *
      obtain ⟨k, hk⟩ : ∃ k, 64 - i = k + 1 := ⟨63 - i, by omega⟩
      rw [hk]
      rcases Nat.lt_or_ge i 16 with h16 | h16
      · rw [if_pos (by omega), hsl] at hnx
        have hq := fun m (hm : m < 4) => hgm (4 * i + m) (by omega)
        have hr := fun m (hm : m < 4) => hbb (bk.getD (4 * i + m) 0) (by rw [List.getD_eq_getElem?_getD, List.getElem?_eq_getElem (by omega)]; exact List.getElem_mem _)
        have g0 : (u8s bb ++ km)[0 + (64 * (j : Int) + 4 * (i : Int) + 0).toNat * 1]? = some (.int .u8 (bk.getD (4 * i) 0)) := by rw [show 0 + (64 * (j : Int) + 4 * (i : Int) + 0).toNat * 1 = 64 * j + (4 * i + 0) by omega]; exact hq 0 (by decide)
        have g1 : (u8s bb ++ km)[0 + (64 * (j : Int) + 4 * (i : Int) + 1).toNat * 1]? = some (.int .u8 (bk.getD (4 * i + 1) 0)) := by rw [show 0 + (64 * (j : Int) + 4 * (i : Int) + 1).toNat * 1 = 64 * j + (4 * i + 1) by omega]; exact hq 1 (by decide)
        have g2 : (u8s bb ++ km)[0 + (64 * (j : Int) + 4 * (i : Int) + 2).toNat * 1]? = some (.int .u8 (bk.getD (4 * i + 2) 0)) := by rw [show 0 + (64 * (j : Int) + 4 * (i : Int) + 2).toNat * 1 = 64 * j + (4 * i + 2) by omega]; exact hq 2 (by decide)
        have g3 : (u8s bb ++ km)[0 + (64 * (j : Int) + 4 * (i : Int) + 3).toNat * 1]? = some (.int .u8 (bk.getD (4 * i + 3) 0)) := by rw [show 0 + (64 * (j : Int) + 4 * (i : Int) + 3).toNat * 1 = 64 * j + (4 * i + 3) by omega]; exact hq 3 (by decide)
        have r0 := hr 0 (by decide)
        have r1 := hr 1 (by decide)
        have r2 := hr 2 (by decide)
        have r3 := hr 3 (by decide)
        rw [Nat.add_zero] at r0
        have hw4 := w4 r0 r1 r2 r3
        clear hq hr hgm
        generalize bk.getD (4 * i) 0 = c0 at *
        generalize bk.getD (4 * i + 1) 0 = c1 at *
        generalize bk.getD (4 * i + 2) 0 = c2 at *
        generalize bk.getD (4 * i + 3) 0 = c3 at *
        have hgx : ∀ x : Int, (u32s l ++ .int .u32 x :: List.replicate k (.int .u32 0))[0 + (i : Int).toNat * 1]? = some (.int .u32 x) := by
          intro x
          rw [List.getElem?_append_right (by rw [u32s_len]; omega)]
          rw [show 0 + (i : Int).toNat * 1 - (u32s l).length = 0 by rw [u32s_len]; omega]
          rfl
        have hpx : ∀ x y : Int, setE (u32s l ++ .int .u32 x :: List.replicate k (.int .u32 0)) (0 + (i : Int).toNat * 1) [.int .u32 y] = some (u32s l ++ .int .u32 y :: List.replicate k (.int .u32 0)) := by
          intro x y
          have := setE_mid (u32s l) (vs := [.int .u32 y]) (junk := .int .u32 x :: List.replicate k (.int .u32 0)) (by simp)
          rw [show 0 + (i : Int).toNat * 1 = (u32s l).length by rw [u32s_len]; omega, this]
          simp
        rw [List.replicate_succ]
        repeat' (first | (apply R.is1; first | (apply R.isBin; (apply R.pure; exact rfl; first | (apply Ok1.add64; exact rfl; exact rfl; omega; omega) | (apply Ok1.lss_t; exact rfl; exact rfl; omega) | (apply Ok1.lss_f; exact rfl; exact rfl; omega))) | (apply R.pure; exact rfl; first | (apply Ok1.move; exact rfl) | (apply Ok1.assign; exact rfl))) | apply R.nil | (apply T.is; first | apply T.rounds 5 | (apply T.drawC (id := 21) [2] (by decide); ((apply A.take 0; exact rfl; exact rfl; kernel_rfl; kernel_rfl; kernel_rfl; (apply Ok1.move; exact rfl)) <;> (apply A.take 1; exact rfl; exact rfl; kernel_rfl; kernel_rfl; kernel_rfl; (apply Ok1.move; exact rfl)) <;> (apply A.take 2; exact rfl; exact rfl; kernel_rfl; kernel_rfl; kernel_rfl; (apply Ok1.indexAddrA; (iterate 5 exact rfl); omega; omega)) <;> (apply A.take 5; exact rfl; exact rfl; kernel_rfl; kernel_rfl; kernel_rfl; (apply Ok1.move; exact rfl)) <;> (apply A.take 6; exact rfl; exact rfl; kernel_rfl; kernel_rfl; kernel_rfl; (apply Ok1.move; exact rfl)) <;> (apply A.take 7; exact rfl; exact rfl; kernel_rfl; kernel_rfl; kernel_rfl; (apply Ok1.move; exact rfl)) <;> (apply A.take 8; exact rfl; exact rfl; kernel_rfl; kernel_rfl; kernel_rfl; (apply Ok1.mul64; exact rfl; exact rfl; omega; omega)) <;> (apply A.take 9; exact rfl; exact rfl; kernel_rfl; kernel_rfl; kernel_rfl; (apply Ok1.add64; exact rfl; exact rfl; omega; omega)) <;> (apply A.take 10; exact rfl; exact rfl; kernel_rfl; kernel_rfl; kernel_rfl; (apply Ok1.move; exact rfl)) <;> (apply A.take 11; exact rfl; exact rfl; kernel_rfl; kernel_rfl; kernel_rfl; (apply Ok1.add64; exact rfl; exact rfl; omega; omega)) <;> (apply A.take 12; exact rfl; exact rfl; kernel_rfl; kernel_rfl; kernel_rfl; (apply Ok1.indexAddr; (iterate 5 exact rfl); omega; omega)) <;> (apply A.take 13; exact rfl; exact rfl; kernel_rfl; kernel_rfl; kernel_rfl; (apply Ok1.load; exact rfl; apply Ld.own1; exact rfl; exact rfl; exact At.head; first | exact g0 | exact g1 | exact g2 | exact g3)) <;> (apply A.take 14; exact rfl; exact rfl; kernel_rfl; kernel_rfl; kernel_rfl; (apply Ok1.convU32; (iterate 5 exact rfl); omega; omega)) <;> (apply A.one 3; kernel_rfl; exact rfl; (((apply R.pure; exact rfl; (apply Ok1.load; exact rfl; apply Ld.own1; exact rfl; exact rfl; exact At.head; exact hgx _)))); apply R.nil; refine ⟨?_, ?_⟩; (focus ((repeat' (first | exact trivial | (refine ⟨?_, ?_⟩; (focus ((repeat' (first | exact At.head | apply At.tail)); done)))))))) <;> (apply A.take 4; exact rfl; exact rfl; kernel_rfl; kernel_rfl; kernel_rfl; (apply Ok1.mul32; exact rfl; exact rfl)) <;> (apply A.take 15; exact rfl; exact rfl; kernel_rfl; kernel_rfl; kernel_rfl; (apply Ok1.add32; exact rfl; exact rfl)) <;> (apply A.take 16; exact rfl; exact rfl; kernel_rfl; kernel_rfl; kernel_rfl; (apply Ok1.indexAddrA; (iterate 5 exact rfl); omega; omega)) <;> (apply A.one 17; kernel_rfl; exact rfl; (((apply R.store; (iterate 6 exact rfl); exact Upd.head; exact hpx _ _))); apply R.nil; refine ⟨?_, ?_⟩; (focus ((repeat' (first | exact trivial | (refine ⟨?_, ?_⟩; (focus ((repeat' (first | exact At.head | apply At.tail)); done)))))))) <;> (apply A.done; kernel_rfl))) | apply T.seq | apply T.region | apply T.block | apply T.skip | apply T.exit | (apply T.cond_t; exact rfl) | (apply T.cond_f; exact rfl)))
        refine ⟨i + 1, by omega, by omega, ⟨rfl, rfl, rfl, rfl, rfl, rfl, rfl, trivial⟩, ?_⟩
        have hfin : u32s (l ++ [nextI bk l]) ++ List.replicate k (.int .u32 0) = u32s l ++ .int .u32 (wr (wr (256 * wr (wr (256 * wr (wr (256 * wr (wr (256 * 0) + c0)) + c1)) + c2)) + c3)) :: List.replicate k (.int .u32 0) := by rw [hw4, hnx, u32s_app, List.append_assoc]; rfl
        rw [hnn, show 64 - (i + 1) = k by omega, hfin]
        (focus ((repeat' (first | exact Keep.nil _ | exact Ext.one _ _ | apply Keep.cons)); done))
      · rw [if_neg (by omega), hsl] at hnx
        have hput := fun x => arr_put l x (.int .u32 0) (k := k)
        rw [hsl] at hput
        have e15 : ((i : Int) - 15).toNat = i - 15 := by omega
        have e2 : ((i : Int) - 2).toNat = i - 2 := by omega
        have e16 : ((i : Int) - 16).toNat = i - 16 := by omega
        have e7 : ((i : Int) - 7).toNat = i - 7 := by omega
        have g15 : (u32s l ++ List.replicate (k + 1) (.int .u32 0))[0 + ((i : Int) - 15).toNat * 1]? = some (.int .u32 (l.getD (i - 15) 0)) := by rw [e15]; exact arr_get (by omega)
        have g2 : (u32s l ++ List.replicate (k + 1) (.int .u32 0))[0 + ((i : Int) - 2).toNat * 1]? = some (.int .u32 (l.getD (i - 2) 0)) := by rw [e2]; exact arr_get (by omega)
        have g16 : (u32s l ++ List.replicate (k + 1) (.int .u32 0))[0 + ((i : Int) - 16).toNat * 1]? = some (.int .u32 (l.getD (i - 16) 0)) := by rw [e16]; exact arr_get (by omega)
        have g7 : (u32s l ++ List.replicate (k + 1) (.int .u32 0))[0 + ((i : Int) - 7).toNat * 1]? = some (.int .u32 (l.getD (i - 7) 0)) := by rw [e7]; exact arr_get (by omega)
        generalize l.getD (i - 15) 0 = x15 at *
        generalize l.getD (i - 2) 0 = x2 at *
        generalize l.getD (i - 16) 0 = x16 at *
        generalize l.getD (i - 7) 0 = x7 at *
        repeat' (first | (apply R.is1; first | (apply R.isBin; (apply R.pure; exact rfl; first | (apply Ok1.add64; exact rfl; exact rfl; omega; omega) | (apply Ok1.lss_t; exact rfl; exact rfl; omega) | (apply Ok1.lss_f; exact rfl; exact rfl; omega))) | (apply R.pure; exact rfl; first | (apply Ok1.move; exact rfl) | (apply Ok1.assign; exact rfl))) | apply R.nil | (apply T.is; first | (apply T.drawC (id := 22) [0] (by decide); ((apply A.take 0; exact rfl; exact rfl; kernel_rfl; kernel_rfl; kernel_rfl; (apply Ok1.move; exact rfl)) <;> (apply A.take 1; exact rfl; exact rfl; kernel_rfl; kernel_rfl; kernel_rfl; (apply Ok1.sub64; exact rfl; exact rfl; omega; omega)) <;> (apply A.take 2; exact rfl; exact rfl; kernel_rfl; kernel_rfl; kernel_rfl; (apply Ok1.indexAddrA; (iterate 5 exact rfl); omega; omega)) <;> (apply A.take 3; exact rfl; exact rfl; kernel_rfl; kernel_rfl; kernel_rfl; (apply Ok1.load; exact rfl; apply Ld.own1; exact rfl; exact rfl; exact At.head; with_reducible (exact g15))) <;> (apply A.call 4; exact rfl; exact rfl; kernel_rfl; kernel_rfl; kernel_rfl; exact rfl; exact rfl; (exact fun w1 _ => (right1_ok x15 7 128 33554432 (by decide) (by decide) rfl rfl).w w1)) <;> (apply A.take 5; exact rfl; exact rfl; kernel_rfl; kernel_rfl; kernel_rfl; (apply Ok1.move; exact rfl)) <;> (apply A.take 6; exact rfl; exact rfl; kernel_rfl; kernel_rfl; kernel_rfl; (apply Ok1.sub64; exact rfl; exact rfl; omega; omega)) <;> (apply A.take 7; exact rfl; exact rfl; kernel_rfl; kernel_rfl; kernel_rfl; (apply Ok1.indexAddrA; (iterate 5 exact rfl); omega; omega)) <;> (apply A.take 8; exact rfl; exact rfl; kernel_rfl; kernel_rfl; kernel_rfl; (apply Ok1.load; exact rfl; apply Ld.own1; exact rfl; exact rfl; exact At.head; with_reducible (exact g15))) <;> (apply A.call 9; exact rfl; exact rfl; kernel_rfl; kernel_rfl; kernel_rfl; exact rfl; exact rfl; (exact fun w1 _ => (right1_ok x15 18 262144 16384 (by decide) (by decide) rfl rfl).w w1)) <;> (apply A.take 10; exact rfl; exact rfl; kernel_rfl; kernel_rfl; kernel_rfl; (apply Ok1.xorK; exact rfl; exact rfl)) <;> (apply A.take 11; exact rfl; exact rfl; kernel_rfl; kernel_rfl; kernel_rfl; (apply Ok1.move; exact rfl)) <;> (apply A.take 12; exact rfl; exact rfl; kernel_rfl; kernel_rfl; kernel_rfl; (apply Ok1.sub64; exact rfl; exact rfl; omega; omega)) <;> (apply A.take 13; exact rfl; exact rfl; kernel_rfl; kernel_rfl; kernel_rfl; (apply Ok1.indexAddrA; (iterate 5 exact rfl); omega; omega)) <;> (apply A.take 14; exact rfl; exact rfl; kernel_rfl; kernel_rfl; kernel_rfl; (apply Ok1.load; exact rfl; apply Ld.own1; exact rfl; exact rfl; exact At.head; with_reducible (exact g15))) <;> (apply A.take 15; exact rfl; exact rfl; kernel_rfl; kernel_rfl; kernel_rfl; (apply Ok1.shr; exact rfl; exact rfl; omega; exact Nat.le_of_ble_eq_true rfl; (exact pwE3))) <;> (apply A.take 16; exact rfl; exact rfl; kernel_rfl; kernel_rfl; kernel_rfl; (apply Ok1.xorK; exact rfl; exact rfl)) <;> (apply A.take 17; exact rfl; exact rfl; kernel_rfl; kernel_rfl; kernel_rfl; (apply Ok1.assign; exact rfl)) <;> (apply A.done; kernel_rfl))) | (apply T.drawC (id := 23) [0] (by decide); ((apply A.take 0; exact rfl; exact rfl; kernel_rfl; kernel_rfl; kernel_rfl; (apply Ok1.move; exact rfl)) <;> (apply A.take 1; exact rfl; exact rfl; kernel_rfl; kernel_rfl; kernel_rfl; (apply Ok1.sub64; exact rfl; exact rfl; omega; omega)) <;> (apply A.take 2; exact rfl; exact rfl; kernel_rfl; kernel_rfl; kernel_rfl; (apply Ok1.indexAddrA; (iterate 5 exact rfl); omega; omega)) <;> (apply A.take 3; exact rfl; exact rfl; kernel_rfl; kernel_rfl; kernel_rfl; (apply Ok1.load; exact rfl; apply Ld.own1; exact rfl; exact rfl; exact At.head; with_reducible (exact g2))) <;> (apply A.call 4; exact rfl; exact rfl; kernel_rfl; kernel_rfl; kernel_rfl; exact rfl; exact rfl; (exact fun w1 _ => (right1_ok x2 17 131072 32768 (by decide) (by decide) rfl rfl).w w1)) <;> (apply A.take 5; exact rfl; exact rfl; kernel_rfl; kernel_rfl; kernel_rfl; (apply Ok1.move; exact rfl)) <;> (apply A.take 6; exact rfl; exact rfl; kernel_rfl; kernel_rfl; kernel_rfl; (apply Ok1.sub64; exact rfl; exact rfl; omega; omega)) <;> (apply A.take 7; exact rfl; exact rfl; kernel_rfl; kernel_rfl; kernel_rfl; (apply Ok1.indexAddrA; (iterate 5 exact rfl); omega; omega)) <;> (apply A.take 8; exact rfl; exact rfl; kernel_rfl; kernel_rfl; kernel_rfl; (apply Ok1.load; exact rfl; apply Ld.own1; exact rfl; exact rfl; exact At.head; with_reducible (exact g2))) <;> (apply A.call 9; exact rfl; exact rfl; kernel_rfl; kernel_rfl; kernel_rfl; exact rfl; exact rfl; (exact fun w1 _ => (right1_ok x2 19 524288 8192 (by decide) (by decide) rfl rfl).w w1)) <;> (apply A.take 10; exact rfl; exact rfl; kernel_rfl; kernel_rfl; kernel_rfl; (apply Ok1.xorK; exact rfl; exact rfl)) <;> (apply A.take 11; exact rfl; exact rfl; kernel_rfl; kernel_rfl; kernel_rfl; (apply Ok1.move; exact rfl)) <;> (apply A.take 12; exact rfl; exact rfl; kernel_rfl; kernel_rfl; kernel_rfl; (apply Ok1.sub64; exact rfl; exact rfl; omega; omega)) <;> (apply A.take 13; exact rfl; exact rfl; kernel_rfl; kernel_rfl; kernel_rfl; (apply Ok1.indexAddrA; (iterate 5 exact rfl); omega; omega)) <;> (apply A.take 14; exact rfl; exact rfl; kernel_rfl; kernel_rfl; kernel_rfl; (apply Ok1.load; exact rfl; apply Ld.own1; exact rfl; exact rfl; exact At.head; with_reducible (exact g2))) <;> (apply A.take 15; exact rfl; exact rfl; kernel_rfl; kernel_rfl; kernel_rfl; (apply Ok1.shr; exact rfl; exact rfl; omega; exact Nat.le_of_ble_eq_true rfl; (exact rfl))) <;> (apply A.take 16; exact rfl; exact rfl; kernel_rfl; kernel_rfl; kernel_rfl; (apply Ok1.xorK; exact rfl; exact rfl)) <;> (apply A.take 17; exact rfl; exact rfl; kernel_rfl; kernel_rfl; kernel_rfl; (apply Ok1.assign; exact rfl)) <;> (apply A.done; kernel_rfl))) | (apply T.drawC (id := 24) [] (by decide); ((apply A.take 0; exact rfl; exact rfl; kernel_rfl; kernel_rfl; kernel_rfl; (apply Ok1.move; exact rfl)) <;> (apply A.take 1; exact rfl; exact rfl; kernel_rfl; kernel_rfl; kernel_rfl; (apply Ok1.move; exact rfl)) <;> (apply A.take 2; exact rfl; exact rfl; kernel_rfl; kernel_rfl; kernel_rfl; (apply Ok1.sub64; exact rfl; exact rfl; omega; omega)) <;> (apply A.take 3; exact rfl; exact rfl; kernel_rfl; kernel_rfl; kernel_rfl; (apply Ok1.indexAddrA; (iterate 5 exact rfl); omega; omega)) <;> (apply A.take 5; exact rfl; exact rfl; kernel_rfl; kernel_rfl; kernel_rfl; (apply Ok1.move; exact rfl)) <;> (apply A.take 7; exact rfl; exact rfl; kernel_rfl; kernel_rfl; kernel_rfl; (apply Ok1.move; exact rfl)) <;> (apply A.take 8; exact rfl; exact rfl; kernel_rfl; kernel_rfl; kernel_rfl; (apply Ok1.sub64; exact rfl; exact rfl; omega; omega)) <;> (apply A.take 9; exact rfl; exact rfl; kernel_rfl; kernel_rfl; kernel_rfl; (apply Ok1.indexAddrA; (iterate 5 exact rfl); omega; omega)) <;> (apply A.take 12; exact rfl; exact rfl; kernel_rfl; kernel_rfl; kernel_rfl; (apply Ok1.move; exact rfl)) <;> (apply A.two 4 10; kernel_rfl; exact rfl; exact rfl; rotate_left 1; (focus (((((apply R.pure; exact rfl; (apply Ok1.load; exact rfl; apply Ld.own1; exact rfl; exact rfl; exact At.head; with_reducible (exact g7))))); apply R.nil; refine ⟨?_, ?_⟩; (focus ((repeat' (exact trivial))))) <;> (apply A.one 4; kernel_rfl; exact rfl; (((apply R.pure; exact rfl; (apply Ok1.load; exact rfl; apply Ld.own1; exact rfl; exact rfl; exact At.head; with_reducible (exact g16))))); apply R.nil; refine ⟨?_, ?_⟩; (focus ((repeat' (exact trivial))))) <;> (apply A.take 6; exact rfl; exact rfl; kernel_rfl; kernel_rfl; kernel_rfl; (apply Ok1.add32; exact rfl; exact rfl)) <;> (apply A.take 11; exact rfl; exact rfl; kernel_rfl; kernel_rfl; kernel_rfl; (apply Ok1.add32; exact rfl; exact rfl)) <;> (apply A.take 13; exact rfl; exact rfl; kernel_rfl; kernel_rfl; kernel_rfl; (apply Ok1.add32; exact rfl; exact rfl)) <;> (apply A.take 14; exact rfl; exact rfl; kernel_rfl; kernel_rfl; kernel_rfl; (apply Ok1.indexAddrA; (iterate 5 exact rfl); omega; omega)) <;> (apply A.one 15; kernel_rfl; exact rfl; (((apply R.store; (iterate 6 exact rfl); exact Upd.head; exact hput _))); apply R.nil; refine ⟨?_, ?_⟩; (focus ((repeat' (exact trivial))))) <;> (apply A.done; kernel_rfl))); rotate_right 1; (focus (((((apply R.pure; exact rfl; (apply Ok1.load; exact rfl; apply Ld.own1; exact rfl; exact rfl; exact At.head; with_reducible (exact g16))))); apply R.nil; refine ⟨?_, ?_⟩; (focus ((repeat' (exact trivial))))) <;> (apply A.take 6; exact rfl; exact rfl; kernel_rfl; kernel_rfl; kernel_rfl; (apply Ok1.add32; exact rfl; exact rfl)) <;> (apply A.one 10; kernel_rfl; exact rfl; (((apply R.pure; exact rfl; (apply Ok1.load; exact rfl; apply Ld.own1; exact rfl; exact rfl; exact At.head; with_reducible (exact g7))))); apply R.nil; refine ⟨?_, ?_⟩; (focus ((repeat' (exact trivial))))) <;> (apply A.take 11; exact rfl; exact rfl; kernel_rfl; kernel_rfl; kernel_rfl; (apply Ok1.add32; exact rfl; exact rfl)) <;> (apply A.take 13; exact rfl; exact rfl; kernel_rfl; kernel_rfl; kernel_rfl; (apply Ok1.add32; exact rfl; exact rfl)) <;> (apply A.take 14; exact rfl; exact rfl; kernel_rfl; kernel_rfl; kernel_rfl; (apply Ok1.indexAddrA; (iterate 5 exact rfl); omega; omega)) <;> (apply A.one 15; kernel_rfl; exact rfl; (((apply R.store; (iterate 6 exact rfl); exact Upd.head; exact hput _))); apply R.nil; refine ⟨?_, ?_⟩; (focus ((repeat' (exact trivial))))) <;> (apply A.done; kernel_rfl)))))) | apply T.seq | apply T.region | apply T.block | apply T.skip | (apply T.cond_t; exact rfl) | (apply T.cond_f; exact rfl)))
        all_goals refine ⟨i + 1, by omega, by omega, ⟨rfl, rfl, rfl, rfl, rfl, rfl, rfl, trivial⟩, ?_⟩
        all_goals rw [hnn, hnx, show 64 - (i + 1) = k by omega]
        all_goals (focus ((repeat' (first | exact Keep.nil _ | exact Ext.one _ _ | apply Keep.cons)); done))
    · have him : i = 64 := by omega
      subst him
      rw [Nat.sub_self, List.replicate_zero, List.append_nil]
      repeat' (first | (apply R.is1; first | (apply R.isBin; (apply R.pure; exact rfl; (apply Ok1.lss_f; exact rfl; exact rfl; omega))) | (apply R.pure; exact rfl; (apply Ok1.move; exact rfl))) | apply R.nil | (apply T.is; first | apply T.seq | apply T.region | apply T.exit | (apply T.cond_f; exact rfl)))
      exact hQ _ _ ⟨rfl, rfl, rfl, rfl, rfl, rfl, trivial⟩ (by (focus ((repeat' (first | exact Keep.nil _ | exact Ext.one _ _ | apply Keep.cons)); done)))
end Go.Proofs.YtidjnjlejhoalaaGreat
set_option linter.unusedSimpArgs false
set_option linter.unusedVariables false
namespace Go.Proofs.YtidjnjlejhoalaaGreat
open Go.RowKit Go.Shelf
set_option maxRecDepth 100000
theorem sum_loop6 (w : World) (bT bO bm bh bw bv M jm j : Nat) (km tv us : List Value) (bb W : List Int) (st : H8) (rs : Nat → H8)
    (hgk : ∀ i, i < 64 → tv[0 + i * 1]? = some (.int .u32 (kI.getD i 0))) (hgw : ∀ i, i < 64 → us[0 + i * 1]? = some (.int .u32 (W.getD i 0))) (hr0 : rs 0 = st) (hrs : ∀ i, rs (i + 1) = stepI (rs i) (kI.getD i 0) (W.getD i 0)) {Q : Post} {σ : Env} {L : Lst}
    (hs : Sub ([(2, .pointer (some ⟨bT, 0, none⟩)), (4, .pointer (some ⟨bO, 0, none⟩)), (5, .slice (some ⟨bm, 0, none⟩) (64 * M) (64 * M + jm)), (8, .pointer (some ⟨bh, 0, none⟩)), (9, .int .i64 (64 * (j : Int))), (10, .pointer (some ⟨bw, 0, none⟩)), (15, .pointer (some ⟨bv, 0, none⟩)), (16, .int .i64 0)] : Env) σ) (hL : Keep L [(bv, .cells ⟨st.v⟩ 29 (0, 0)), (bw, .cells ⟨us⟩ 28 (0, 0)), (bh, .cells ⟨st.v⟩ 29 (0, 0)), (bm, .cells ⟨u8s bb ++ km⟩ 5 (0, 0)), (bT, .cells ⟨tv⟩ 31 (0, 0)), (bO, .cells ⟨List.replicate 32 (.int .u8 0)⟩ 128 (0, 0))])
    (hQ : ∀ σ' L', Sub ([(2, .pointer (some ⟨bT, 0, none⟩)), (4, .pointer (some ⟨bO, 0, none⟩)), (5, .slice (some ⟨bm, 0, none⟩) (64 * M) (64 * M + jm)), (8, .pointer (some ⟨bh, 0, none⟩)), (9, .int .i64 (64 * (j : Int))), (10, .pointer (some ⟨bw, 0, none⟩)), (15, .pointer (some ⟨bv, 0, none⟩))] : Env) σ' → Keep L' [(bv, .cells ⟨(rs 64).v⟩ 29 (0, 0)), (bh, .cells ⟨st.v⟩ 29 (0, 0)), (bm, .cells ⟨u8s bb ++ km⟩ 5 (0, 0)), (bT, .cells ⟨tv⟩ 31 (0, 0)), (bO, .cells ⟨List.replicate 32 (.int .u8 0)⟩ 128 (0, 0))] → Q (.exit 10) σ' L') :
    T ⟨Tryz.prog, tb, 266, w, []⟩ (atL6 (codeOf Tryz.f214)) Q σ L := by
  apply T.loopK (α := Nat) (I := fun i => i ≤ 64) (σi := fun i => [(2, .pointer (some ⟨bT, 0, none⟩)), (4, .pointer (some ⟨bO, 0, none⟩)), (5, .slice (some ⟨bm, 0, none⟩) (64 * M) (64 * M + jm)), (8, .pointer (some ⟨bh, 0, none⟩)), (9, .int .i64 (64 * (j : Int))), (10, .pointer (some ⟨bw, 0, none⟩)), (15, .pointer (some ⟨bv, 0, none⟩)), (16, .int .i64 i)])
    (Li := fun i => [(bv, .cells ⟨(rs i).v⟩ 29 (0, 0)), (bw, .cells ⟨us⟩ 28 (0, 0)), (bh, .cells ⟨st.v⟩ 29 (0, 0)), (bm, .cells ⟨u8s bb ++ km⟩ 5 (0, 0)), (bT, .cells ⟨tv⟩ 31 (0, 0)), (bO, .cells ⟨List.replicate 32 (.int .u8 0)⟩ 128 (0, 0))]) (μ := fun i => 64 - i) (i0 := 0)
  · exact Nat.zero_le _
  · exact hs
  · rw [hr0]; exact hL
  · intro i hi
    rcases Nat.lt_or_ge i 64 with hlt3 | hge3
    · have g1 := hgk i hlt3
      have g2 := hgw i hlt3
      have hst := hrs i
      generalize kI.getD i 0 = ki at *
      generalize W.getD i 0 = wi at *
      generalize rs i = s1 at *
      simp only [H8.v, H8.l, u32s, List.map_cons, List.map_nil]
      repeat' (first | (apply R.is1; first | (apply R.isBin; (apply R.pure; exact rfl; first | (apply Ok1.orCh; exact rfl; exact rfl) | (apply Ok1.orMaj; exact rfl; exact rfl) | (apply Ok1.xorK; exact rfl; exact rfl) | (apply Ok1.andK; exact rfl; exact rfl) | (apply Ok1.orK; exact rfl; exact rfl) | (apply Ok1.add32; exact rfl; exact rfl) | (apply Ok1.add64; exact rfl; exact rfl; omega; omega) | (apply Ok1.lss_t; exact rfl; exact rfl; omega))) | (apply R.pure; exact rfl; first | (apply Ok1.move; exact rfl) | (apply Ok1.load; exact rfl; (apply Ld.own1; exact rfl; exact rfl; exact At.head; exact rfl)) | (apply Ok1.assign; exact rfl) | (apply Ok1.indexAddrA; (iterate 5 exact rfl); omega; omega) | (apply Ok1.buildA; (iterate 6 exact rfl)))) | (apply R.is0; (apply R.store; (iterate 6 exact rfl); exact Upd.head; exact setE_all rfl)) | apply R.nil | (apply T.is; first | (apply T.drawC (id := 29) [0] (by decide); ((apply A.take 0; exact rfl; exact rfl; kernel_rfl; kernel_rfl; kernel_rfl; (apply Ok1.indexAddrA; (iterate 5 exact rfl); omega; omega)) <;> (apply A.take 1; exact rfl; exact rfl; kernel_rfl; kernel_rfl; kernel_rfl; (apply Ok1.load; exact rfl; (apply Ld.own1; exact rfl; exact rfl; exact At.head; exact rfl))) <;> (apply A.call 2; exact rfl; exact rfl; kernel_rfl; kernel_rfl; kernel_rfl; exact rfl; exact rfl; (exact fun w1 _ => (right1_ok s1.e 6 64 67108864 (by decide) (by decide) rfl rfl).w w1)) <;> (apply A.take 3; exact rfl; exact rfl; kernel_rfl; kernel_rfl; kernel_rfl; (apply Ok1.indexAddrA; (iterate 5 exact rfl); omega; omega)) <;> (apply A.take 4; exact rfl; exact rfl; kernel_rfl; kernel_rfl; kernel_rfl; (apply Ok1.load; exact rfl; (apply Ld.own1; exact rfl; exact rfl; exact At.head; exact rfl))) <;> (apply A.call 5; exact rfl; exact rfl; kernel_rfl; kernel_rfl; kernel_rfl; exact rfl; exact rfl; (exact fun w1 _ => (right1_ok s1.e 11 2048 2097152 (by decide) (by decide) rfl rfl).w w1)) <;> (apply A.take 6; exact rfl; exact rfl; kernel_rfl; kernel_rfl; kernel_rfl; (apply Ok1.xorK; exact rfl; exact rfl)) <;> (apply A.take 7; exact rfl; exact rfl; kernel_rfl; kernel_rfl; kernel_rfl; (apply Ok1.indexAddrA; (iterate 5 exact rfl); omega; omega)) <;> (apply A.take 8; exact rfl; exact rfl; kernel_rfl; kernel_rfl; kernel_rfl; (apply Ok1.load; exact rfl; (apply Ld.own1; exact rfl; exact rfl; exact At.head; exact rfl))) <;> (apply A.call 9; exact rfl; exact rfl; kernel_rfl; kernel_rfl; kernel_rfl; exact rfl; exact rfl; (exact fun w1 _ => (right1_ok s1.e 25 33554432 128 (by decide) (by decide) rfl rfl).w w1)) <;> (apply A.take 10; exact rfl; exact rfl; kernel_rfl; kernel_rfl; kernel_rfl; (apply Ok1.xorK; exact rfl; exact rfl)) <;> (apply A.take 11; exact rfl; exact rfl; kernel_rfl; kernel_rfl; kernel_rfl; (apply Ok1.assign; exact rfl)) <;> (apply A.done; kernel_rfl))) | (apply T.drawC (id := 31) [0,1,4] (by decide); ((apply A.take 0; exact rfl; exact rfl; kernel_rfl; kernel_rfl; kernel_rfl; (apply Ok1.indexAddrA; (iterate 5 exact rfl); omega; omega)) <;> (apply A.take 1; exact rfl; exact rfl; kernel_rfl; kernel_rfl; kernel_rfl; (apply Ok1.load; exact rfl; (apply Ld.own1; exact rfl; exact rfl; exact At.head; exact rfl))) <;> (apply A.take 2; exact rfl; exact rfl; kernel_rfl; kernel_rfl; kernel_rfl; (apply Ok1.move; exact rfl)) <;> (apply A.take 3; exact rfl; exact rfl; kernel_rfl; kernel_rfl; kernel_rfl; (apply Ok1.add32; exact rfl; exact rfl)) <;> (apply A.take 4; exact rfl; exact rfl; kernel_rfl; kernel_rfl; kernel_rfl; (apply Ok1.move; exact rfl)) <;> (apply A.take 5; exact rfl; exact rfl; kernel_rfl; kernel_rfl; kernel_rfl; (apply Ok1.add32; exact rfl; exact rfl)) <;> (apply A.take 6; exact rfl; exact rfl; kernel_rfl; kernel_rfl; kernel_rfl; (apply Ok1.move; exact rfl)) <;> (apply A.take 7; exact rfl; exact rfl; kernel_rfl; kernel_rfl; kernel_rfl; (apply Ok1.fieldAddr; (iterate 5 exact rfl))) <;> (apply A.take 8; exact rfl; exact rfl; kernel_rfl; kernel_rfl; kernel_rfl; (apply Ok1.indexAddrA; (iterate 5 exact rfl); omega; omega)) <;> (apply A.take 9; exact rfl; exact rfl; kernel_rfl; kernel_rfl; kernel_rfl; (apply Ok1.load; exact rfl; apply Ld.own1; exact rfl; exact rfl; (focus ((repeat' (first | exact At.head | apply At.tail)); done)); exact g1)) <;> (apply A.take 10; exact rfl; exact rfl; kernel_rfl; kernel_rfl; kernel_rfl; (apply Ok1.add32; exact rfl; exact rfl)) <;> (apply A.take 11; exact rfl; exact rfl; kernel_rfl; kernel_rfl; kernel_rfl; (apply Ok1.move; exact rfl)) <;> (apply A.take 12; exact rfl; exact rfl; kernel_rfl; kernel_rfl; kernel_rfl; (apply Ok1.indexAddrA; (iterate 5 exact rfl); omega; omega)) <;> (apply A.take 13; exact rfl; exact rfl; kernel_rfl; kernel_rfl; kernel_rfl; (apply Ok1.load; exact rfl; apply Ld.own1; exact rfl; exact rfl; (focus ((repeat' (first | exact At.head | apply At.tail)); done)); exact g2)) <;> (apply A.take 14; exact rfl; exact rfl; kernel_rfl; kernel_rfl; kernel_rfl; (apply Ok1.add32; exact rfl; exact rfl)) <;> (apply A.take 15; exact rfl; exact rfl; kernel_rfl; kernel_rfl; kernel_rfl; (apply Ok1.assign; exact rfl)) <;> (apply A.done; kernel_rfl))) | (apply T.drawC (id := 32) [0] (by decide); ((apply A.take 0; exact rfl; exact rfl; kernel_rfl; kernel_rfl; kernel_rfl; (apply Ok1.indexAddrA; (iterate 5 exact rfl); omega; omega)) <;> (apply A.take 1; exact rfl; exact rfl; kernel_rfl; kernel_rfl; kernel_rfl; (apply Ok1.load; exact rfl; (apply Ld.own1; exact rfl; exact rfl; exact At.head; exact rfl))) <;> (apply A.call 2; exact rfl; exact rfl; kernel_rfl; kernel_rfl; kernel_rfl; exact rfl; exact rfl; (exact fun w1 _ => (right1_ok s1.a 2 4 1073741824 (by decide) (by decide) rfl rfl).w w1)) <;> (apply A.take 3; exact rfl; exact rfl; kernel_rfl; kernel_rfl; kernel_rfl; (apply Ok1.indexAddrA; (iterate 5 exact rfl); omega; omega)) <;> (apply A.take 4; exact rfl; exact rfl; kernel_rfl; kernel_rfl; kernel_rfl; (apply Ok1.load; exact rfl; (apply Ld.own1; exact rfl; exact rfl; exact At.head; exact rfl))) <;> (apply A.call 5; exact rfl; exact rfl; kernel_rfl; kernel_rfl; kernel_rfl; exact rfl; exact rfl; (exact fun w1 _ => (right1_ok s1.a 13 8192 524288 (by decide) (by decide) rfl rfl).w w1)) <;> (apply A.take 6; exact rfl; exact rfl; kernel_rfl; kernel_rfl; kernel_rfl; (apply Ok1.xorK; exact rfl; exact rfl)) <;> (apply A.take 7; exact rfl; exact rfl; kernel_rfl; kernel_rfl; kernel_rfl; (apply Ok1.indexAddrA; (iterate 5 exact rfl); omega; omega)) <;> (apply A.take 8; exact rfl; exact rfl; kernel_rfl; kernel_rfl; kernel_rfl; (apply Ok1.load; exact rfl; (apply Ld.own1; exact rfl; exact rfl; exact At.head; exact rfl))) <;> (apply A.call 9; exact rfl; exact rfl; kernel_rfl; kernel_rfl; kernel_rfl; exact rfl; exact rfl; (exact fun w1 _ => (right1_ok s1.a 22 4194304 1024 (by decide) (by decide) rfl rfl).w w1)) <;> (apply A.take 10; exact rfl; exact rfl; kernel_rfl; kernel_rfl; kernel_rfl; (apply Ok1.xorK; exact rfl; exact rfl)) <;> (apply A.take 11; exact rfl; exact rfl; kernel_rfl; kernel_rfl; kernel_rfl; (apply Ok1.assign; exact rfl)) <;> (apply A.done; kernel_rfl))) | apply T.seq | apply T.region | apply T.block | apply T.skip | (apply T.cond_t; exact rfl)))
      refine ⟨i + 1, by omega, by omega, ⟨rfl, rfl, rfl, rfl, rfl, rfl, rfl, rfl, trivial⟩, ?_⟩
      rw [hst]
      (focus ((repeat' (first | exact Keep.nil _ | exact Ext.one _ _ | apply Keep.cons)); done))
    · have him : i = 64 := by omega
      subst him
      generalize rs 64 = t at *
      repeat' (first | (apply R.is1; first | (apply R.isBin; (apply R.pure; exact rfl; (apply Ok1.lss_f; exact rfl; exact rfl; omega))) | (apply R.pure; exact rfl; (apply Ok1.move; exact rfl))) | apply R.nil | (apply T.is; first | apply T.seq | apply T.region | apply T.exit | (apply T.cond_f; exact rfl)))
      exact hQ _ _ ⟨rfl, rfl, rfl, rfl, rfl, rfl, rfl, trivial⟩ (by (focus ((repeat' (first | exact Keep.nil _ | exact Ext.one _ _ | apply Keep.cons | apply Ext.cons)); done)))
theorem sum_loop8 (w : World) (bO bh bo : Nat) (st : H8) {Q : Post} {σ : Env} {L : Lst}
    (hs : Sub ([(4, .pointer (some ⟨bO, 0, none⟩)), (8, .pointer (some ⟨bh, 0, none⟩)), (24, .pointer (some ⟨bo, 0, none⟩)), (25, .int .i64 0)] : Env) σ) (hL : Keep L [(bo, .cells ⟨List.replicate 32 (.int .u8 0)⟩ 128 (0, 0)), (bh, .cells ⟨st.v⟩ 29 (0, 0)), (bO, .cells ⟨List.replicate 32 (.int .u8 0)⟩ 128 (0, 0))])
    (hQ : ∀ σ' L', Sub ([(4, .pointer (some ⟨bO, 0, none⟩)), (24, .pointer (some ⟨bo, 0, none⟩))] : Env) σ' → Keep L' [(bo, .cells ⟨u8s (outI st)⟩ 128 (0, 0)), (bO, .cells ⟨List.replicate 32 (.int .u8 0)⟩ 128 (0, 0))] → Q (.exit 14) σ' L') :
    T ⟨Tryz.prog, tb, 266, w, []⟩ (atL8 (codeOf Tryz.f214)) Q σ L := by
  refine T.weakK ?_ hL hs
  simp only [H8.v, H8.l, u32s, List.map_cons, List.map_nil]
  repeat' (first | (apply R.is1; first | (apply R.isBin; (apply R.pure; exact rfl; first | (apply Ok1.add64; exact rfl; exact rfl; omega; omega) | (apply Ok1.sub64; exact rfl; exact rfl; omega; omega) | (apply Ok1.lss_t; exact rfl; exact rfl; omega) | (apply Ok1.lss_f; exact rfl; exact rfl; omega) | (apply Ok1.mul64; exact rfl; exact rfl; omega; omega) | (apply Ok1.shr; exact rfl; exact rfl; omega; exact Nat.le_of_ble_eq_true rfl; (first | exact pwE8 | exact pwE16 | exact pwE24 | exact rfl)) | (apply Ok1.quo64; exact rfl; exact rfl; omega; omega; omega) | (apply Ok1.remN; exact rfl; exact rfl; omega; omega))) | (apply R.pure; exact rfl; first | (apply Ok1.move; exact rfl) | (apply Ok1.load; exact rfl; (apply Ld.own1; exact rfl; exact rfl; (focus ((repeat' (first | exact At.head | apply At.tail)); done)); exact rfl)) | (apply Ok1.assign; exact rfl) | (apply Ok1.indexAddrA; (iterate 5 exact rfl); omega; omega) | (apply Ok1.conv; (iterate 5 exact rfl)))) | (apply R.is0; (apply R.store; (iterate 6 exact rfl); exact Upd.head; exact rfl)) | apply R.nil | (apply T.is; first | apply T.rounds 33 | apply T.seq | apply T.region | apply T.block | apply T.skip | apply T.exit | (apply T.cond_t; exact rfl) | (apply T.cond_f; exact rfl)))
  refine hQ _ _ ⟨rfl, rfl, trivial⟩ ?_
  have p0 : pw 0 = 1 := rfl
  simp only [Int.reduceAdd, Int.reduceMul, Int.reduceSub, Int.reduceMod, Int.reduceToNat, p0, u8_mod, Int.ediv_one, outI, H8.l, u8s, List.flatMap_cons, List.flatMap_nil, List.map_cons, List.map_nil, List.cons_append, List.nil_append, List.append_nil]
  (focus ((repeat' (first | exact Keep.nil _ | exact Ext.one _ _ | apply Keep.cons | apply Ext.cons)); done))
theorem sum_ok (p : Option Addr) (n cap : Nat) (b : List Int) (hn : n = b.length) (hbig : n ≤ 999999000) (hb : Byt b) (w : World) (hp : RdSl w p u8V b) :
    CallW Tryz.prog 214 [.agg ⟨tabV⟩, .slice p n cap] w fun v _ => v = .agg ⟨u8s (shaI b)⟩ := by
  subst hn
  have hgk : ∀ i, i < 64 → tabV[0 + i * 1]? = some (.int .u32 (kI.getD i 0)) := fun i hi => arr_get (l := kI) (zs := h0I.v) (by rw [kI_len]; exact hi)
  have hgh : subE tabV 64 8 = some h0I.v := rfl
  have htl : tabV.length = 72 := rfl
  have hto : tabV.all Value.oneCell' = true := rfl
  have hx0 : OvOk 1 (none : Ov) 0 [] := OvOk.start 1
  generalize tabV = tv at *
  refine enterW (tb := tb) Tryz.func214 rfl Tryz.ntmps214 rfl ?_
  repeat' (first | (apply R.is1; first | (apply R.buildSlice0; (iterate 4 exact rfl); intro b0) | (apply R.isCall; first | (apply R.appendRd (xs := b) (v := u8V) (sz := 1) (ov := some (b0, 0, [])) (n := 0) (old := []); (iterate 12 exact rfl); exact ⟨rfl, rfl⟩; (focus ((repeat' (exact Ext.one _ _)); done)); exact rfl; exact u8V_len; exact rfl; (intro w1 hw1; exact hp.chg hw1.chg (Off.nil _)); (focus (rw [fl_u8]; exact u8s_one b)); omega; intro ov1 hov1 hsome; rw [fl_u8, List.nil_append, Nat.zero_add] at hov1; rw [fl_u8, List.nil_append, Nat.zero_add]) | (apply R.append1; (iterate 12 exact rfl); (focus ((repeat' (first | exact OwnAt.mid hov1 | apply OwnAt.tail)); done)); exact At.head; exact rfl; exact rfl; omega; omega; intro b2 j2 k2 hj2)) | (apply R.pure; exact rfl; first | (apply Ok1.move; exact rfl) | (apply Ok1.assign; exact rfl)) | (apply R.box; (iterate 3 exact rfl); intro) | (apply R.alloc; (iterate 3 exact rfl); intro) | (apply R.buildSlice; (iterate 12 exact rfl); intro)) | apply R.nil | (apply T.is; first | apply T.seq | apply T.region | apply T.block))
  rename_i bT bO bS
  have hovm := hov1.some (b := b2) (ys := [.int .u8 128]) (m := 1) rfl hj2
  obtain ⟨Z, hZ⟩ : ∃ Z, Z = (119 - b.length % 64) % 64 := ⟨_, rfl⟩
  apply T.loopK (α := Nat × Ov) (I := fun x => x.1 ≤ Z ∧ OvOk 1 x.2 (b.length + 1 + x.1) (u8s (b ++ 128 :: List.replicate x.1 0))) (σi := fun x => [(1, .slice p b.length cap), (2, .pointer (some ⟨bT, 0, none⟩)), (4, .pointer (some ⟨bO, 0, none⟩)), (5, slV x.2 (b.length + 1 + x.1))])
    (Li := fun x => (bT, .cells ⟨tv⟩ 31 (0, 0)) :: (bO, .cells ⟨List.replicate 32 (.int .u8 0)⟩ 128 (0, 0)) :: blkL 5 x.2 (u8s (b ++ 128 :: List.replicate x.1 0))) (μ := fun x => Z - x.1) (i0 := (0, some (b2, j2, k2)))
  · refine ⟨Nat.zero_le _, ?_⟩
    simp only [List.replicate_zero, u8s_app]
    exact hovm
  · exact ⟨rfl, rfl, rfl, rfl, trivial⟩
  · simp only [blkL, List.replicate_zero, u8s_app]
    (focus ((repeat' (first | exact Keep.nil _ | exact Ext.one _ _ | apply Keep.cons | apply Ext.cons)); done))
  · clear hov1 hovm hj2
    rintro ⟨j, ov⟩ ⟨hj, hov⟩
    simp only at hj hov ⊢
    rcases Nat.lt_or_ge j Z with hlt | hge
    · have hne : ((b.length + 1 + j : Nat) : Int) % 64 ≠ 56 := by omega
      repeat' (first | (apply R.is1; first | (apply R.isBin; (apply R.pure; exact rfl; first | (apply Ok1.neq_t; exact rfl; exact rfl; omega) | (apply Ok1.remN; exact rfl; exact rfl; omega; omega))) | (apply R.isCall; first | (apply R.pure; exact rfl; apply Ok1.lenOv; (iterate 3 exact rfl); exact hov) | (apply R.append1; (iterate 12 exact rfl); (focus ((repeat' (first | exact OwnAt.base hov | apply OwnAt.tail)); done)); exact At.head; exact rfl; exact rfl; omega; omega; intro b2 j2 k2 hj2)) | (apply R.pure; exact rfl; first | (apply Ok1.move; exact rfl) | (apply Ok1.assign; exact rfl)) | (apply R.buildSlice; (iterate 12 exact rfl); intro)) | apply R.nil | (apply T.is; first | apply T.seq | apply T.region | apply T.block | apply T.skip | (apply T.cond_t; exact rfl)))
      have hov' := hov.some (b := b2) (ys := [.int .u8 0]) (m := 1) rfl hj2
      have hu : u8s (b ++ 128 :: List.replicate (j + 1) 0) = u8s (b ++ 128 :: List.replicate j 0) ++ [.int .u8 0] := by rw [List.replicate_succ']; simp [u8s]
      refine ⟨(j + 1, some (b2, j2, k2)), ⟨by simp only; omega, by simp only [hu]; exact hov'⟩, by simp only; omega, ⟨rfl, rfl, rfl, rfl, trivial⟩, ?_⟩
      simp only [hu, blkL, List.cons_append, List.nil_append]
      (focus ((repeat' (first | exact Keep.nil _ | exact Ext.one _ _ | apply Keep.cons | apply Ext.cons)); done))
    · have hjZ : j = Z := by omega
      subst j
      have hne : ((b.length + 1 + Z : Nat) : Int) % 64 = 56 := by omega
      repeat' (first | (apply R.is1; first | (apply R.isBin; (apply R.pure; exact rfl; first | (apply Ok1.mulU; exact rfl; exact rfl; omega; omega) | (apply Ok1.neq_f; exact rfl; exact rfl; omega) | (apply Ok1.remN; exact rfl; exact rfl; omega; omega))) | (apply R.isCall; first | (apply R.pure; exact rfl; apply Ok1.lenOv; (iterate 3 exact rfl); exact hov) | (apply R.pure; exact rfl; (apply Ok1.lenS; (iterate 3 exact rfl)))) | (apply R.pure; exact rfl; first | (apply Ok1.convU64; (iterate 5 exact rfl); omega; omega) | (apply Ok1.move; exact rfl) | (apply Ok1.assign; exact rfl))) | apply R.nil | (apply T.is; first | apply T.seq | apply T.region | apply T.block | apply T.exit | (apply T.cond_f; exact rfl)))
      apply T.loopK (α := Nat × Ov) (I := fun x => x.1 ≤ 8 ∧ OvOk 1 x.2 (b.length + 1 + Z + x.1) (u8s (b ++ 128 :: (List.replicate Z 0 ++ (lenI (8 * (b.length : Int))).take x.1)))) (σi := fun x => [(2, .pointer (some ⟨bT, 0, none⟩)), (4, .pointer (some ⟨bO, 0, none⟩)), (5, slV x.2 (b.length + 1 + Z + x.1)), (6, .int .u64 (8 * (b.length : Int))), (7, .int .i64 x.1)])
        (Li := fun x => (bT, .cells ⟨tv⟩ 31 (0, 0)) :: (bO, .cells ⟨List.replicate 32 (.int .u8 0)⟩ 128 (0, 0)) :: blkL 5 x.2 (u8s (b ++ 128 :: (List.replicate Z 0 ++ (lenI (8 * (b.length : Int))).take x.1)))) (μ := fun x => 8 - x.1) (i0 := (0, ov))
      · exact ⟨Nat.zero_le _, by simpa using hov⟩
      · exact ⟨rfl, rfl, rfl, rfl, rfl, trivial⟩
      · simp only [List.take_zero, List.append_nil]
        (focus ((repeat' (first | exact Ext.one _ _ | exact Ext.all _ | apply Keep.cons | apply Keep.last)); done))
      · clear hov
        rintro ⟨m, ov⟩ ⟨hm, hov⟩
        simp only at hm hov ⊢
        rcases Nat.lt_or_ge m 8 with hlt | hge
        · have hmz : m = 0 ∨ m = 1 ∨ m = 2 ∨ m = 3 ∨ m = 4 ∨ m = 5 ∨ m = 6 ∨ m = 7 := by omega
          have hu : u8s (b ++ 128 :: (List.replicate Z 0 ++ (lenI (8 * (b.length : Int))).take (m + 1))) = u8s (b ++ 128 :: (List.replicate Z 0 ++ (lenI (8 * (b.length : Int))).take m)) ++ [.int .u8 ((lenI (8 * (b.length : Int))).getD m 0)] := by
            rcases hmz with rfl | rfl | rfl | rfl | rfl | rfl | rfl | rfl <;> simp [lenI, u8s]
          obtain ⟨sh, hsh⟩ : ∃ sh : Int, sh = pw (8 * (7 - m)) := ⟨_, rfl⟩
          have hval : IntKind.u8.wrap (8 * (b.length : Int) / sh) = (lenI (8 * (b.length : Int))).getD m 0 := by
            rw [u8_mod]
            subst hsh
            rcases hmz with rfl | rfl | rfl | rfl | rfl | rfl | rfl | rfl <;> first | rfl | (simp [lenI, pw])
          have hj8 : (56 - 8 * (m : Int)).toNat = 8 * (7 - m) := by omega
          have hsh2 : pw (56 - 8 * (m : Int)).toNat = sh := by rw [hj8]; exact hsh.symm
          have hb64 : (56 - 8 * (m : Int)).toNat ≤ IntKind.u64.bits := by rw [hj8]; show 8 * (7 - m) ≤ 64; omega
          have hsh3 : IntKind.u64.wrap (1 * sh) = sh ∧ 0 < sh := by
            subst hsh
            rcases hmz with rfl | rfl | rfl | rfl | rfl | rfl | rfl | rfl <;> exact ⟨rfl, by decide⟩
          clear hsh
          repeat' (first | (apply R.is1; first | (apply R.isBin; (apply R.pure; exact rfl; first | (apply Ok1.shlE; exact rfl; exact rfl; omega; exact hb64; exact hsh2; exact hsh3.1) | (apply Ok1.quoU; exact rfl; exact rfl; omega; exact hsh3.2; omega) | (apply Ok1.add64; exact rfl; exact rfl; omega; omega) | (apply Ok1.sub64; exact rfl; exact rfl; omega; omega) | (apply Ok1.lss_t; exact rfl; exact rfl; omega) | (apply Ok1.mul64; exact rfl; exact rfl; omega; omega))) | (apply R.isCall; (apply R.append1; (iterate 12 exact rfl); (focus ((repeat' (first | exact OwnAt.base hov | apply OwnAt.tail)); done)); exact At.head; exact rfl; exact rfl; omega; omega; intro b2 j2 k2 hj2)) | (apply R.pure; exact rfl; first | (apply Ok1.move; exact rfl) | (apply Ok1.assign; exact rfl) | (apply Ok1.conv; (iterate 5 exact rfl))) | (apply R.buildSlice; (iterate 12 exact rfl); intro)) | apply R.nil | (apply T.is; first | apply T.seq | apply T.region | apply T.block | apply T.skip | (apply T.cond_t; exact rfl)))
          have hov' := hov.some (b := b2) (ys := [.int .u8 (IntKind.u8.wrap (8 * (b.length : Int) / sh))]) (m := 1) rfl hj2
          rw [hval, ← hu] at hov'
          rw [hval, ← hu]
          refine ⟨(m + 1, some (b2, j2, k2)), ⟨by simp only; omega, hov'⟩, by simp only; omega, ⟨rfl, rfl, rfl, rfl, rfl, trivial⟩, ?_⟩
          simp only [blkL, List.cons_append, List.nil_append]
          (focus ((repeat' (first | exact Keep.nil _ | exact Ext.one _ _ | apply Keep.cons | apply Ext.cons)); done))
        · have hm8 : m = 8 := by omega
          subst hm8
          have hpad : b ++ (128 :: (List.replicate Z 0 ++ (lenI (8 * (b.length : Int))).take 8)) = b ++ padI b.length := by subst hZ; rfl
          rw [hpad] at hov ⊢
          have hpl : b.length + 1 + Z + 8 = (b ++ padI b.length).length := by rw [List.length_append, pad_len]; omega
          have hbp : Byt (b ++ padI b.length) := hb.app (pad_byt _)
          have hpb : (b ++ padI b.length).length ≤ 999999100 := by omega
          have hmod : (b ++ padI b.length).length % 64 = 0 := by rw [List.length_append, pad_len]; omega
          rw [hpl] at hov ⊢
          obtain ⟨M, hM⟩ : ∃ M, M = (b ++ padI b.length).length / 64 := ⟨_, rfl⟩
          have hsha : shaI b = outI (allI kI M (b ++ padI b.length) h0I) := by rw [hM]; rfl
          rw [hsha]
          have hlen : (b ++ padI b.length).length = 64 * M := by omega
          rw [hlen] at hov ⊢
          generalize b ++ padI b.length = bb at *
          obtain ⟨bm, jm, km, rfl⟩ := ovsome hov (by omega)
          simp only [slV, blkL]
          repeat' (first | (apply R.is1; first | (apply R.isBin; (apply R.pure; exact rfl; (apply Ok1.lss_f; exact rfl; exact rfl; omega))) | (apply R.pure; exact rfl; first | (apply Ok1.load; exact rfl; apply Ld.ownk; exact rfl; exact rfl; exact At.head; exact hgh) | (apply Ok1.move; exact rfl) | (apply Ok1.fieldAddr; (iterate 5 exact rfl)) | (apply Ok1.assign; exact rfl)) | (apply R.alloc; (iterate 3 exact rfl); intro)) | (apply R.is0; (apply R.store; (iterate 6 exact rfl); exact Upd.head; exact setE_all rfl)) | apply R.nil | (apply T.is; first | apply T.seq | apply T.region | apply T.block | apply T.exit | (apply T.cond_f; exact rfl)))
          repeat' (fail)
          rename_i bh
          apply T.loopK (α := Nat) (I := fun j => j ≤ M) (σi := fun j => [(2, .pointer (some ⟨bT, 0, none⟩)), (4, .pointer (some ⟨bO, 0, none⟩)), (5, .slice (some ⟨bm, 0, none⟩) (64 * M) (64 * M + jm)), (8, .pointer (some ⟨bh, 0, none⟩)), (9, .int .i64 (64 * (j : Int)))])
            (Li := fun j => [(bh, .cells ⟨(allI kI j bb h0I).v⟩ 29 (0, 0)), (bm, .cells ⟨u8s bb ++ km⟩ 5 (0, 0)), (bT, .cells ⟨tv⟩ 31 (0, 0)), (bO, .cells ⟨List.replicate 32 (.int .u8 0)⟩ 128 (0, 0))]) (μ := fun j => M - j) (i0 := 0)
          · exact Nat.zero_le _
          · exact ⟨rfl, rfl, rfl, rfl, rfl, trivial⟩
          · (focus ((repeat' (first | exact Keep.nil _ | exact Ext.one _ _ | apply Keep.cons | apply Ext.cons)); done))
          · intro j hj
            have hsn := all_snoc kI j bb h0I
            generalize hst0 : allI kI j bb h0I = st at *
            rcases Nat.lt_or_ge j M with hlt | hge
            · repeat' (first | (apply R.is1; first | (apply R.isBin; (apply R.pure; exact rfl; (apply Ok1.lss_t; exact rfl; exact rfl; omega))) | (apply R.isCall; (apply R.pure; exact rfl; (apply Ok1.lenS; (iterate 3 exact rfl)))) | (apply R.pure; exact rfl; first | (apply Ok1.move; exact rfl) | (apply Ok1.assign; exact rfl) | (apply Ok1.buildA; (iterate 6 exact rfl))) | (apply R.alloc; (iterate 3 exact rfl); intro)) | (apply R.is0; (apply R.store; (iterate 6 exact rfl); exact Upd.head; exact rfl)) | apply R.nil | (apply T.is; first | apply T.seq | apply T.region | apply T.block | apply T.skip | (apply T.cond_t; exact rfl)))
              rename_i bw
              obtain ⟨bk, hbk⟩ : ∃ bk, bk = (bb.drop (64 * j)).take 64 := ⟨_, rfl⟩
              have hbl : bk.length = 64 := by rw [hbk, List.length_take, List.length_drop]; omega
              have hbb : Byt bk := by rw [hbk]; exact (hbp.drop _).take _
              rw [← hbk] at hsn
              have hgm : ∀ k, k < 64 → (u8s bb ++ km)[64 * j + k]? = some (.int .u8 (bk.getD k 0)) := by
                intro k hk
                rw [List.getElem?_append_left (by rw [u8s_len]; omega)]
                simp only [u8s, List.getElem?_map, hbk, List.getD_eq_getElem?_getD, List.getElem?_take, List.getElem?_drop, hk, if_true]
                rw [List.getElem?_eq_getElem (by omega)]
                rfl
              clear hbk
              have hM8 : M ≤ 100000000 := by omega
              repeat' ((apply T.is; (refine sum_loop4 w bT bO bm bh bw M jm j km tv bb bk st hlen hM8 hlt hbl hbb hgm ?_ ?_ ?_)))
              · exact ⟨rfl, rfl, rfl, rfl, rfl, rfl, rfl, trivial⟩
              · (focus ((repeat' (first | exact Keep.nil _ | exact Ext.one _ _ | apply Keep.cons)); done))
              · intro σ' L' hs hk
                refine T.weakK (σ' := [(2, .pointer (some ⟨bT, 0, none⟩)), (4, .pointer (some ⟨bO, 0, none⟩)), (5, .slice (some ⟨bm, 0, none⟩) (64 * M) (64 * M + jm)), (8, .pointer (some ⟨bh, 0, none⟩)), (9, .int .i64 (64 * (j : Int))), (10, .pointer (some ⟨bw, 0, none⟩))]) ?_ hk hs
                have hsl := sched_len bk 64
                have hgw : ∀ i, i < 64 → (u32s (schedI bk 64))[0 + i * 1]? = some (.int .u32 ((schedI bk 64).getD i 0)) := fun i hi => by have := arr_get (l := schedI bk 64) (zs := []) (k := i) (by omega); rwa [List.append_nil] at this
                have hmix : mixI kI bk st = addH st (roundsI kI (schedI bk 64) st 64) := rfl
                have hr0 : roundsI kI (schedI bk 64) st 0 = st := rfl
                have hrs : ∀ i, roundsI kI (schedI bk 64) st (i + 1) = stepI (roundsI kI (schedI bk 64) st i) (kI.getD i 0) ((schedI bk 64).getD i 0) := fun _ => rfl
                have hsv : subE st.v 0 8 = some st.v := subE_all rfl
                clear hgm
                generalize roundsI kI (schedI bk 64) st = rs at *
                generalize hW : u32s (schedI bk 64) = us at *
                repeat' (first | (apply R.is1; first | (apply R.pure; exact rfl; first | (apply Ok1.load; exact rfl; apply Ld.ownk; exact rfl; exact rfl; (focus ((repeat' (first | exact At.head | apply At.tail)); done)); exact hsv) | (apply Ok1.assign; exact rfl)) | (apply R.alloc; (iterate 3 exact rfl); intro)) | (apply R.is0; (apply R.store; (iterate 6 exact rfl); exact Upd.head; exact setE_all rfl)) | apply R.nil | (apply T.is; first | apply T.seq | apply T.region | apply T.block))
                rename_i bv
                repeat' ((apply T.is; (refine sum_loop6 w bT bO bm bh bw bv M jm j km tv us bb (schedI bk 64) st rs hgk hgw hr0 hrs ?_ ?_ ?_)))
                · exact ⟨rfl, rfl, rfl, rfl, rfl, rfl, rfl, rfl, trivial⟩
                · (focus ((repeat' (first | exact Keep.nil _ | exact Ext.one _ _ | apply Keep.cons)); done))
                · intro σ' L' hs hk
                  refine T.weakK (σ' := [(2, .pointer (some ⟨bT, 0, none⟩)), (4, .pointer (some ⟨bO, 0, none⟩)), (5, .slice (some ⟨bm, 0, none⟩) (64 * M) (64 * M + jm)), (8, .pointer (some ⟨bh, 0, none⟩)), (9, .int .i64 (64 * (j : Int))), (10, .pointer (some ⟨bw, 0, none⟩)), (15, .pointer (some ⟨bv, 0, none⟩))]) ?_ hk hs
                  rw [hmix] at hsn
                  generalize rs 64 = t at *
                  clear hgk hgw hrs
                  simp only [H8.v, H8.l, u32s, List.map_cons, List.map_nil]
                  repeat' (first | (apply R.is1; first | (apply R.isBin; (apply R.pure; exact rfl; first | (apply Ok1.add64; exact rfl; exact rfl; omega; omega) | (apply Ok1.lss_t; exact rfl; exact rfl; omega) | (apply Ok1.lss_f; exact rfl; exact rfl; omega))) | (apply R.pure; exact rfl; first | (apply Ok1.move; exact rfl) | (apply Ok1.assign; exact rfl))) | apply R.nil | (apply T.is; first | apply T.rounds 9 | (apply T.drawC (id := 39) [0] (by decide); ((apply A.take 0; exact rfl; exact rfl; kernel_rfl; kernel_rfl; kernel_rfl; (apply Ok1.move; exact rfl)) <;> (apply A.take 1; exact rfl; exact rfl; kernel_rfl; kernel_rfl; kernel_rfl; (apply Ok1.move; exact rfl)) <;> (apply A.take 2; exact rfl; exact rfl; kernel_rfl; kernel_rfl; kernel_rfl; (apply Ok1.indexAddrA; (iterate 5 exact rfl); omega; omega)) <;> (apply A.take 4; exact rfl; exact rfl; kernel_rfl; kernel_rfl; kernel_rfl; (apply Ok1.move; exact rfl)) <;> (apply A.take 5; exact rfl; exact rfl; kernel_rfl; kernel_rfl; kernel_rfl; (apply Ok1.indexAddrA; (iterate 5 exact rfl); omega; omega)) <;> (apply A.take 6; exact rfl; exact rfl; kernel_rfl; kernel_rfl; kernel_rfl; (apply Ok1.load; exact rfl; (apply Ld.own1; exact rfl; exact rfl; exact At.head; exact rfl))) <;> (apply A.one 3; kernel_rfl; exact rfl; (((apply R.pure; exact rfl; (apply Ok1.load; exact rfl; (apply Ld.own1; exact rfl; exact rfl; (focus ((repeat' (first | exact At.head | apply At.tail)); done)); exact rfl))))); apply R.nil; refine ⟨?_, ?_⟩; (focus ((repeat' (first | exact trivial | (refine ⟨?_, ?_⟩; exact At.head)))))) <;> (apply A.take 7; exact rfl; exact rfl; kernel_rfl; kernel_rfl; kernel_rfl; (apply Ok1.add32; exact rfl; exact rfl)) <;> (apply A.take 8; exact rfl; exact rfl; kernel_rfl; kernel_rfl; kernel_rfl; (apply Ok1.indexAddrA; (iterate 5 exact rfl); omega; omega)) <;> (apply A.one 9; kernel_rfl; exact rfl; (((apply R.store; (iterate 6 exact rfl); (focus ((repeat' (first | exact Upd.head | apply Upd.tail)); done)); exact rfl))); apply R.nil; refine ⟨?_, ?_⟩; (focus ((repeat' (first | exact trivial | (refine ⟨?_, ?_⟩; exact At.head)))))) <;> (apply A.done; kernel_rfl))) | apply T.seq | apply T.region | apply T.block | apply T.skip | apply T.exit | (apply T.cond_t; exact rfl) | (apply T.cond_f; exact rfl)))
                  refine ⟨j + 1, by omega, by omega, ⟨rfl, rfl, rfl, rfl, ?_, trivial⟩, ?_⟩
                  · rw [show (64 : Int) * ((j + 1 : Nat) : Int) = 64 * (j : Int) + 64 by omega]; rfl
                  · rw [hsn]; (focus ((repeat' (first | exact Keep.nil _ | exact Ext.one _ _ | apply Keep.cons | apply Ext.cons)); done))
            · have hjM : j = M := by omega
              subst hjM
              rw [hst0]
              clear hgk hgh hsn
              have hol : (u8s (outI st)).length = 32 := by rw [u8s_len, out_len]
              have hoo := u8s_one (outI st)
              repeat' (first | (apply R.is1; first | (apply R.isBin; (apply R.pure; exact rfl; (apply Ok1.lss_f; exact rfl; exact rfl; omega))) | (apply R.isCall; (apply R.pure; exact rfl; (apply Ok1.lenS; (iterate 3 exact rfl)))) | (apply R.pure; exact rfl; first | (apply Ok1.move; exact rfl) | (apply Ok1.assign; exact rfl) | (apply Ok1.buildA; (iterate 6 exact rfl))) | (apply R.alloc; (iterate 3 exact rfl); intro)) | (apply R.is0; (apply R.store; (iterate 6 exact rfl); exact Upd.head; exact rfl)) | apply R.nil | (apply T.is; first | apply T.seq | apply T.region | apply T.block | apply T.exit | (apply T.cond_f; exact rfl)))
              rename_i bo
              refine sum_loop8 w bO bh bo st ?_ ?_ ?_
              · exact ⟨rfl, rfl, rfl, rfl, trivial⟩
              · (focus ((repeat' (first | exact Keep.nil _ | exact Ext.one _ _ | apply Keep.cons | apply Ext.cons)); done))
              · intro σ' L' hs hk
                refine T.weakK (σ' := [(4, .pointer (some ⟨bO, 0, none⟩)), (24, .pointer (some ⟨bo, 0, none⟩))]) ?_ hk hs
                repeat' (first | (apply R.is1; (apply R.pure; exact rfl; (apply Ok1.load; exact rfl; apply Ld.ownk; exact rfl; exact rfl; exact At.head; exact subE_all hol))) | (apply R.is0; (apply R.store; (iterate 4 exact rfl); exact hol; exact hoo; (focus ((repeat' (first | exact Upd.head | apply Upd.tail)); done)); exact setE_all hol)) | apply R.nil | (apply T.is; first | apply T.seq | apply T.region | apply T.ret))
                apply RetOk.c
                exact rfl
                apply Ld.ownk
                exact rfl
                exact rfl
                (focus ((repeat' (first | exact At.head | apply At.tail)); done))
                exact subE_all hol
                rfl
end Go.Proofs.YtidjnjlejhoalaaGreat
set_option linter.unusedSimpArgs false
set_option linter.unusedVariables false
namespace Go.Proofs.YtidjnjlejhoalaaGreat
open Go.RowKit Go.Shelf
set_option maxRecDepth 100000
theorem tab_len : tabV.length = 72 := rfl
theorem at_get {a : List Int} {v : Int} {r : List Value} {i : Nat} {j : Int} (hl : a.length = i) (hj : j = i) : (u8s a ++ .int .u8 v :: r)[0 + j.toNat * 1]? = some (.int .u8 v) := by
  subst hl hj
  rw [show 0 + ((a.length : Nat) : Int).toNat * 1 = (u8s a).length by rw [u8s_len]; omega, List.getElem?_append_right (Nat.le_refl _), Nat.sub_self]
  rfl
theorem at_put {a : List Int} {v x : Int} {r : List Value} {i : Nat} {j : Int} (hl : a.length = i) (hj : j = i) : setE (u8s a ++ .int .u8 v :: r) (0 + j.toNat * 1) [.int .u8 x] = some (u8s a ++ .int .u8 x :: r) := by
  subst hl hj
  rw [show 0 + ((a.length : Nat) : Int).toNat * 1 = (u8s a).length by rw [u8s_len]; omega, setE_mid _ (by simp)]
  simp
/-- Bytes that can be read in each world in which the blocks ex are as they are told. -/
def RdX (w : World) (p : Option Addr) (ex : Lst) (k : List Int) : Prop := k = [] ∨ ∃ b o, p = some ⟨b, o, none⟩ ∧ ∀ w1 L1, Hp w [] L1 w1 → (∀ z ∈ ex, z ∈ L1) → ∀ (i : Nat) v, k[i]? = some v → w1.cell? ⟨b, o + (i : Int).toNat * 1, none⟩ = some (.int .u8 v)
theorem RdX.of {w : World} {p : Option Addr} {k : List Int} (h : RdSl w p u8V k) : RdX w p [] k := by
  rcases h with h | ⟨b, o, hp, h⟩
  · exact .inl h
  · refine .inr ⟨b, o, hp, fun w1 L1 hw1 _ i v hv => ?_⟩
    obtain ⟨hi, rfl⟩ := List.getElem?_eq_some_iff.1 hv
    rw [fl_u8] at h
    rw [show o + (i : Int).toNat * 1 = o + i by omega]
    refine hw1.old ((h i (by rw [u8s_len]; exact hi)).trans ?_) List.not_mem_nil
    simp [u8s, hi]
theorem RdX.own {w : World} {b : Nat} {e : TypeId} {fz : Nat × Nat} {k : List Int} : RdX w (some ⟨b, 0, none⟩) [(b, .cells ⟨u8s k⟩ e fz)] k := by
  refine .inr ⟨b, 0, rfl, fun w1 L1 hw1 hin i v hv => ?_⟩
  obtain ⟨hi, rfl⟩ := List.getElem?_eq_some_iff.1 hv
  have h1 := hw1.get b _ (hin _ List.mem_cons_self)
  rw [show 0 + (i : Int).toNat * 1 = i by omega]
  simp [World.cell?, h1, u8s, hi]
theorem vfilled_ok (p : Option Addr) (n cap : Nat) (k : List Int) (x : Int) (hn : n = k.length) (hbig : n ≤ 999999000) (hb : Byt k) (w : World) (hp : RdSl w p u8V k) :
    CallM Tryz.prog 283 [.agg ⟨tabV⟩, .slice p n cap, .int .u8 x] [] w fun v L => ∃ b0, v = slV (some (b0, 0, [])) 64 ∧ L = blkL 5 (some (b0, 0, [])) (u8s (filledI k x)) := by
  subst hn
  have hsum := fun w1 (hc : Chg [] w w1) => sum_ok p k.length cap k rfl hbig hb w1 (hp.chg' hc (fun _ => Off.nil _))
  have htl := tab_len
  have hF : filledI k x = (padKey k ++ List.replicate (64 - (padKey k).length) 0).map fun y => xorI .u8 y x := rfl
  have hFl := filled_len k x
  have hkl := padKey_len k
  generalize tabV = tv at *
  refine enterK (tb := tb) Tryz.func283 rfl Tryz.ntmps283 rfl ?_
  repeat' (first | (apply R.is1; first | (apply R.isBin; (apply R.gtr rfl rfl rfl <;> intro)) | (apply R.isCall; (apply R.pure; exact rfl; (apply Ok1.lenS; (iterate 3 exact rfl)))) | (apply R.pure; exact rfl; first | (apply Ok1.move; exact rfl) | (apply Ok1.assign; exact rfl)) | (apply R.box; (iterate 3 exact rfl); intro)) | apply R.nil | (apply T.is; first | (refine T.meetK (x := .seq (.region 1 _ _) _) (α := Option Addr × Nat × Lst) (I := fun y => RdX w y.1 y.2.2 (padKey k)) (σi := fun y => [(1, .slice y.1 (padKey k).length y.2.1), (2, .int .u8 x)]) (Li := fun y => y.2.2) ?_ ?_) | apply T.seq | apply T.region | apply T.skip | (apply T.cond_t; exact rfl) | (apply T.cond_f; exact rfl)))
  · have hk : 64 < k.length := by omega
    have hpk : padKey k = shaI k := if_pos hk
    have hsl := sha_len k
    have hls : (u8s (shaI k)).length = 32 := by rw [u8s_len, hsl]
    have hone := u8s_one (shaI k)
    repeat' (first | (apply R.is1; first | (apply R.isCall; (apply R.callV (vs := [.agg ⟨tv⟩, .slice p k.length cap]); (iterate 3 exact rfl); intro w1 hw1; exact hsum w1 hw1.chg)) | (apply R.pure; exact rfl; first | (apply Ok1.load; exact rfl; apply Ld.ownk; exact rfl; exact rfl; exact At.head; exact subE_all htl) | (apply Ok1.sliceArr; (iterate 4 exact rfl)) | (apply Ok1.move; exact rfl) | (apply Ok1.assign; exact rfl)) | (apply R.alloc; (iterate 3 exact rfl); intro)) | (apply R.is0; (apply R.store; (iterate 4 exact rfl); exact hls; exact hone; exact Upd.head; exact setE_all hls)) | apply R.nil | (apply T.is; apply T.region))
    rename_i bx b7
    refine ⟨(some ⟨b7, 0, none⟩, 32, [(b7, .cells ⟨u8s (shaI k)⟩ 128 (0, 0))]), ?_, ⟨?_, rfl, trivial⟩, ?_⟩
    · rw [hpk]; exact RdX.own
    · rw [hpk, hsl]; rfl
    · (focus ((repeat' (first | exact Keep.nil _ | exact Ext.one _ _ | apply Keep.cons)); done))
  · have hk : ¬ 64 < k.length := by omega
    have hpk : padKey k = k := if_neg hk
    repeat' (fail)
    refine ⟨(p, cap, []), ?_, ⟨?_, rfl, trivial⟩, ?_⟩
    · rw [hpk]; exact RdX.of hp
    · rw [hpk]; rfl
    · (focus ((repeat' (exact Keep.nil _)); done))
  · rintro ⟨p1, c1, ex⟩ hrd
    simp only at hrd ⊢
    generalize padKey k = pk at *
    generalize hFF : filledI k x = Fi at *
    repeat' (first | (apply R.is1; first | (apply R.make1 (n := 64); (iterate 9 exact rfl); omega; intro b8) | (apply R.pure; exact rfl; (apply Ok1.assign; exact rfl))) | apply R.nil | (apply T.is; first | apply T.seq | apply T.region | apply T.block))
    apply T.loopK (α := Nat) (I := fun i => i ≤ 64) (σi := fun i => [(1, .slice p1 pk.length c1), (2, .int .u8 x), (8, .slice (some ⟨b8, 0, none⟩) 64 64), (9, .int .i64 i)])
      (Li := fun i => (b8, .cells ⟨u8s (Fi.take i) ++ List.replicate (64 - i) (.int .u8 0)⟩ 5 (0, 0)) :: ex) (μ := fun i => 64 - i) (i0 := 0)
    · exact Nat.zero_le _
    · exact ⟨rfl, rfl, rfl, rfl, trivial⟩
    · (focus ((repeat' (first | exact Ext.one _ _ | exact Ext.all _ | apply Keep.cons | apply Keep.last)); done))
    · intro i hi
      rcases Nat.lt_or_ge i 64 with hlt | hge
      · obtain ⟨m, hm⟩ : ∃ m, 64 - i = m + 1 := ⟨63 - i, by omega⟩
        have htk : (Fi.take i).length = i := by rw [List.length_take]; omega
        rw [hm, List.replicate_succ]
        have hgt := fun v => at_get (v := v) (r := List.replicate m (.int .u8 0)) htk (j := (i : Int)) rfl
        have hpt := fun v y => at_put (v := v) (x := y) (r := List.replicate m (.int .u8 0)) htk (j := (i : Int)) rfl
        have hsnoc : ∀ v, Fi[i]? = some v → u8s (Fi.take (i + 1)) ++ List.replicate (64 - (i + 1)) (.int .u8 0) = u8s (Fi.take i) ++ .int .u8 v :: List.replicate m (.int .u8 0) := by
          intro v hv
          rw [List.take_add_one, hv, u8s_app, List.append_assoc, show 64 - (i + 1) = m by omega]
          rfl
        rcases Nat.lt_or_ge i pk.length with hk | hk
        · obtain ⟨y, hy⟩ : ∃ y, pk[i]? = some y := ⟨_, List.getElem?_eq_getElem (by omega)⟩
          have hv : Fi[i]? = some (xorI .u8 y x) := by rw [hF, List.getElem?_map, List.getElem?_append_left hk, hy]; rfl
          rcases hrd with h0 | ⟨bp, op, rfl, hrd⟩
          · subst h0; simp at hk
          · repeat' (first | (apply R.is1; first | (apply R.isBin; (apply R.pure; exact rfl; first | (apply Ok1.xorK; exact rfl; exact rfl) | (apply Ok1.add64; exact rfl; exact rfl; omega; omega) | (apply Ok1.lss_t; exact rfl; exact rfl; omega))) | (apply R.isCall; (apply R.pure; exact rfl; (apply Ok1.lenS; (iterate 3 exact rfl)))) | (apply R.pure; exact rfl; first | (apply Ok1.indexAddrP; (iterate 6 exact rfl); omega; omega) | (apply Ok1.load; exact rfl; first | (apply Ld.own1; exact rfl; exact rfl; (focus ((repeat' (first | exact At.head | apply At.tail)); done)); exact hgt _) | (apply Ld.of1; exact rfl; exact rfl; (intro w1 hw1; exact hrd w1 _ hw1 (fun z hz => List.mem_cons_of_mem _ hz) i y hy))) | (apply Ok1.move; exact rfl) | (apply Ok1.assign; exact rfl))) | (apply R.is0; (apply R.store; (iterate 6 exact rfl); exact Upd.head; exact hpt _ _)) | apply R.nil | (apply T.is; first | apply T.seq | apply T.region | apply T.block | apply T.skip | (apply T.cond_t; exact rfl)))
            refine ⟨i + 1, by omega, by omega, ⟨rfl, rfl, rfl, rfl, trivial⟩, ?_⟩
            rw [hsnoc _ hv]
            (focus ((repeat' (first | exact Ext.one _ _ | exact Ext.all _ | apply Keep.cons | apply Keep.last)); done))
        · have hv : Fi[i]? = some (xorI .u8 0 x) := by rw [hF, List.getElem?_map, List.getElem?_append_right hk, List.getElem?_replicate, if_pos (by omega)]; rfl
          repeat' (first | (apply R.is1; first | (apply R.isBin; (apply R.pure; exact rfl; first | (apply Ok1.xorK; exact rfl; exact rfl) | (apply Ok1.add64; exact rfl; exact rfl; omega; omega) | (apply Ok1.lss_t; exact rfl; exact rfl; omega) | (apply Ok1.lss_f; exact rfl; exact rfl; omega))) | (apply R.isCall; (apply R.pure; exact rfl; (apply Ok1.lenS; (iterate 3 exact rfl)))) | (apply R.pure; exact rfl; first | (apply Ok1.load; exact rfl; apply Ld.own1; exact rfl; exact rfl; exact At.head; exact hgt _) | (apply Ok1.move; exact rfl) | (apply Ok1.assign; exact rfl) | (apply Ok1.indexAddr; (iterate 5 exact rfl); omega; omega))) | (apply R.is0; (apply R.store; (iterate 6 exact rfl); exact Upd.head; exact hpt _ _)) | apply R.nil | (apply T.is; first | apply T.seq | apply T.region | apply T.block | apply T.skip | (apply T.cond_t; exact rfl) | (apply T.cond_f; exact rfl)))
          refine ⟨i + 1, by omega, by omega, ⟨rfl, rfl, rfl, rfl, trivial⟩, ?_⟩
          rw [hsnoc _ hv]
          (focus ((repeat' (first | exact Ext.one _ _ | exact Ext.all _ | apply Keep.cons | apply Keep.last)); done))
      · have he : i = 64 := by omega
        subst he
        rw [List.take_of_length_le (by omega), Nat.sub_self, List.replicate_zero]
        repeat' (first | (apply R.is1; first | (apply R.isBin; (apply R.pure; exact rfl; (apply Ok1.lss_f; exact rfl; exact rfl; omega))) | (apply R.pure; exact rfl; first | (apply Ok1.move; exact rfl) | (apply Ok1.assign; exact rfl))) | apply R.nil | (apply T.is; first | apply T.seq | apply T.region | apply T.exit | apply T.ret | (apply T.cond_f; exact rfl)))
        (apply RetOk.t; exact rfl)
        exact ⟨_, by (focus ((repeat' (first | exact Keep.nil _ | exact Ext.one _ _ | apply Keep.cons)); done)), b8, rfl, rfl⟩
theorem vtag_ok (p : Option Addr) (n cap : Nat) (k : List Int) (hn : n = k.length) (hbig : n ≤ 999999000) (hkb : Byt k) (pb : Option Addr) (m cb : Nat) (b : List Int) (hm : m = b.length) (hbb : Byt b) (hbig2 : m ≤ 999998000) (w : World) (hp : RdSl w p u8V k) (hpb : RdSl w pb u8V b) :
    CallW Tryz.prog 232 [.agg ⟨tabV⟩, .slice p n cap, .slice pb m cb] w fun v _ => v = .agg ⟨u8s (hmacI k b)⟩ := by
  subst hn hm
  have hfil1 := fun w1 (hc : Chg [] w w1) => vfilled_ok p k.length cap k 54 rfl hbig hkb w1 (hp.chg' hc (fun _ => Off.nil _))
  have hfil2 := fun w1 (hc : Chg [] w w1) => vfilled_ok p k.length cap k 92 rfl hbig hkb w1 (hp.chg' hc (fun _ => Off.nil _))
  have hsum := fun p n c b h1 h2 h3 w1 hp => sum_ok p n c b h1 h2 h3 w1 hp
  have htl := tab_len
  have hto : tabV.all Value.oneCell' = true := rfl
  have hl1 := filled_len k 54
  have hl2 := filled_len k 92
  have hb1 := filled_byt k 54
  have hb2 := filled_byt k 92
  obtain ⟨d, hd⟩ : ∃ d, d = shaI (filledI k 54 ++ b) := ⟨_, rfl⟩
  have hdl : d.length = 32 := by rw [hd]; exact sha_len _
  have hdb : Byt d := by rw [hd]; exact sha_byt _
  have hh : hmacI k b = shaI (filledI k 92 ++ d) := by rw [hd]; rfl
  have hhl : (u8s (hmacI k b)).length = 32 := by rw [u8s_len, hh, sha_len]
  have hho := u8s_one (hmacI k b)
  generalize hmacI k b = hm at *
  have hdls : (u8s d).length = 32 := by rw [u8s_len, hdl]
  have hdo := u8s_one d
  generalize filledI k 54 = f1 at *
  generalize filledI k 92 = f2 at *
  have hF1 : ∀ b0, OvOk 1 (some (b0, 0, [])) 64 (u8s f1) := fun b0 => ⟨by rw [u8s_len, hl1], rfl⟩
  have hF2 : ∀ b0, OvOk 1 (some (b0, 0, [])) 64 (u8s f2) := fun b0 => ⟨by rw [u8s_len, hl2], rfl⟩
  have hs1 : ∀ {ov : Ov}, OvOk 1 ov (64 + b.length) (u8s (f1 ++ b)) → ∀ {w1 : World} {S : List Nat} {L : Lst}, Hp w S L w1 → (∀ z ∈ blkL 5 ov (u8s (f1 ++ b)), z ∈ L) → CallW Tryz.prog 214 [.agg ⟨tabV⟩, .slice (ovp ov) (64 + b.length) (ovc ov (64 + b.length))] w1 fun v _ => v = .agg ⟨u8s d⟩ := by
    intro ov hov w1 S L hw1 hin
    have he : 64 + b.length = (f1 ++ b).length := by rw [List.length_append, hl1]
    rw [hd]
    exact hsum _ _ _ (f1 ++ b) he (by omega) (hb1.app hbb) w1 (rdown (by rw [← he]; exact hov) hw1 hin)
  have hs2 : ∀ {ov : Ov}, OvOk 1 ov (64 + 32) (u8s (f2 ++ d)) → ∀ {w1 : World} {S : List Nat} {L : Lst}, Hp w S L w1 → (∀ z ∈ blkL 5 ov (u8s (f2 ++ d)), z ∈ L) → CallW Tryz.prog 214 [.agg ⟨tabV⟩, .slice (ovp ov) (64 + 32) (ovc ov (64 + 32))] w1 fun v _ => v = .agg ⟨u8s hm⟩ := by
    intro ov hov w1 S L hw1 hin
    have he : 64 + 32 = (f2 ++ d).length := by rw [List.length_append, hl2, hdl]
    rw [hh]
    exact hsum _ _ _ (f2 ++ d) he (by omega) (hb2.app hdb) w1 (rdown (by rw [← he]; exact hov) hw1 hin)
  clear hsum hd hh
  generalize tabV = tv at *
  refine enterW (tb := tb) Tryz.func232 rfl Tryz.ntmps232 rfl ?_
  repeat' (first | (apply R.is1; first | (apply R.box; (iterate 3 exact rfl); intro) | (apply R.alloc; (iterate 3 exact rfl); intro)) | apply R.nil | (apply T.is; first | (refine T.meetK (x := .region 1 _ _) (α := Nat × Nat × Nat) (I := fun _ => True) (σi := fun y => [(1, .slice p k.length cap), (3, .pointer (some ⟨y.2.1, 0, none⟩)), (6, .pointer (some ⟨y.2.2, 0, none⟩)), (7, .pointer (some ⟨y.1, 0, none⟩))]) (Li := fun y => [(y.1, .cells ⟨u8s d⟩ 128 (0, 0)), (y.2.2, .cells ⟨List.replicate 32 (.int .u8 0)⟩ 128 (0, 0)), (y.2.1, .cells ⟨tv⟩ 31 (0, 0))]) ?_ ?_) | apply T.seq | apply T.region))
  · repeat' ((apply T.is; (apply T.drawC (id := 1) [1] (by decide); ((apply A.take 0; exact rfl; exact rfl; kernel_rfl; kernel_rfl; kernel_rfl; (apply Ok1.load; exact rfl; apply Ld.ownk; exact rfl; exact rfl; exact At.head; exact subE_all htl)) <;> (apply A.take 1; exact rfl; exact rfl; kernel_rfl; kernel_rfl; kernel_rfl; (apply Ok1.load; exact rfl; apply Ld.ownk; exact rfl; exact rfl; exact At.head; exact subE_all htl)) <;> (apply A.take 2; exact rfl; exact rfl; kernel_rfl; kernel_rfl; kernel_rfl; (apply Ok1.move; exact rfl)) <;> (apply A.take 4; exact rfl; exact rfl; kernel_rfl; kernel_rfl; kernel_rfl; (apply Ok1.move; exact rfl)) <;> (apply A.two 3 7; kernel_rfl; exact rfl; exact rfl; rotate_left 1; (focus (((((apply R.alloc; (iterate 3 exact rfl); intro))); apply R.nil; refine ⟨?_, ?_⟩; (focus ((repeat' (first | exact trivial | (refine ⟨?_, ?_⟩; (focus ((repeat' (first | exact At.head | apply At.tail)); done)))))))) <;> (apply A.one 3; kernel_rfl; exact rfl; (((apply R.callE (vs := [.agg ⟨tv⟩, .slice p k.length cap, .int .u8 54]); (iterate 3 exact rfl); exact Ext.none _; intro w1 hw1; exact hfil1 w1 hw1.chg; rintro v Lo ⟨b0, rfl, rfl⟩))); apply R.nil; refine ⟨?_, ?_⟩; (focus ((repeat' (first | exact trivial | (refine ⟨?_, ?_⟩; (focus ((repeat' (first | exact At.head | apply At.tail)); done)))))))) <;> (apply A.one 5; kernel_rfl; exact rfl; (((apply R.appendRd (xs := b) (v := u8V) (sz := 1) (ov := some (b0, 0, [])) (n := 64) (old := u8s f1); (iterate 12 exact rfl); exact hF1 b0; (focus ((repeat' (exact Ext.one _ _)); done)); exact rfl; exact u8V_len; exact rfl; (intro w1 hw1; exact hpb.chg' hw1.chg (fun _ => Off.nil _)); (focus (rw [fl_u8]; exact u8s_one b)); omega; intro ov1 hov1 hsome; rw [fl_u8, ← u8s_app] at hov1; rw [fl_u8, ← u8s_app, slV_eq hov1]))); apply R.nil; refine ⟨?_, ?_⟩; (focus ((repeat' (first | exact trivial | (refine ⟨?_, ?_⟩; (focus ((repeat' (first | exact At.head | apply At.tail | apply At.right)); done)))))))) <;> (apply A.one 6; kernel_rfl; exact rfl; (((apply R.callV (vs := [.agg ⟨tv⟩, .slice (ovp ov1) _ _]); (iterate 3 exact rfl); intro w1 hw1; exact hs1 hov1 hw1 (Ext.mem (by (focus ((repeat' (exact Ext.here _ _)); done))))))); apply R.nil; refine ⟨?_, ?_⟩; (focus ((repeat' (first | exact trivial | (refine ⟨?_, ?_⟩; (focus ((repeat' (first | exact At.head | apply At.tail | apply At.right)); done)))))))) <;> (apply A.one 8; kernel_rfl; exact rfl; (((apply R.store; (iterate 4 exact rfl); exact hdls; exact hdo; (focus ((repeat' (first | exact Upd.head | apply Upd.right)); done)); exact setE_all hdls))); apply R.nil; refine ⟨?_, ?_⟩; (focus ((repeat' (first | exact trivial | (refine ⟨?_, ?_⟩; (focus ((repeat' (first | exact At.head | apply At.tail | apply At.right)); done)))))))) <;> (apply A.done; kernel_rfl))); rotate_right 1; (focus (((((apply R.callE (vs := [.agg ⟨tv⟩, .slice p k.length cap, .int .u8 54]); (iterate 3 exact rfl); exact Ext.none _; intro w1 hw1; exact hfil1 w1 hw1.chg; rintro v Lo ⟨b0, rfl, rfl⟩))); apply R.nil; refine ⟨?_, ?_⟩; (focus ((repeat' (first | exact trivial | (refine ⟨?_, ?_⟩; (focus ((repeat' (first | exact At.head | apply At.tail)); done)))))))) <;> (apply A.two 5 7; kernel_rfl; exact rfl; exact rfl; rotate_left 1; (focus (((((apply R.alloc; (iterate 3 exact rfl); intro))); apply R.nil; refine ⟨?_, ?_⟩; (focus ((repeat' (first | exact trivial | (refine ⟨?_, ?_⟩; (focus ((repeat' (first | exact At.head | apply At.tail)); done)))))))) <;> (apply A.one 5; kernel_rfl; exact rfl; (((apply R.appendRd (xs := b) (v := u8V) (sz := 1) (ov := some (b0, 0, [])) (n := 64) (old := u8s f1); (iterate 12 exact rfl); exact hF1 b0; (focus ((repeat' (first | exact Ext.one _ _ | apply Ext.cons)); done)); exact rfl; exact u8V_len; exact rfl; (intro w1 hw1; exact hpb.chg' hw1.chg (fun _ => Off.nil _)); (focus (rw [fl_u8]; exact u8s_one b)); omega; intro ov1 hov1 hsome; rw [fl_u8, ← u8s_app] at hov1; rw [fl_u8, ← u8s_app, slV_eq hov1]))); apply R.nil; refine ⟨?_, ?_⟩; (focus ((repeat' (first | exact trivial | (refine ⟨?_, ?_⟩; (focus ((repeat' (first | exact At.head | apply At.tail | apply At.right)); done)))))))) <;> (apply A.one 6; kernel_rfl; exact rfl; (((apply R.callV (vs := [.agg ⟨tv⟩, .slice (ovp ov1) _ _]); (iterate 3 exact rfl); intro w1 hw1; exact hs1 hov1 hw1 (Ext.mem (by (focus ((repeat' (exact Ext.here _ _)); done))))))); apply R.nil; refine ⟨?_, ?_⟩; (focus ((repeat' (first | exact trivial | (refine ⟨?_, ?_⟩; (focus ((repeat' (first | exact At.head | apply At.tail | apply At.right)); done)))))))) <;> (apply A.one 8; kernel_rfl; exact rfl; (((apply R.store; (iterate 4 exact rfl); exact hdls; exact hdo; (focus ((repeat' (first | exact Upd.head | apply Upd.right)); done)); exact setE_all hdls))); apply R.nil; refine ⟨?_, ?_⟩; (focus ((repeat' (first | exact trivial | (refine ⟨?_, ?_⟩; (focus ((repeat' (first | exact At.head | apply At.tail | apply At.right)); done)))))))) <;> (apply A.done; kernel_rfl))); rotate_right 1; (focus (((((apply R.appendRd (xs := b) (v := u8V) (sz := 1) (ov := some (b0, 0, [])) (n := 64) (old := u8s f1); (iterate 12 exact rfl); exact hF1 b0; (focus ((repeat' (exact Ext.one _ _)); done)); exact rfl; exact u8V_len; exact rfl; (intro w1 hw1; exact hpb.chg' hw1.chg (fun _ => Off.nil _)); (focus (rw [fl_u8]; exact u8s_one b)); omega; intro ov1 hov1 hsome; rw [fl_u8, ← u8s_app] at hov1; rw [fl_u8, ← u8s_app, slV_eq hov1]))); apply R.nil; refine ⟨?_, ?_⟩; (focus ((repeat' (first | exact trivial | (refine ⟨?_, ?_⟩; (focus ((repeat' (first | exact At.head | apply At.tail | apply At.right)); done)))))))) <;> (apply A.two 6 7; kernel_rfl; exact rfl; exact rfl; rotate_left 1; (focus (((((apply R.alloc; (iterate 3 exact rfl); intro))); apply R.nil; refine ⟨?_, ?_⟩; (focus ((repeat' (first | exact trivial | (refine ⟨?_, ?_⟩; (focus ((repeat' (first | exact At.head | apply At.tail | apply At.right)); done)))))))) <;> (apply A.one 6; kernel_rfl; exact rfl; (((apply R.callV (vs := [.agg ⟨tv⟩, .slice (ovp ov1) _ _]); (iterate 3 exact rfl); intro w1 hw1; exact hs1 hov1 hw1 (Ext.mem (by (focus ((repeat' (first | exact Ext.here _ _ | apply Ext.cons)); done))))))); apply R.nil; refine ⟨?_, ?_⟩; (focus ((repeat' (first | exact trivial | (refine ⟨?_, ?_⟩; (focus ((repeat' (first | exact At.head | apply At.tail | apply At.right)); done)))))))) <;> (apply A.one 8; kernel_rfl; exact rfl; (((apply R.store; (iterate 4 exact rfl); exact hdls; exact hdo; exact Upd.head; exact setE_all hdls))); apply R.nil; refine ⟨?_, ?_⟩; (focus ((repeat' (first | exact trivial | (refine ⟨?_, ?_⟩; (focus ((repeat' (first | exact At.head | apply At.tail | apply At.right)); done)))))))) <;> (apply A.done; kernel_rfl))); rotate_right 1; (focus (((((apply R.callV (vs := [.agg ⟨tv⟩, .slice (ovp ov1) _ _]); (iterate 3 exact rfl); intro w1 hw1; exact hs1 hov1 hw1 (Ext.mem (by (focus ((repeat' (exact Ext.here _ _)); done))))))); apply R.nil; refine ⟨?_, ?_⟩; (focus ((repeat' (first | exact trivial | (refine ⟨?_, ?_⟩; (focus ((repeat' (first | exact At.head | apply At.tail | apply At.right)); done)))))))) <;> (apply A.one 7; kernel_rfl; exact rfl; (((apply R.alloc; (iterate 3 exact rfl); intro))); apply R.nil; refine ⟨?_, ?_⟩; (focus ((repeat' (first | exact trivial | (refine ⟨?_, ?_⟩; (focus ((repeat' (first | exact At.head | apply At.tail | apply At.right)); done)))))))) <;> (apply A.one 8; kernel_rfl; exact rfl; (((apply R.store; (iterate 4 exact rfl); exact hdls; exact hdo; exact Upd.head; exact setE_all hdls))); apply R.nil; refine ⟨?_, ?_⟩; (focus ((repeat' (first | exact trivial | (refine ⟨?_, ?_⟩; (focus ((repeat' (first | exact At.head | apply At.tail | apply At.right)); done)))))))) <;> (apply A.done; kernel_rfl))))))))))))))
    all_goals exact ⟨(_, _, _), trivial, ⟨rfl, rfl, rfl, rfl, trivial⟩, by (focus ((repeat' (first | exact Keep.nil _ | exact Ext.one _ _ | apply Keep.cons | apply Ext.app)); done))⟩
  · rintro ⟨b7, bT, bO⟩ _
    repeat' ((apply T.is; first | (apply T.drawC (id := 2) [2] (by decide); ((apply A.take 0; exact rfl; exact rfl; kernel_rfl; kernel_rfl; kernel_rfl; (apply Ok1.load; exact rfl; apply Ld.ownk; exact rfl; exact rfl; exact At.head; exact subE_all htl)) <;> (apply A.take 1; exact rfl; exact rfl; kernel_rfl; kernel_rfl; kernel_rfl; (apply Ok1.load; exact rfl; apply Ld.ownk; exact rfl; exact rfl; exact At.head; exact subE_all htl)) <;> (apply A.take 2; exact rfl; exact rfl; kernel_rfl; kernel_rfl; kernel_rfl; (apply Ok1.move; exact rfl)) <;> (apply A.take 4; exact rfl; exact rfl; kernel_rfl; kernel_rfl; kernel_rfl; (apply Ok1.sliceArr; (iterate 4 exact rfl))) <;> (apply A.one 3; kernel_rfl; exact rfl; (((apply R.callE (vs := [.agg ⟨tv⟩, .slice p k.length cap, .int .u8 92]); (iterate 3 exact rfl); exact Ext.none _; intro w1 hw1; exact hfil2 w1 hw1.chg; rintro v Lo ⟨b0, rfl, rfl⟩))); apply R.nil; refine ⟨?_, ?_⟩; (focus ((repeat' (first | exact trivial | (refine ⟨?_, ?_⟩; (focus ((repeat' (first | exact At.head | apply At.tail)); done)))))))) <;> (apply A.one 5; kernel_rfl; exact rfl; (((apply R.appendRd (xs := d) (v := u8V) (sz := 1) (ov := some (b0, 0, [])) (n := 64) (old := u8s f2); (iterate 12 exact rfl); exact hF2 b0; (focus ((repeat' (exact Ext.one _ _)); done)); exact hdl.symm; exact u8V_len; exact rfl; (intro w1 hw1; exact RdSl.of (junk := []) hw1 (by (focus ((repeat' (first | exact At.head | apply At.tail)); done))) (by rw [fl_u8, List.append_nil])); (focus (rw [fl_u8]; exact u8s_one d)); omega; intro ov1 hov1 hsome; rw [fl_u8, ← u8s_app] at hov1; rw [fl_u8, ← u8s_app, slV_eq hov1]))); apply R.nil; refine ⟨?_, ?_⟩; (focus ((repeat' (first | exact trivial | (refine ⟨?_, ?_⟩; (focus ((repeat' (first | exact At.head | apply At.tail | apply At.right)); done)))))))) <;> (apply A.one 6; kernel_rfl; exact rfl; (((apply R.callV (vs := [.agg ⟨tv⟩, .slice (ovp ov1) _ _]); (iterate 3 exact rfl); intro w1 hw1; exact hs2 hov1 hw1 (Ext.mem (by (focus ((repeat' (exact Ext.here _ _)); done))))))); apply R.nil; refine ⟨?_, ?_⟩; (focus ((repeat' (first | exact trivial | (refine ⟨?_, ?_⟩; (focus ((repeat' (first | exact At.head | apply At.tail | apply At.right)); done)))))))) <;> (apply A.one 7; kernel_rfl; exact rfl; (((apply R.store; (iterate 4 exact rfl); exact hhl; exact hho; (focus ((repeat' (first | exact Upd.head | apply Upd.tail | apply Upd.right)); done)); exact setE_all hhl))); apply R.nil; refine ⟨?_, ?_⟩; (focus ((repeat' (first | exact trivial | (refine ⟨?_, ?_⟩; (focus ((repeat' (first | exact At.head | apply At.tail | apply At.right)); done)))))))) <;> (apply A.done; kernel_rfl))) | apply T.seq | apply T.ret))
    all_goals apply RetOk.c
    all_goals first | exact rfl | skip
    all_goals (apply Ld.ownk; exact rfl; exact rfl; (focus ((repeat' (first | exact At.head | apply At.tail | apply At.right)); done)); exact subE_all hhl)
end Go.Proofs.YtidjnjlejhoalaaGreat
set_option linter.unusedSimpArgs false
set_option linter.unusedVariables false
namespace Go.Proofs.YtidjnjlejhoalaaGreat
open Go.RowKit Go.Shelf
set_option maxRecDepth 100000
def fr (ps : List Pt) : List Int := frameI (ps.map (·.xs))
theorem fr_snoc {ps : List Pt} {i : Nat} {x : Pt} (h : ps[i]? = some x) : fr (ps.take (i + 1)) = (fr (ps.take i) ++ len4 x.xs.length) ++ x.xs := by
  unfold fr
  rw [List.take_add_one, h, List.map_append, frame_app]
  simp [frame_one]
theorem fr_le (ps : List Pt) (i : Nat) : (fr (ps.take i)).length ≤ (fr ps).length := by
  conv => rhs; rw [← List.take_append_drop i ps]
  unfold fr
  rw [List.map_append, frame_app, List.length_append]
  omega
theorem vframe_ok (pp : Option Addr) (m cap : Nat) (ps : List Pt) (hm : m = ps.length) (hm2 : m ≤ 100000) (hbig : (fr ps).length ≤ 1000000000) (hbig1 : ∀ x ∈ ps, x.xs.length ≤ 1000000000) (w : World) (hp : RdSl w pp Pt.v ps) (hall : ∀ x ∈ ps, RdSl w x.p u8V x.xs) :
    CallM Tryz.prog 250 [.slice pp m cap] [] w fun v L => ∃ ov, OvOk 1 ov (fr ps).length (u8s (fr ps)) ∧ v = slV ov (fr ps).length ∧ L = blkL 5 ov (u8s (fr ps)) := by
  subst hm
  refine enterK (tb := tb) Tryz.func250 rfl Tryz.ntmps250 rfl ?_
  repeat' (first | (apply R.is1; (apply R.pure; exact rfl; (apply Ok1.assign; exact rfl))) | apply R.nil | (apply T.is; first | apply T.seq | apply T.region | apply T.block))
  apply T.loopK (α := Nat × Ov) (I := fun y => y.1 ≤ ps.length ∧ OvOk 1 y.2 (fr (ps.take y.1)).length (u8s (fr (ps.take y.1)))) (σi := fun y => [(0, .slice pp ps.length cap), (3, slV y.2 (fr (ps.take y.1)).length), (4, .int .i64 y.1)]) (Li := fun y => blkL 5 y.2 (u8s (fr (ps.take y.1)))) (μ := fun y => ps.length - y.1) (i0 := (0, none))
  · exact ⟨Nat.zero_le _, OvOk.start 1⟩
  · exact ⟨rfl, rfl, rfl, trivial⟩
  · (focus ((repeat' (exact Keep.nil _)); done))
  · rintro ⟨i, ov⟩ ⟨hi, hov⟩
    simp only at hi hov ⊢
    rcases Nat.lt_or_ge i ps.length with hlt | hge
    · obtain ⟨x, hx⟩ : ∃ x, ps[i]? = some x := ⟨_, List.getElem?_eq_getElem (by omega)⟩
      obtain ⟨b, o, hpe, H⟩ := hp.at hx
      replace H := H 1 Pt.v_len
      have hs := fr_snoc hx
      have hle := fr_le ps (i + 1)
      have hrd := hall x (List.mem_of_getElem? hx)
      have hxb := hbig1 x (List.mem_of_getElem? hx)
      have h4 : (len4 (x.xs.length : Int)).length = 4 := rfl
      have hl := congrArg List.length hs
      rw [List.length_append, List.length_append, h4] at hl
      rw [hs] at hle
      rw [List.length_append, List.length_append, h4] at hle
      generalize fr (ps.take i) = a at *
      have hc4 : u8s (len4 x.xs.length) = [.int .u8 (IntKind.u8.wrap ((x.xs.length : Int) / 16777216)), .int .u8 (IntKind.u8.wrap ((x.xs.length : Int) / 65536 % 256)), .int .u8 (IntKind.u8.wrap ((x.xs.length : Int) / 256 % 256)), .int .u8 (IntKind.u8.wrap ((x.xs.length : Int) % 256))] := by
        simp only [u8_mod, Int.emod_emod_of_dvd _ (Int.dvd_refl 256)]
        rfl
      have hc5 : u8s (len4 x.xs.length) = [.int .u8 ((x.xs.length : Int) / 16777216), .int .u8 ((x.xs.length : Int) / 65536 % 256), .int .u8 ((x.xs.length : Int) / 256 % 256), .int .u8 ((x.xs.length : Int) % 256)] := by
        have : (x.xs.length : Int) / 16777216 % 256 = (x.xs.length : Int) / 16777216 := by omega
        simp only [len4, u8s, List.map_cons, List.map_nil, this]
      generalize len4 x.xs.length = l4 at *
      repeat' (first | (apply R.is1; first | (apply R.isBin; (apply R.pure; exact rfl; first | (apply Ok1.add64; exact rfl; exact rfl; omega; omega) | (apply Ok1.lss_t; exact rfl; exact rfl; omega) | (apply Ok1.quo64; exact rfl; exact rfl; omega; omega; omega) | (apply Ok1.remN; exact rfl; exact rfl; omega; omega))) | (apply R.isCall; first | (apply R.appendRd (xs := l4) (v := u8V) (sz := 1) (ov := ov) (n := a.length) (old := u8s a); (iterate 12 exact rfl); exact hov; (focus ((repeat' (first | exact Ext.all _ | apply Ext.cons)); done)); exact h4.symm; exact u8V_len; exact rfl; (intro w1 hw1; exact RdSl.of (junk := []) hw1 (by exact At.head) (by rw [fl_u8, List.append_nil]; exact hc5.symm)); (focus (rw [fl_u8]; exact u8s_one l4)); omega; intro ov1 hov1 hsome; rw [fl_u8, ← u8s_app] at hov1; rw [fl_u8, ← u8s_app]) | (apply R.appendRd (xs := x.xs) (v := u8V) (sz := 1) (ov := ov1) (n := a.length + 4) (old := u8s (a ++ l4)); (iterate 12 exact rfl); exact hov1; (focus ((repeat' (exact Ext.here _ _)); done)); exact rfl; exact u8V_len; exact rfl; (intro w1 hw1; exact hrd.chg' hw1.chg (fun _ => Off.nil _)); (focus (rw [fl_u8]; exact u8s_one x.xs)); omega; intro ov2 hov2 hsome2; rw [fl_u8, ← u8s_app] at hov2; rw [fl_u8, ← u8s_app]) | (apply R.pure; exact rfl; (apply Ok1.lenS; (iterate 3 exact rfl)))) | (apply R.pure; exact rfl; first | (apply Ok1.indexAddrP; (iterate 4 exact rfl); exact hpe; exact rfl; omega; omega) | (apply Ok1.load; exact rfl; apply Ld.row0 H; exact rfl; exact List.not_mem_nil; (iterate 3 exact rfl)) | (apply Ok1.move; exact rfl) | (apply Ok1.assign; exact rfl) | (apply Ok1.convU8; (iterate 5 exact rfl); omega; omega)) | (apply R.buildSlice; (iterate 12 exact rfl); intro)) | apply R.nil | (apply T.is; first | apply T.seq | apply T.region | apply T.block | apply T.skip | (apply T.cond_t; exact rfl)))
      refine ⟨(i + 1, ov2), ⟨by simp only; omega, ?_⟩, by simp only; omega, ⟨rfl, ?_, rfl, trivial⟩, ?_⟩
      · simp only [hs]; rw [← hs, hl, hs]; exact hov2
      · simp only [hl]; rfl
      · simp only [hs]; (focus ((repeat' (first | exact Ext.here _ _ | apply Keep.last)); done))
    · have him : i = ps.length := by omega
      subst him
      rw [List.take_length] at hov ⊢
      repeat' (first | (apply R.is1; first | (apply R.isBin; (apply R.pure; exact rfl; (apply Ok1.lss_f; exact rfl; exact rfl; omega))) | (apply R.isCall; (apply R.pure; exact rfl; (apply Ok1.lenS; (iterate 3 exact rfl)))) | (apply R.pure; exact rfl; first | (apply Ok1.move; exact rfl) | (apply Ok1.assign; exact rfl))) | apply R.nil | (apply T.is; first | apply T.seq | apply T.region | apply T.exit | apply T.ret | (apply T.cond_f; exact rfl)))
      (apply RetOk.t; exact rfl)
      exact ⟨_, by (focus ((repeat' (first | exact Ext.all _ | apply Keep.last)); done)), ov, hov, rfl, rfl⟩
theorem vderive_ok (p : Option Addr) (n cap : Nat) (k : List Int) (hn : n = k.length) (hkl : n ≤ 999999000) (hkb : Byt k) (name : ByteArray) (hname : name.size ≤ 1000000) (pp : Option Addr) (m cp : Nat) (ps : List Pt) (hm : m = ps.length) (hm2 : m ≤ 10000) (hpb : ∀ x ∈ ps, Byt x.xs) (hbig : (frameI (strI name :: ps.map (·.xs))).length ≤ 999998000) (hbig1 : ∀ x ∈ ps, x.xs.length ≤ 1000000000) (w : World) (hpk : RdSl w p u8V k) (hp : RdSl w pp Pt.v ps) (hall : ∀ x ∈ ps, RdSl w x.p u8V x.xs) :
    CallW Tryz.prog 249 [.agg ⟨tabV⟩, .slice p n cap, .string name, .slice pp m cp] w fun v _ => v = .agg ⟨u8s (deriveI k name (ps.map (·.xs)))⟩ := by
  subst hn hm
  have htl := tab_len
  have hto : tabV.all Value.oneCell' = true := rfl
  have hnl : (strI name).length = name.size := by simp [strI]
  have hfb : Byt (frameI (strI name :: ps.map (·.xs))) := frame_byt fun l hl => by
    rcases List.mem_cons.1 hl with rfl | hl
    · exact str_byt _
    · obtain ⟨x, hx, rfl⟩ := List.mem_map.1 hl
      exact hpb x hx
  have hdl := derive_len k name (ps.map (·.xs))
  have hdd : deriveI k name (ps.map (·.xs)) = hmacI k (frameI (strI name :: ps.map (·.xs))) := rfl
  have hpt : ∀ bn jn : Nat, [Value.slice (some ⟨bn, 0, none⟩) name.size (name.size + jn)] = fl Pt.v [⟨some ⟨bn, 0, none⟩, name.size + jn, strI name⟩] := by intro bn jn; simp [fl, Pt.v, hnl]
  have hfr : ∀ (bn jn : Nat) w1 pl cl, Chg [] w w1 → RdSl w1 pl Pt.v (⟨some ⟨bn, 0, none⟩, name.size + jn, strI name⟩ :: ps) → RdSl w1 (some ⟨bn, 0, none⟩) u8V (strI name) → CallM Tryz.prog 250 [.slice pl (1 + ps.length) cl] [] w1 fun v L => ∃ ov, OvOk 1 ov (frameI (strI name :: ps.map (·.xs))).length (u8s (frameI (strI name :: ps.map (·.xs)))) ∧ v = slV ov (frameI (strI name :: ps.map (·.xs))).length ∧ L = blkL 5 ov (u8s (frameI (strI name :: ps.map (·.xs)))) := by
    intro bn jn w1 pl cl hc h1 h2
    refine vframe_ok pl (1 + ps.length) cl (⟨some ⟨bn, 0, none⟩, name.size + jn, strI name⟩ :: ps) (by rw [List.length_cons]; omega) (by omega) (Nat.le_trans hbig (by decide)) ?_ w1 h1 ?_
    · intro x hx
      rcases List.mem_cons.1 hx with rfl | hx
      · simp only [hnl]; omega
      · exact hbig1 x hx
    · intro x hx
      rcases List.mem_cons.1 hx with rfl | hx
      · exact h2
      · exact (hall x hx).chg' hc (fun _ => Off.nil _)
  have htg := fun pb cb w1 (hc : Chg [] w w1) hb => vtag_ok p k.length cap k rfl hkl hkb pb _ cb (frameI (strI name :: ps.map (·.xs))) rfl hfb hbig w1 (hpk.chg' hc (fun _ => Off.nil _)) hb
  rw [← hdd] at htg
  generalize frameI (strI name :: ps.map (·.xs)) = fr0 at *
  generalize deriveI k name (ps.map (·.xs)) = d0 at *
  have hls : (u8s d0).length = 32 := by rw [u8s_len, hdl]
  have hone := u8s_one d0
  have hpo : (fl Pt.v ps).all Value.oneCell' = true := by rw [List.all_eq_true]; intro x hx; unfold fl at hx; simp only [List.mem_flatten, List.mem_map] at hx; obtain ⟨_, ⟨y, _, rfl⟩, hx⟩ := hx; rw [List.mem_singleton.1 hx]; rfl
  generalize tabV = tv at *
  refine enterW (tb := tb) Tryz.func249 rfl Tryz.ntmps249 rfl ?_
  repeat' (first | (apply R.is1; first | (apply R.box; (iterate 3 exact rfl); intro) | (apply R.alloc; (iterate 3 exact rfl); intro)) | apply R.nil | (apply T.is; first | (apply T.drawC (id := 1) [1] (by decide); ((apply A.take 0; exact rfl; exact rfl; kernel_rfl; kernel_rfl; kernel_rfl; (apply Ok1.load; exact rfl; apply Ld.ownk; exact rfl; exact rfl; exact At.head; exact subE_all htl)) <;> (apply A.take 1; exact rfl; exact rfl; kernel_rfl; kernel_rfl; kernel_rfl; (apply Ok1.move; exact rfl)) <;> (apply A.take 2; exact rfl; exact rfl; kernel_rfl; kernel_rfl; kernel_rfl; (apply Ok1.move; exact rfl)) <;> (apply A.take 5; exact rfl; exact rfl; kernel_rfl; kernel_rfl; kernel_rfl; (apply Ok1.move; exact rfl)) <;> (apply A.one 3; kernel_rfl; exact rfl; (((apply R.convBytes; (iterate 8 exact rfl); intro bn jn kn))); apply R.nil; refine ⟨?_, ?_⟩; (focus ((repeat' (first | exact trivial | (refine ⟨?_, ?_⟩; (focus ((repeat' (first | exact At.head | apply At.tail)); done)))))))) <;> (apply A.one 4; kernel_rfl; exact rfl; (((apply R.buildSlice; (iterate 12 exact rfl); intro))); apply R.nil; refine ⟨?_, ?_⟩; (focus ((repeat' (first | exact trivial | (refine ⟨?_, ?_⟩; (focus ((repeat' (first | exact At.head | apply At.tail)); done)))))))) <;> (apply A.one 6; kernel_rfl; exact rfl; (((apply R.appendRd (xs := ps) (v := Pt.v) (sz := 1) (ov := some (_, 0, [])) (n := 1) (old := [.slice (some ⟨bn, 0, none⟩) name.size (name.size + jn)]); (iterate 12 exact rfl); exact ⟨rfl, rfl⟩; (focus ((repeat' (exact Ext.one _ _)); done)); exact rfl; exact Pt.v_len; exact rfl; (intro w1 hw1; exact hp.chg' hw1.chg (fun _ => Off.nil _)); exact hpo; omega; intro ov1 hov1 hsome; rw [hpt bn jn, ← fl_app] at hov1; rw [hpt bn jn, ← fl_app, slV_eq hov1]))); apply R.nil; refine ⟨?_, ?_⟩; (focus ((repeat' (first | exact trivial | (refine ⟨?_, ?_⟩; (focus ((repeat' (first | exact At.head | apply At.tail | apply At.right)); done)))))))) <;> (apply A.one 7; kernel_rfl; exact rfl; (((apply R.callE (vs := [.slice (ovp ov1) (1 + ps.length) _]); (iterate 3 exact rfl); exact Ext.none _; intro w1 hw1; exact hfr bn jn w1 _ _ hw1.chg (RdSl.own' (sz := 1) hw1 (Ext.mem (by (focus ((repeat' (exact Ext.here _ _)); done)))) (by show OvOk 1 ov1 (ps.length + 1) _; rw [Nat.add_comm ps.length 1]; exact hov1) Pt.v_len) (RdSl.of (junk := kn) hw1 (by (focus ((repeat' (first | exact At.head | apply At.right)); done))) (by rw [fl_u8]; rfl)); rintro v Lo ⟨ov2, hov2, rfl, rfl⟩; rw [slV_eq hov2]))); apply R.nil; refine ⟨?_, ?_⟩; (focus ((repeat' (first | exact trivial | (refine ⟨?_, ?_⟩; (focus ((repeat' (first | exact At.head | apply At.tail | apply At.right)); done)))))))) <;> (apply A.one 8; kernel_rfl; exact rfl; (((apply R.callV (vs := [.agg ⟨tv⟩, .slice p k.length cap, .slice (ovp ov2) fr0.length _]); (iterate 3 exact rfl); intro w1 hw1; exact htg _ _ w1 hw1.chg (rdown hov2 hw1 (Ext.mem (by (focus ((repeat' (exact Ext.here _ _)); done)))))))); apply R.nil; refine ⟨?_, ?_⟩; (focus ((repeat' (first | exact trivial | (refine ⟨?_, ?_⟩; (focus ((repeat' (first | exact At.head | apply At.tail | apply At.right)); done)))))))) <;> (apply A.one 9; kernel_rfl; exact rfl; (((apply R.store; (iterate 4 exact rfl); exact hls; exact hone; (focus ((repeat' (first | exact Upd.head | apply Upd.tail | apply Upd.right)); done)); exact setE_all hls))); apply R.nil; refine ⟨?_, ?_⟩; (focus ((repeat' (first | exact trivial | (refine ⟨?_, ?_⟩; (focus ((repeat' (first | exact At.head | apply At.tail | apply At.right)); done)))))))) <;> (apply A.done; kernel_rfl))) | apply T.seq | apply T.region | apply T.ret))
  all_goals apply RetOk.c
  all_goals first | exact rfl | skip
  all_goals (apply Ld.ownk; exact rfl; exact rfl; (focus ((repeat' (first | exact At.head | apply At.tail | apply At.right)); done)); exact subE_all hls)
end Go.Proofs.YtidjnjlejhoalaaGreat
set_option linter.unusedSimpArgs false
set_option linter.unusedVariables false
namespace Go.Proofs.YtidjnjlejhoalaaGreat
open Go.RowKit Go.Shelf
set_option maxRecDepth 100000
def clI (c : Cl) : List Int := ((([] ++ numI 1 c.id) ++ numI 0 c.roles) ++ numI 2 c.exp) ++ numI 1 c.ser
theorem clI_len (c : Cl) : (clI c).length = 9 := rfl
theorem byt_nil : Byt [] := fun x hx => by cases hx
theorem clI_byt (c : Cl) : Byt (clI c) := Byt.app (Byt.app (Byt.app (Byt.app byt_nil (num_byt _ _)) (num_byt _ _)) (num_byt _ _)) (num_byt _ _)
theorem clBytes_ok (c : Cl) (hr : c.right) (w : World) : CallM Tryz.prog 91 [kvC c] [] w fun v L => ∃ ov, OvOk 1 ov 9 (u8s (clI c)) ∧ v = .tuple #[slV ov 9, .int .i64 0] ∧ L = blkL 5 ov (u8s (clI c)) := by
  have hck := check_ok c.id c.roles c.exp c.ser
  rw [if_pos hr] at hck
  have hf1 : Fits 1 c.id := by unfold Cl.right at hr; unfold Fits; omega
  have hf2 : Fits 0 c.roles := by unfold Cl.right at hr; unfold Fits; omega
  have hf3 : Fits 2 c.exp := by unfold Cl.right at hr; unfold Fits; omega
  have hf4 : Fits 1 c.ser := by unfold Cl.right at hr; unfold Fits; omega
  refine enterK (tb := tb) Tryz.func91 rfl Tryz.ntmps91 rfl ?_
  simp only [kvC]
  repeat' (first | (apply R.is1; first | (apply R.isBin; (apply R.pure; exact rfl; (apply Ok1.neq_f; exact rfl; exact rfl; omega))) | (apply R.isCall; apply R.callP rfl rfl rfl hck) | (apply R.pure; exact rfl; first | (apply Ok1.move; exact rfl) | (apply Ok1.load; exact rfl; (apply Ld.ownk; exact rfl; exact rfl; exact At.head; exact rfl)) | (apply Ok1.assign; exact rfl)) | (apply R.box; (iterate 3 exact rfl); intro) | (apply R.alloc; (iterate 3 exact rfl); intro)) | apply R.nil | (apply T.is; first | apply T.seq | apply T.region | apply T.skip | (apply T.cond_f; exact rfl)))
  rename_i bc bw
  obtain ⟨B0, hB0⟩ : ∃ B : List Int, B = [] := ⟨_, rfl⟩
  obtain ⟨B1, hB1⟩ : ∃ B, B = B0 ++ numI 1 c.id := ⟨_, rfl⟩
  obtain ⟨B2, hB2⟩ : ∃ B, B = B1 ++ numI 0 c.roles := ⟨_, rfl⟩
  obtain ⟨B3, hB3⟩ : ∃ B, B = B2 ++ numI 2 c.exp := ⟨_, rfl⟩
  obtain ⟨B4, hB4⟩ : ∃ B, B = B3 ++ numI 1 c.ser := ⟨_, rfl⟩
  have hl0 : B0.length ≤ 1000 := by rw [hB0]; decide
  have hl1 : B1.length ≤ 1000 := by rw [hB1, hB0]; exact Nat.le_of_ble_eq_true rfl
  have hl2 : B2.length ≤ 1000 := by rw [hB2, hB1, hB0]; exact Nat.le_of_ble_eq_true rfl
  have hl3 : B3.length ≤ 1000 := by rw [hB3, hB2, hB1, hB0]; exact Nat.le_of_ble_eq_true rfl
  have hB : B4 = clI c := by rw [hB4, hB3, hB2, hB1, hB0]; rfl
  have hw0 : OvOk 1 none B0.length (u8s B0) := by rw [hB0]; exact OvOk.start 1
  apply T.drawC (id := 5) [1] (by decide)
  (apply A.take 0; exact rfl; exact rfl; kernel_rfl; kernel_rfl; kernel_rfl; (apply Ok1.fieldAddr; (iterate 5 exact rfl))) <;> (apply A.take 1; exact rfl; exact rfl; kernel_rfl; kernel_rfl; kernel_rfl; (apply Ok1.load; exact rfl; (apply Ld.own1; exact rfl; exact rfl; exact At.head; exact rfl))) <;> (apply A.take 4; exact rfl; exact rfl; kernel_rfl; kernel_rfl; kernel_rfl; (apply Ok1.fieldAddr; (iterate 5 exact rfl))) <;> (apply A.take 5; exact rfl; exact rfl; kernel_rfl; kernel_rfl; kernel_rfl; (apply Ok1.load; exact rfl; (apply Ld.own1; exact rfl; exact rfl; exact At.head; exact rfl))) <;> (apply A.take 8; exact rfl; exact rfl; kernel_rfl; kernel_rfl; kernel_rfl; (apply Ok1.fieldAddr; (iterate 5 exact rfl))) <;> (apply A.take 9; exact rfl; exact rfl; kernel_rfl; kernel_rfl; kernel_rfl; (apply Ok1.load; exact rfl; (apply Ld.own1; exact rfl; exact rfl; exact At.head; exact rfl))) <;> (apply A.take 12; exact rfl; exact rfl; kernel_rfl; kernel_rfl; kernel_rfl; (apply Ok1.fieldAddr; (iterate 5 exact rfl))) <;> (apply A.take 13; exact rfl; exact rfl; kernel_rfl; kernel_rfl; kernel_rfl; (apply Ok1.load; exact rfl; (apply Ld.own1; exact rfl; exact rfl; exact At.head; exact rfl)))
  refine A.merge (fun σ L => ∃ (ov : Ov), OvOk 1 ov B4.length (u8s B4) ∧ Sub [(5, .pointer (some ⟨bw, 0, none⟩)), (12, .int .i64 c.id), (16, .int .i64 c.roles), (20, .int .i64 c.exp), (24, .int .i64 c.ser), (26, .pointer (some ⟨bw, 0, none⟩))] σ ∧ Keep L (WL bw ov B4 ++ [(bc, .cells ⟨[.int .i64 c.id, .int .i64 c.roles, .int .i64 c.exp, .int .i64 c.ser]⟩ 40 (0, 0))])) 5 #[true, true, true, true, true, true, true, true, true, true, true, true, true, true, true, true, false, false, false, false, false] ?_ ?_
  rotate_left 1
  focus
    intro H4_
    refine A.merge (fun σ L => ∃ (ov : Ov) (b3 : Nat), OvOk 1 ov B3.length (u8s B3) ∧ Sub [(5, .pointer (some ⟨bw, 0, none⟩)), (12, .int .i64 c.id), (16, .int .i64 c.roles), (20, .int .i64 c.exp), (24, .int .i64 c.ser), (22, .pointer (some ⟨bw, 0, none⟩)), (25, .slice (some ⟨b3, 0, none⟩) 1 1)] σ ∧ Keep L (WL bw ov B3 ++ [(bc, .cells ⟨[.int .i64 c.id, .int .i64 c.roles, .int .i64 c.exp, .int .i64 c.ser]⟩ 40 (0, 0)), (b3, .cells ⟨[.int .i64 c.ser]⟩ 3 (0, 0))])) 6 #[true, true, true, true, true, true, true, true, true, true, true, true, true, true, true, false, false, false, false, false, false] ?_ ?_
    · rintro σ L ⟨ov, b3, hov, hs, hk⟩
      refine A.weak ?_ hs hk
      refine A.multi [15] (by kernel_rfl) (by decide) ⟨⟨_, rfl, ?_⟩, trivial⟩
      · (apply R.callE (Li := WL bw ov B3); (iterate 3 exact rfl); (focus ((repeat' (exact Ext.here _ _)); done)); intro w1 hw1; have h9 := number1_ok bw ov B3 hov 1 c.ser hf4 hl3 b3 _ _ w1 (hw1.get _ _ (At.mem (by (focus ((repeat' (first | exact At.head | apply At.tail | apply At.right)); done))))) (RdSl.off hw1 (by (focus ((repeat' (exact Ext.here _ _)); done))) (At.mem (by (focus ((repeat' (first | exact At.head | apply At.tail)); done))))); rw [← hB4] at h9; exact h9; rintro v Lo ⟨ov1, rfl, hov1, rfl⟩); apply R.nil; refine ⟨(by (focus ((repeat' (first | exact trivial | (refine ⟨?_, ?_⟩; (focus ((repeat' (first | exact At.head | apply At.tail | apply At.right)); done)))))))), A.cast (by kernel_rfl) (H4_ _ _ ⟨ov1, hov1, ⟨rfl, rfl, rfl, rfl, rfl, rfl, trivial⟩, (by (focus ((repeat' (first | exact Keep.nil _ | exact Ext.one _ _ | exact Ext.here _ _ | apply Keep.cons | apply Keep.app)); done)))⟩)⟩
    intro H3_3
    refine A.merge (fun σ L => ∃ (ov : Ov), OvOk 1 ov B3.length (u8s B3) ∧ Sub [(5, .pointer (some ⟨bw, 0, none⟩)), (12, .int .i64 c.id), (16, .int .i64 c.roles), (20, .int .i64 c.exp), (24, .int .i64 c.ser), (22, .pointer (some ⟨bw, 0, none⟩))] σ ∧ Keep L (WL bw ov B3 ++ [(bc, .cells ⟨[.int .i64 c.id, .int .i64 c.roles, .int .i64 c.exp, .int .i64 c.ser]⟩ 40 (0, 0))])) 7 #[true, true, true, true, true, true, true, true, true, true, true, true, true, true, false, false, false, false, false, false, false] ?_ ?_
    · rintro σ L ⟨ov, hov, hs, hk⟩
      refine A.weak ?_ hs hk
      refine A.multi [14] (by kernel_rfl) (by decide) ⟨⟨_, rfl, ?_⟩, trivial⟩
      · (((apply R.buildSlice; (iterate 12 exact rfl); intro))); rename_i b3; apply R.nil; refine ⟨(by (focus ((repeat' (first | exact trivial | (refine ⟨?_, ?_⟩; (focus ((repeat' (first | exact At.head | apply At.tail | apply At.right)); done)))))))), A.cast (by kernel_rfl) (H3_3 _ _ ⟨ov, b3, hov, ⟨rfl, rfl, rfl, rfl, rfl, rfl, rfl, trivial⟩, (by (focus ((repeat' (first | exact Keep.nil _ | exact Ext.one _ _ | exact Ext.here _ _ | apply Keep.cons | apply Keep.app | apply Ext.cons)); done)))⟩)⟩
    intro H3_
    refine A.merge (fun σ L => ∃ (ov : Ov) (b2 : Nat) (b3 : Nat), OvOk 1 ov B2.length (u8s B2) ∧ Sub [(5, .pointer (some ⟨bw, 0, none⟩)), (12, .int .i64 c.id), (16, .int .i64 c.roles), (20, .int .i64 c.exp), (24, .int .i64 c.ser), (18, .pointer (some ⟨bw, 0, none⟩)), (21, .slice (some ⟨b2, 0, none⟩) 1 1), (25, .slice (some ⟨b3, 0, none⟩) 1 1)] σ ∧ Keep L (WL bw ov B2 ++ [(bc, .cells ⟨[.int .i64 c.id, .int .i64 c.roles, .int .i64 c.exp, .int .i64 c.ser]⟩ 40 (0, 0)), (b2, .cells ⟨[.int .i64 c.exp]⟩ 3 (0, 0)), (b3, .cells ⟨[.int .i64 c.ser]⟩ 3 (0, 0))])) 7 #[true, true, true, true, true, true, true, true, true, true, true, false, true, true, true, false, false, false, false, false, false] ?_ ?_
    · rintro σ L ⟨ov, b2, b3, hov, hs, hk⟩
      refine A.weak ?_ hs hk
      refine A.multi [11] (by kernel_rfl) (by decide) ⟨⟨_, rfl, ?_⟩, trivial⟩
      · (apply R.callE (Li := WL bw ov B2); (iterate 3 exact rfl); (focus ((repeat' (exact Ext.here _ _)); done)); intro w1 hw1; have h9 := number1_ok bw ov B2 hov 2 c.exp hf3 hl2 b2 _ _ w1 (hw1.get _ _ (At.mem (by (focus ((repeat' (first | exact At.head | apply At.tail | apply At.right)); done))))) (RdSl.off hw1 (by (focus ((repeat' (exact Ext.here _ _)); done))) (At.mem (by (focus ((repeat' (first | exact At.head | apply At.tail)); done))))); rw [← hB3] at h9; exact h9; rintro v Lo ⟨ov1, rfl, hov1, rfl⟩); apply R.nil; refine ⟨(by (focus ((repeat' (first | exact trivial | (refine ⟨?_, ?_⟩; (focus ((repeat' (first | exact At.head | apply At.tail | apply At.right)); done)))))))), A.cast (by kernel_rfl) (H3_3 _ _ ⟨ov1, b3, hov1, ⟨rfl, rfl, rfl, rfl, rfl, rfl, rfl, trivial⟩, (by (focus ((repeat' (first | exact Keep.nil _ | exact Ext.one _ _ | exact Ext.here _ _ | apply Keep.cons | apply Keep.app | apply Ext.cons)); done)))⟩)⟩
    intro H2_23
    refine A.merge (fun σ L => ∃ (ov : Ov) (b2 : Nat), OvOk 1 ov B2.length (u8s B2) ∧ Sub [(5, .pointer (some ⟨bw, 0, none⟩)), (12, .int .i64 c.id), (16, .int .i64 c.roles), (20, .int .i64 c.exp), (24, .int .i64 c.ser), (18, .pointer (some ⟨bw, 0, none⟩)), (21, .slice (some ⟨b2, 0, none⟩) 1 1)] σ ∧ Keep L (WL bw ov B2 ++ [(bc, .cells ⟨[.int .i64 c.id, .int .i64 c.roles, .int .i64 c.exp, .int .i64 c.ser]⟩ 40 (0, 0)), (b2, .cells ⟨[.int .i64 c.exp]⟩ 3 (0, 0))])) 8 #[true, true, true, true, true, true, true, true, true, true, true, false, true, true, false, false, false, false, false, false, false] ?_ ?_
    · rintro σ L ⟨ov, b2, hov, hs, hk⟩
      refine A.weak ?_ hs hk
      refine A.multi [11, 14] (by kernel_rfl) (by decide) ⟨⟨_, rfl, ?_⟩, ⟨_, rfl, ?_⟩, trivial⟩
      · (apply R.callE (Li := WL bw ov B2); (iterate 3 exact rfl); (focus ((repeat' (exact Ext.here _ _)); done)); intro w1 hw1; have h9 := number1_ok bw ov B2 hov 2 c.exp hf3 hl2 b2 _ _ w1 (hw1.get _ _ (At.mem (by (focus ((repeat' (first | exact At.head | apply At.tail | apply At.right)); done))))) (RdSl.off hw1 (by (focus ((repeat' (exact Ext.here _ _)); done))) (At.mem (by (focus ((repeat' (first | exact At.head | apply At.tail)); done))))); rw [← hB3] at h9; exact h9; rintro v Lo ⟨ov1, rfl, hov1, rfl⟩); apply R.nil; refine ⟨(by (focus ((repeat' (first | exact trivial | (refine ⟨?_, ?_⟩; (focus ((repeat' (first | exact At.head | apply At.tail | apply At.right)); done)))))))), A.cast (by kernel_rfl) (H3_ _ _ ⟨ov1, hov1, ⟨rfl, rfl, rfl, rfl, rfl, rfl, trivial⟩, (by (focus ((repeat' (first | exact Keep.nil _ | exact Ext.one _ _ | exact Ext.here _ _ | apply Keep.cons | apply Keep.app)); done)))⟩)⟩
      · (((apply R.buildSlice; (iterate 12 exact rfl); intro))); rename_i b3; apply R.nil; refine ⟨(by (focus ((repeat' (first | exact trivial | (refine ⟨?_, ?_⟩; (focus ((repeat' (first | exact At.head | apply At.tail | apply At.right)); done)))))))), A.cast (by kernel_rfl) (H2_23 _ _ ⟨ov, b2, b3, hov, ⟨rfl, rfl, rfl, rfl, rfl, rfl, rfl, rfl, trivial⟩, (by (focus ((repeat' (first | exact Keep.nil _ | exact Ext.one _ _ | exact Ext.here _ _ | apply Keep.cons | apply Keep.app | apply Ext.cons)); done)))⟩)⟩
    intro H2_2
    refine A.merge (fun σ L => ∃ (ov : Ov) (b3 : Nat), OvOk 1 ov B2.length (u8s B2) ∧ Sub [(5, .pointer (some ⟨bw, 0, none⟩)), (12, .int .i64 c.id), (16, .int .i64 c.roles), (20, .int .i64 c.exp), (24, .int .i64 c.ser), (18, .pointer (some ⟨bw, 0, none⟩)), (25, .slice (some ⟨b3, 0, none⟩) 1 1)] σ ∧ Keep L (WL bw ov B2 ++ [(bc, .cells ⟨[.int .i64 c.id, .int .i64 c.roles, .int .i64 c.exp, .int .i64 c.ser]⟩ 40 (0, 0)), (b3, .cells ⟨[.int .i64 c.ser]⟩ 3 (0, 0))])) 8 #[true, true, true, true, true, true, true, true, true, true, false, false, true, true, true, false, false, false, false, false, false] ?_ ?_
    · rintro σ L ⟨ov, b3, hov, hs, hk⟩
      refine A.weak ?_ hs hk
      refine A.multi [10] (by kernel_rfl) (by decide) ⟨⟨_, rfl, ?_⟩, trivial⟩
      · (((apply R.buildSlice; (iterate 12 exact rfl); intro))); rename_i b2; apply R.nil; refine ⟨(by (focus ((repeat' (first | exact trivial | (refine ⟨?_, ?_⟩; (focus ((repeat' (first | exact At.head | apply At.tail | apply At.right)); done)))))))), A.cast (by kernel_rfl) (H2_23 _ _ ⟨ov, b2, b3, hov, ⟨rfl, rfl, rfl, rfl, rfl, rfl, rfl, rfl, trivial⟩, (by (focus ((repeat' (first | exact Keep.nil _ | exact Ext.one _ _ | exact Ext.here _ _ | apply Keep.cons | apply Keep.app | apply Ext.cons)); done)))⟩)⟩
    intro H2_3
    refine A.merge (fun σ L => ∃ (ov : Ov), OvOk 1 ov B2.length (u8s B2) ∧ Sub [(5, .pointer (some ⟨bw, 0, none⟩)), (12, .int .i64 c.id), (16, .int .i64 c.roles), (20, .int .i64 c.exp), (24, .int .i64 c.ser), (18, .pointer (some ⟨bw, 0, none⟩))] σ ∧ Keep L (WL bw ov B2 ++ [(bc, .cells ⟨[.int .i64 c.id, .int .i64 c.roles, .int .i64 c.exp, .int .i64 c.ser]⟩ 40 (0, 0))])) 9 #[true, true, true, true, true, true, true, true, true, true, false, false, true, true, false, false, false, false, false, false, false] ?_ ?_
    · rintro σ L ⟨ov, hov, hs, hk⟩
      refine A.weak ?_ hs hk
      refine A.multi [10, 14] (by kernel_rfl) (by decide) ⟨⟨_, rfl, ?_⟩, ⟨_, rfl, ?_⟩, trivial⟩
      · (((apply R.buildSlice; (iterate 12 exact rfl); intro))); rename_i b2; apply R.nil; refine ⟨(by (focus ((repeat' (first | exact trivial | (refine ⟨?_, ?_⟩; (focus ((repeat' (first | exact At.head | apply At.tail | apply At.right)); done)))))))), A.cast (by kernel_rfl) (H2_2 _ _ ⟨ov, b2, hov, ⟨rfl, rfl, rfl, rfl, rfl, rfl, rfl, trivial⟩, (by (focus ((repeat' (first | exact Keep.nil _ | exact Ext.one _ _ | exact Ext.here _ _ | apply Keep.cons | apply Keep.app | apply Ext.cons)); done)))⟩)⟩
      · (((apply R.buildSlice; (iterate 12 exact rfl); intro))); rename_i b3; apply R.nil; refine ⟨(by (focus ((repeat' (first | exact trivial | (refine ⟨?_, ?_⟩; (focus ((repeat' (first | exact At.head | apply At.tail | apply At.right)); done)))))))), A.cast (by kernel_rfl) (H2_3 _ _ ⟨ov, b3, hov, ⟨rfl, rfl, rfl, rfl, rfl, rfl, rfl, trivial⟩, (by (focus ((repeat' (first | exact Keep.nil _ | exact Ext.one _ _ | exact Ext.here _ _ | apply Keep.cons | apply Keep.app | apply Ext.cons)); done)))⟩)⟩
    intro H2_
    refine A.merge (fun σ L => ∃ (ov : Ov) (b1 : Nat) (b2 : Nat) (b3 : Nat), OvOk 1 ov B1.length (u8s B1) ∧ Sub [(5, .pointer (some ⟨bw, 0, none⟩)), (12, .int .i64 c.id), (16, .int .i64 c.roles), (20, .int .i64 c.exp), (24, .int .i64 c.ser), (14, .pointer (some ⟨bw, 0, none⟩)), (17, .slice (some ⟨b1, 0, none⟩) 1 1), (21, .slice (some ⟨b2, 0, none⟩) 1 1), (25, .slice (some ⟨b3, 0, none⟩) 1 1)] σ ∧ Keep L (WL bw ov B1 ++ [(bc, .cells ⟨[.int .i64 c.id, .int .i64 c.roles, .int .i64 c.exp, .int .i64 c.ser]⟩ 40 (0, 0)), (b1, .cells ⟨[.int .i64 c.roles]⟩ 3 (0, 0)), (b2, .cells ⟨[.int .i64 c.exp]⟩ 3 (0, 0)), (b3, .cells ⟨[.int .i64 c.ser]⟩ 3 (0, 0))])) 8 #[true, true, true, true, true, true, true, false, true, true, true, false, true, true, true, false, false, false, false, false, false] ?_ ?_
    · rintro σ L ⟨ov, b1, b2, b3, hov, hs, hk⟩
      refine A.weak ?_ hs hk
      refine A.multi [7] (by kernel_rfl) (by decide) ⟨⟨_, rfl, ?_⟩, trivial⟩
      · (apply R.callE (Li := WL bw ov B1); (iterate 3 exact rfl); (focus ((repeat' (exact Ext.here _ _)); done)); intro w1 hw1; have h9 := number1_ok bw ov B1 hov 0 c.roles hf2 hl1 b1 _ _ w1 (hw1.get _ _ (At.mem (by (focus ((repeat' (first | exact At.head | apply At.tail | apply At.right)); done))))) (RdSl.off hw1 (by (focus ((repeat' (exact Ext.here _ _)); done))) (At.mem (by (focus ((repeat' (first | exact At.head | apply At.tail)); done))))); rw [← hB2] at h9; exact h9; rintro v Lo ⟨ov1, rfl, hov1, rfl⟩); apply R.nil; refine ⟨(by (focus ((repeat' (first | exact trivial | (refine ⟨?_, ?_⟩; (focus ((repeat' (first | exact At.head | apply At.tail | apply At.right)); done)))))))), A.cast (by kernel_rfl) (H2_23 _ _ ⟨ov1, b2, b3, hov1, ⟨rfl, rfl, rfl, rfl, rfl, rfl, rfl, rfl, trivial⟩, (by (focus ((repeat' (first | exact Keep.nil _ | exact Ext.one _ _ | exact Ext.here _ _ | apply Keep.cons | apply Keep.app | apply Ext.cons)); done)))⟩)⟩
    intro H1_123
    refine A.merge (fun σ L => ∃ (ov : Ov) (b1 : Nat) (b2 : Nat), OvOk 1 ov B1.length (u8s B1) ∧ Sub [(5, .pointer (some ⟨bw, 0, none⟩)), (12, .int .i64 c.id), (16, .int .i64 c.roles), (20, .int .i64 c.exp), (24, .int .i64 c.ser), (14, .pointer (some ⟨bw, 0, none⟩)), (17, .slice (some ⟨b1, 0, none⟩) 1 1), (21, .slice (some ⟨b2, 0, none⟩) 1 1)] σ ∧ Keep L (WL bw ov B1 ++ [(bc, .cells ⟨[.int .i64 c.id, .int .i64 c.roles, .int .i64 c.exp, .int .i64 c.ser]⟩ 40 (0, 0)), (b1, .cells ⟨[.int .i64 c.roles]⟩ 3 (0, 0)), (b2, .cells ⟨[.int .i64 c.exp]⟩ 3 (0, 0))])) 9 #[true, true, true, true, true, true, true, false, true, true, true, false, true, true, false, false, false, false, false, false, false] ?_ ?_
    · rintro σ L ⟨ov, b1, b2, hov, hs, hk⟩
      refine A.weak ?_ hs hk
      refine A.multi [7, 14] (by kernel_rfl) (by decide) ⟨⟨_, rfl, ?_⟩, ⟨_, rfl, ?_⟩, trivial⟩
      · (apply R.callE (Li := WL bw ov B1); (iterate 3 exact rfl); (focus ((repeat' (exact Ext.here _ _)); done)); intro w1 hw1; have h9 := number1_ok bw ov B1 hov 0 c.roles hf2 hl1 b1 _ _ w1 (hw1.get _ _ (At.mem (by (focus ((repeat' (first | exact At.head | apply At.tail | apply At.right)); done))))) (RdSl.off hw1 (by (focus ((repeat' (exact Ext.here _ _)); done))) (At.mem (by (focus ((repeat' (first | exact At.head | apply At.tail)); done))))); rw [← hB2] at h9; exact h9; rintro v Lo ⟨ov1, rfl, hov1, rfl⟩); apply R.nil; refine ⟨(by (focus ((repeat' (first | exact trivial | (refine ⟨?_, ?_⟩; (focus ((repeat' (first | exact At.head | apply At.tail | apply At.right)); done)))))))), A.cast (by kernel_rfl) (H2_2 _ _ ⟨ov1, b2, hov1, ⟨rfl, rfl, rfl, rfl, rfl, rfl, rfl, trivial⟩, (by (focus ((repeat' (first | exact Keep.nil _ | exact Ext.one _ _ | exact Ext.here _ _ | apply Keep.cons | apply Keep.app | apply Ext.cons)); done)))⟩)⟩
      · (((apply R.buildSlice; (iterate 12 exact rfl); intro))); rename_i b3; apply R.nil; refine ⟨(by (focus ((repeat' (first | exact trivial | (refine ⟨?_, ?_⟩; (focus ((repeat' (first | exact At.head | apply At.tail | apply At.right)); done)))))))), A.cast (by kernel_rfl) (H1_123 _ _ ⟨ov, b1, b2, b3, hov, ⟨rfl, rfl, rfl, rfl, rfl, rfl, rfl, rfl, rfl, trivial⟩, (by (focus ((repeat' (first | exact Keep.nil _ | exact Ext.one _ _ | exact Ext.here _ _ | apply Keep.cons | apply Keep.app | apply Ext.cons)); done)))⟩)⟩
    intro H1_12
    refine A.merge (fun σ L => ∃ (ov : Ov) (b1 : Nat) (b3 : Nat), OvOk 1 ov B1.length (u8s B1) ∧ Sub [(5, .pointer (some ⟨bw, 0, none⟩)), (12, .int .i64 c.id), (16, .int .i64 c.roles), (20, .int .i64 c.exp), (24, .int .i64 c.ser), (14, .pointer (some ⟨bw, 0, none⟩)), (17, .slice (some ⟨b1, 0, none⟩) 1 1), (25, .slice (some ⟨b3, 0, none⟩) 1 1)] σ ∧ Keep L (WL bw ov B1 ++ [(bc, .cells ⟨[.int .i64 c.id, .int .i64 c.roles, .int .i64 c.exp, .int .i64 c.ser]⟩ 40 (0, 0)), (b1, .cells ⟨[.int .i64 c.roles]⟩ 3 (0, 0)), (b3, .cells ⟨[.int .i64 c.ser]⟩ 3 (0, 0))])) 9 #[true, true, true, true, true, true, true, false, true, true, false, false, true, true, true, false, false, false, false, false, false] ?_ ?_
    · rintro σ L ⟨ov, b1, b3, hov, hs, hk⟩
      refine A.weak ?_ hs hk
      refine A.multi [7, 10] (by kernel_rfl) (by decide) ⟨⟨_, rfl, ?_⟩, ⟨_, rfl, ?_⟩, trivial⟩
      · (apply R.callE (Li := WL bw ov B1); (iterate 3 exact rfl); (focus ((repeat' (exact Ext.here _ _)); done)); intro w1 hw1; have h9 := number1_ok bw ov B1 hov 0 c.roles hf2 hl1 b1 _ _ w1 (hw1.get _ _ (At.mem (by (focus ((repeat' (first | exact At.head | apply At.tail | apply At.right)); done))))) (RdSl.off hw1 (by (focus ((repeat' (exact Ext.here _ _)); done))) (At.mem (by (focus ((repeat' (first | exact At.head | apply At.tail)); done))))); rw [← hB2] at h9; exact h9; rintro v Lo ⟨ov1, rfl, hov1, rfl⟩); apply R.nil; refine ⟨(by (focus ((repeat' (first | exact trivial | (refine ⟨?_, ?_⟩; (focus ((repeat' (first | exact At.head | apply At.tail | apply At.right)); done)))))))), A.cast (by kernel_rfl) (H2_3 _ _ ⟨ov1, b3, hov1, ⟨rfl, rfl, rfl, rfl, rfl, rfl, rfl, trivial⟩, (by (focus ((repeat' (first | exact Keep.nil _ | exact Ext.one _ _ | exact Ext.here _ _ | apply Keep.cons | apply Keep.app | apply Ext.cons)); done)))⟩)⟩
      · (((apply R.buildSlice; (iterate 12 exact rfl); intro))); rename_i b2; apply R.nil; refine ⟨(by (focus ((repeat' (first | exact trivial | (refine ⟨?_, ?_⟩; (focus ((repeat' (first | exact At.head | apply At.tail | apply At.right)); done)))))))), A.cast (by kernel_rfl) (H1_123 _ _ ⟨ov, b1, b2, b3, hov, ⟨rfl, rfl, rfl, rfl, rfl, rfl, rfl, rfl, rfl, trivial⟩, (by (focus ((repeat' (first | exact Keep.nil _ | exact Ext.one _ _ | exact Ext.here _ _ | apply Keep.cons | apply Keep.app | apply Ext.cons)); done)))⟩)⟩
    intro H1_13
    refine A.merge (fun σ L => ∃ (ov : Ov) (b2 : Nat) (b3 : Nat), OvOk 1 ov B1.length (u8s B1) ∧ Sub [(5, .pointer (some ⟨bw, 0, none⟩)), (12, .int .i64 c.id), (16, .int .i64 c.roles), (20, .int .i64 c.exp), (24, .int .i64 c.ser), (14, .pointer (some ⟨bw, 0, none⟩)), (21, .slice (some ⟨b2, 0, none⟩) 1 1), (25, .slice (some ⟨b3, 0, none⟩) 1 1)] σ ∧ Keep L (WL bw ov B1 ++ [(bc, .cells ⟨[.int .i64 c.id, .int .i64 c.roles, .int .i64 c.exp, .int .i64 c.ser]⟩ 40 (0, 0)), (b2, .cells ⟨[.int .i64 c.exp]⟩ 3 (0, 0)), (b3, .cells ⟨[.int .i64 c.ser]⟩ 3 (0, 0))])) 9 #[true, true, true, true, true, true, false, false, true, true, true, false, true, true, true, false, false, false, false, false, false] ?_ ?_
    · rintro σ L ⟨ov, b2, b3, hov, hs, hk⟩
      refine A.weak ?_ hs hk
      refine A.multi [6] (by kernel_rfl) (by decide) ⟨⟨_, rfl, ?_⟩, trivial⟩
      · (((apply R.buildSlice; (iterate 12 exact rfl); intro))); rename_i b1; apply R.nil; refine ⟨(by (focus ((repeat' (first | exact trivial | (refine ⟨?_, ?_⟩; (focus ((repeat' (first | exact At.head | apply At.tail | apply At.right)); done)))))))), A.cast (by kernel_rfl) (H1_123 _ _ ⟨ov, b1, b2, b3, hov, ⟨rfl, rfl, rfl, rfl, rfl, rfl, rfl, rfl, rfl, trivial⟩, (by (focus ((repeat' (first | exact Keep.nil _ | exact Ext.one _ _ | exact Ext.here _ _ | apply Keep.cons | apply Keep.app | apply Ext.cons)); done)))⟩)⟩
    intro H1_23
    refine A.merge (fun σ L => ∃ (ov : Ov) (b1 : Nat), OvOk 1 ov B1.length (u8s B1) ∧ Sub [(5, .pointer (some ⟨bw, 0, none⟩)), (12, .int .i64 c.id), (16, .int .i64 c.roles), (20, .int .i64 c.exp), (24, .int .i64 c.ser), (14, .pointer (some ⟨bw, 0, none⟩)), (17, .slice (some ⟨b1, 0, none⟩) 1 1)] σ ∧ Keep L (WL bw ov B1 ++ [(bc, .cells ⟨[.int .i64 c.id, .int .i64 c.roles, .int .i64 c.exp, .int .i64 c.ser]⟩ 40 (0, 0)), (b1, .cells ⟨[.int .i64 c.roles]⟩ 3 (0, 0))])) 10 #[true, true, true, true, true, true, true, false, true, true, false, false, true, true, false, false, false, false, false, false, false] ?_ ?_
    · rintro σ L ⟨ov, b1, hov, hs, hk⟩
      refine A.weak ?_ hs hk
      refine A.multi [7, 10, 14] (by kernel_rfl) (by decide) ⟨⟨_, rfl, ?_⟩, ⟨_, rfl, ?_⟩, ⟨_, rfl, ?_⟩, trivial⟩
      · (apply R.callE (Li := WL bw ov B1); (iterate 3 exact rfl); (focus ((repeat' (exact Ext.here _ _)); done)); intro w1 hw1; have h9 := number1_ok bw ov B1 hov 0 c.roles hf2 hl1 b1 _ _ w1 (hw1.get _ _ (At.mem (by (focus ((repeat' (first | exact At.head | apply At.tail | apply At.right)); done))))) (RdSl.off hw1 (by (focus ((repeat' (exact Ext.here _ _)); done))) (At.mem (by (focus ((repeat' (first | exact At.head | apply At.tail)); done))))); rw [← hB2] at h9; exact h9; rintro v Lo ⟨ov1, rfl, hov1, rfl⟩); apply R.nil; refine ⟨(by (focus ((repeat' (first | exact trivial | (refine ⟨?_, ?_⟩; (focus ((repeat' (first | exact At.head | apply At.tail | apply At.right)); done)))))))), A.cast (by kernel_rfl) (H2_ _ _ ⟨ov1, hov1, ⟨rfl, rfl, rfl, rfl, rfl, rfl, trivial⟩, (by (focus ((repeat' (first | exact Keep.nil _ | exact Ext.one _ _ | exact Ext.here _ _ | apply Keep.cons | apply Keep.app)); done)))⟩)⟩
      · (((apply R.buildSlice; (iterate 12 exact rfl); intro))); rename_i b2; apply R.nil; refine ⟨(by (focus ((repeat' (first | exact trivial | (refine ⟨?_, ?_⟩; (focus ((repeat' (first | exact At.head | apply At.tail | apply At.right)); done)))))))), A.cast (by kernel_rfl) (H1_12 _ _ ⟨ov, b1, b2, hov, ⟨rfl, rfl, rfl, rfl, rfl, rfl, rfl, rfl, trivial⟩, (by (focus ((repeat' (first | exact Keep.nil _ | exact Ext.one _ _ | exact Ext.here _ _ | apply Keep.cons | apply Keep.app | apply Ext.cons)); done)))⟩)⟩
      · (((apply R.buildSlice; (iterate 12 exact rfl); intro))); rename_i b3; apply R.nil; refine ⟨(by (focus ((repeat' (first | exact trivial | (refine ⟨?_, ?_⟩; (focus ((repeat' (first | exact At.head | apply At.tail | apply At.right)); done)))))))), A.cast (by kernel_rfl) (H1_13 _ _ ⟨ov, b1, b3, hov, ⟨rfl, rfl, rfl, rfl, rfl, rfl, rfl, rfl, trivial⟩, (by (focus ((repeat' (first | exact Keep.nil _ | exact Ext.one _ _ | exact Ext.here _ _ | apply Keep.cons | apply Keep.app | apply Ext.cons)); done)))⟩)⟩
    intro H1_1
    refine A.merge (fun σ L => ∃ (ov : Ov) (b2 : Nat), OvOk 1 ov B1.length (u8s B1) ∧ Sub [(5, .pointer (some ⟨bw, 0, none⟩)), (12, .int .i64 c.id), (16, .int .i64 c.roles), (20, .int .i64 c.exp), (24, .int .i64 c.ser), (14, .pointer (some ⟨bw, 0, none⟩)), (21, .slice (some ⟨b2, 0, none⟩) 1 1)] σ ∧ Keep L (WL bw ov B1 ++ [(bc, .cells ⟨[.int .i64 c.id, .int .i64 c.roles, .int .i64 c.exp, .int .i64 c.ser]⟩ 40 (0, 0)), (b2, .cells ⟨[.int .i64 c.exp]⟩ 3 (0, 0))])) 10 #[true, true, true, true, true, true, false, false, true, true, true, false, true, true, false, false, false, false, false, false, false] ?_ ?_
    · rintro σ L ⟨ov, b2, hov, hs, hk⟩
      refine A.weak ?_ hs hk
      refine A.multi [6, 14] (by kernel_rfl) (by decide) ⟨⟨_, rfl, ?_⟩, ⟨_, rfl, ?_⟩, trivial⟩
      · (((apply R.buildSlice; (iterate 12 exact rfl); intro))); rename_i b1; apply R.nil; refine ⟨(by (focus ((repeat' (first | exact trivial | (refine ⟨?_, ?_⟩; (focus ((repeat' (first | exact At.head | apply At.tail | apply At.right)); done)))))))), A.cast (by kernel_rfl) (H1_12 _ _ ⟨ov, b1, b2, hov, ⟨rfl, rfl, rfl, rfl, rfl, rfl, rfl, rfl, trivial⟩, (by (focus ((repeat' (first | exact Keep.nil _ | exact Ext.one _ _ | exact Ext.here _ _ | apply Keep.cons | apply Keep.app | apply Ext.cons)); done)))⟩)⟩
      · (((apply R.buildSlice; (iterate 12 exact rfl); intro))); rename_i b3; apply R.nil; refine ⟨(by (focus ((repeat' (first | exact trivial | (refine ⟨?_, ?_⟩; (focus ((repeat' (first | exact At.head | apply At.tail | apply At.right)); done)))))))), A.cast (by kernel_rfl) (H1_23 _ _ ⟨ov, b2, b3, hov, ⟨rfl, rfl, rfl, rfl, rfl, rfl, rfl, rfl, trivial⟩, (by (focus ((repeat' (first | exact Keep.nil _ | exact Ext.one _ _ | exact Ext.here _ _ | apply Keep.cons | apply Keep.app | apply Ext.cons)); done)))⟩)⟩
    intro H1_2
    refine A.merge (fun σ L => ∃ (ov : Ov) (b3 : Nat), OvOk 1 ov B1.length (u8s B1) ∧ Sub [(5, .pointer (some ⟨bw, 0, none⟩)), (12, .int .i64 c.id), (16, .int .i64 c.roles), (20, .int .i64 c.exp), (24, .int .i64 c.ser), (14, .pointer (some ⟨bw, 0, none⟩)), (25, .slice (some ⟨b3, 0, none⟩) 1 1)] σ ∧ Keep L (WL bw ov B1 ++ [(bc, .cells ⟨[.int .i64 c.id, .int .i64 c.roles, .int .i64 c.exp, .int .i64 c.ser]⟩ 40 (0, 0)), (b3, .cells ⟨[.int .i64 c.ser]⟩ 3 (0, 0))])) 10 #[true, true, true, true, true, true, false, false, true, true, false, false, true, true, true, false, false, false, false, false, false] ?_ ?_
    · rintro σ L ⟨ov, b3, hov, hs, hk⟩
      refine A.weak ?_ hs hk
      refine A.multi [6, 10] (by kernel_rfl) (by decide) ⟨⟨_, rfl, ?_⟩, ⟨_, rfl, ?_⟩, trivial⟩
      · (((apply R.buildSlice; (iterate 12 exact rfl); intro))); rename_i b1; apply R.nil; refine ⟨(by (focus ((repeat' (first | exact trivial | (refine ⟨?_, ?_⟩; (focus ((repeat' (first | exact At.head | apply At.tail | apply At.right)); done)))))))), A.cast (by kernel_rfl) (H1_13 _ _ ⟨ov, b1, b3, hov, ⟨rfl, rfl, rfl, rfl, rfl, rfl, rfl, rfl, trivial⟩, (by (focus ((repeat' (first | exact Keep.nil _ | exact Ext.one _ _ | exact Ext.here _ _ | apply Keep.cons | apply Keep.app | apply Ext.cons)); done)))⟩)⟩
      · (((apply R.buildSlice; (iterate 12 exact rfl); intro))); rename_i b2; apply R.nil; refine ⟨(by (focus ((repeat' (first | exact trivial | (refine ⟨?_, ?_⟩; (focus ((repeat' (first | exact At.head | apply At.tail | apply At.right)); done)))))))), A.cast (by kernel_rfl) (H1_23 _ _ ⟨ov, b2, b3, hov, ⟨rfl, rfl, rfl, rfl, rfl, rfl, rfl, rfl, trivial⟩, (by (focus ((repeat' (first | exact Keep.nil _ | exact Ext.one _ _ | exact Ext.here _ _ | apply Keep.cons | apply Keep.app | apply Ext.cons)); done)))⟩)⟩
    intro H1_3
    refine A.merge (fun σ L => ∃ (ov : Ov), OvOk 1 ov B1.length (u8s B1) ∧ Sub [(5, .pointer (some ⟨bw, 0, none⟩)), (12, .int .i64 c.id), (16, .int .i64 c.roles), (20, .int .i64 c.exp), (24, .int .i64 c.ser), (14, .pointer (some ⟨bw, 0, none⟩))] σ ∧ Keep L (WL bw ov B1 ++ [(bc, .cells ⟨[.int .i64 c.id, .int .i64 c.roles, .int .i64 c.exp, .int .i64 c.ser]⟩ 40 (0, 0))])) 11 #[true, true, true, true, true, true, false, false, true, true, false, false, true, true, false, false, false, false, false, false, false] ?_ ?_
    · rintro σ L ⟨ov, hov, hs, hk⟩
      refine A.weak ?_ hs hk
      refine A.multi [6, 10, 14] (by kernel_rfl) (by decide) ⟨⟨_, rfl, ?_⟩, ⟨_, rfl, ?_⟩, ⟨_, rfl, ?_⟩, trivial⟩
      · (((apply R.buildSlice; (iterate 12 exact rfl); intro))); rename_i b1; apply R.nil; refine ⟨(by (focus ((repeat' (first | exact trivial | (refine ⟨?_, ?_⟩; (focus ((repeat' (first | exact At.head | apply At.tail | apply At.right)); done)))))))), A.cast (by kernel_rfl) (H1_1 _ _ ⟨ov, b1, hov, ⟨rfl, rfl, rfl, rfl, rfl, rfl, rfl, trivial⟩, (by (focus ((repeat' (first | exact Keep.nil _ | exact Ext.one _ _ | exact Ext.here _ _ | apply Keep.cons | apply Keep.app | apply Ext.cons)); done)))⟩)⟩
      · (((apply R.buildSlice; (iterate 12 exact rfl); intro))); rename_i b2; apply R.nil; refine ⟨(by (focus ((repeat' (first | exact trivial | (refine ⟨?_, ?_⟩; (focus ((repeat' (first | exact At.head | apply At.tail | apply At.right)); done)))))))), A.cast (by kernel_rfl) (H1_2 _ _ ⟨ov, b2, hov, ⟨rfl, rfl, rfl, rfl, rfl, rfl, rfl, trivial⟩, (by (focus ((repeat' (first | exact Keep.nil _ | exact Ext.one _ _ | exact Ext.here _ _ | apply Keep.cons | apply Keep.app | apply Ext.cons)); done)))⟩)⟩
      · (((apply R.buildSlice; (iterate 12 exact rfl); intro))); rename_i b3; apply R.nil; refine ⟨(by (focus ((repeat' (first | exact trivial | (refine ⟨?_, ?_⟩; (focus ((repeat' (first | exact At.head | apply At.tail | apply At.right)); done)))))))), A.cast (by kernel_rfl) (H1_3 _ _ ⟨ov, b3, hov, ⟨rfl, rfl, rfl, rfl, rfl, rfl, rfl, trivial⟩, (by (focus ((repeat' (first | exact Keep.nil _ | exact Ext.one _ _ | exact Ext.here _ _ | apply Keep.cons | apply Keep.app | apply Ext.cons)); done)))⟩)⟩
    intro H1_
    refine A.merge (fun σ L => ∃ (ov : Ov) (b0 : Nat) (b1 : Nat) (b2 : Nat) (b3 : Nat), OvOk 1 ov B0.length (u8s B0) ∧ Sub [(5, .pointer (some ⟨bw, 0, none⟩)), (12, .int .i64 c.id), (16, .int .i64 c.roles), (20, .int .i64 c.exp), (24, .int .i64 c.ser), (13, .slice (some ⟨b0, 0, none⟩) 1 1), (17, .slice (some ⟨b1, 0, none⟩) 1 1), (21, .slice (some ⟨b2, 0, none⟩) 1 1), (25, .slice (some ⟨b3, 0, none⟩) 1 1)] σ ∧ Keep L (WL bw ov B0 ++ [(bc, .cells ⟨[.int .i64 c.id, .int .i64 c.roles, .int .i64 c.exp, .int .i64 c.ser]⟩ 40 (0, 0)), (b0, .cells ⟨[.int .i64 c.id]⟩ 3 (0, 0)), (b1, .cells ⟨[.int .i64 c.roles]⟩ 3 (0, 0)), (b2, .cells ⟨[.int .i64 c.exp]⟩ 3 (0, 0)), (b3, .cells ⟨[.int .i64 c.ser]⟩ 3 (0, 0))])) 9 #[true, true, true, false, true, true, true, false, true, true, true, false, true, true, true, false, false, false, false, false, false] ?_ ?_
    · rintro σ L ⟨ov, b0, b1, b2, b3, hov, hs, hk⟩
      refine A.weak ?_ hs hk
      refine A.multi [3] (by kernel_rfl) (by decide) ⟨⟨_, rfl, ?_⟩, trivial⟩
      · (apply R.callE (Li := WL bw ov B0); (iterate 3 exact rfl); (focus ((repeat' (exact Ext.here _ _)); done)); intro w1 hw1; have h9 := number1_ok bw ov B0 hov 1 c.id hf1 hl0 b0 _ _ w1 (hw1.get _ _ (At.mem (by (focus ((repeat' (first | exact At.head | apply At.tail | apply At.right)); done))))) (RdSl.off hw1 (by (focus ((repeat' (exact Ext.here _ _)); done))) (At.mem (by (focus ((repeat' (first | exact At.head | apply At.tail)); done))))); rw [← hB1] at h9; exact h9; rintro v Lo ⟨ov1, rfl, hov1, rfl⟩); apply R.nil; refine ⟨(by (focus ((repeat' (first | exact trivial | (refine ⟨?_, ?_⟩; (focus ((repeat' (first | exact At.head | apply At.tail | apply At.right)); done)))))))), A.cast (by kernel_rfl) (H1_123 _ _ ⟨ov1, b1, b2, b3, hov1, ⟨rfl, rfl, rfl, rfl, rfl, rfl, rfl, rfl, rfl, trivial⟩, (by (focus ((repeat' (first | exact Keep.nil _ | exact Ext.one _ _ | exact Ext.here _ _ | apply Keep.cons | apply Keep.app | apply Ext.cons)); done)))⟩)⟩
    intro H0_0123
    refine A.merge (fun σ L => ∃ (ov : Ov) (b0 : Nat) (b1 : Nat) (b2 : Nat), OvOk 1 ov B0.length (u8s B0) ∧ Sub [(5, .pointer (some ⟨bw, 0, none⟩)), (12, .int .i64 c.id), (16, .int .i64 c.roles), (20, .int .i64 c.exp), (24, .int .i64 c.ser), (13, .slice (some ⟨b0, 0, none⟩) 1 1), (17, .slice (some ⟨b1, 0, none⟩) 1 1), (21, .slice (some ⟨b2, 0, none⟩) 1 1)] σ ∧ Keep L (WL bw ov B0 ++ [(bc, .cells ⟨[.int .i64 c.id, .int .i64 c.roles, .int .i64 c.exp, .int .i64 c.ser]⟩ 40 (0, 0)), (b0, .cells ⟨[.int .i64 c.id]⟩ 3 (0, 0)), (b1, .cells ⟨[.int .i64 c.roles]⟩ 3 (0, 0)), (b2, .cells ⟨[.int .i64 c.exp]⟩ 3 (0, 0))])) 10 #[true, true, true, false, true, true, true, false, true, true, true, false, true, true, false, false, false, false, false, false, false] ?_ ?_
    · rintro σ L ⟨ov, b0, b1, b2, hov, hs, hk⟩
      refine A.weak ?_ hs hk
      refine A.multi [3, 14] (by kernel_rfl) (by decide) ⟨⟨_, rfl, ?_⟩, ⟨_, rfl, ?_⟩, trivial⟩
      · (apply R.callE (Li := WL bw ov B0); (iterate 3 exact rfl); (focus ((repeat' (exact Ext.here _ _)); done)); intro w1 hw1; have h9 := number1_ok bw ov B0 hov 1 c.id hf1 hl0 b0 _ _ w1 (hw1.get _ _ (At.mem (by (focus ((repeat' (first | exact At.head | apply At.tail | apply At.right)); done))))) (RdSl.off hw1 (by (focus ((repeat' (exact Ext.here _ _)); done))) (At.mem (by (focus ((repeat' (first | exact At.head | apply At.tail)); done))))); rw [← hB1] at h9; exact h9; rintro v Lo ⟨ov1, rfl, hov1, rfl⟩); apply R.nil; refine ⟨(by (focus ((repeat' (first | exact trivial | (refine ⟨?_, ?_⟩; (focus ((repeat' (first | exact At.head | apply At.tail | apply At.right)); done)))))))), A.cast (by kernel_rfl) (H1_12 _ _ ⟨ov1, b1, b2, hov1, ⟨rfl, rfl, rfl, rfl, rfl, rfl, rfl, rfl, trivial⟩, (by (focus ((repeat' (first | exact Keep.nil _ | exact Ext.one _ _ | exact Ext.here _ _ | apply Keep.cons | apply Keep.app | apply Ext.cons)); done)))⟩)⟩
      · (((apply R.buildSlice; (iterate 12 exact rfl); intro))); rename_i b3; apply R.nil; refine ⟨(by (focus ((repeat' (first | exact trivial | (refine ⟨?_, ?_⟩; (focus ((repeat' (first | exact At.head | apply At.tail | apply At.right)); done)))))))), A.cast (by kernel_rfl) (H0_0123 _ _ ⟨ov, b0, b1, b2, b3, hov, ⟨rfl, rfl, rfl, rfl, rfl, rfl, rfl, rfl, rfl, trivial⟩, (by (focus ((repeat' (first | exact Keep.nil _ | exact Ext.one _ _ | exact Ext.here _ _ | apply Keep.cons | apply Keep.app | apply Ext.cons)); done)))⟩)⟩
    intro H0_012
    refine A.merge (fun σ L => ∃ (ov : Ov) (b0 : Nat) (b1 : Nat) (b3 : Nat), OvOk 1 ov B0.length (u8s B0) ∧ Sub [(5, .pointer (some ⟨bw, 0, none⟩)), (12, .int .i64 c.id), (16, .int .i64 c.roles), (20, .int .i64 c.exp), (24, .int .i64 c.ser), (13, .slice (some ⟨b0, 0, none⟩) 1 1), (17, .slice (some ⟨b1, 0, none⟩) 1 1), (25, .slice (some ⟨b3, 0, none⟩) 1 1)] σ ∧ Keep L (WL bw ov B0 ++ [(bc, .cells ⟨[.int .i64 c.id, .int .i64 c.roles, .int .i64 c.exp, .int .i64 c.ser]⟩ 40 (0, 0)), (b0, .cells ⟨[.int .i64 c.id]⟩ 3 (0, 0)), (b1, .cells ⟨[.int .i64 c.roles]⟩ 3 (0, 0)), (b3, .cells ⟨[.int .i64 c.ser]⟩ 3 (0, 0))])) 10 #[true, true, true, false, true, true, true, false, true, true, false, false, true, true, true, false, false, false, false, false, false] ?_ ?_
    · rintro σ L ⟨ov, b0, b1, b3, hov, hs, hk⟩
      refine A.weak ?_ hs hk
      refine A.multi [3, 10] (by kernel_rfl) (by decide) ⟨⟨_, rfl, ?_⟩, ⟨_, rfl, ?_⟩, trivial⟩
      · (apply R.callE (Li := WL bw ov B0); (iterate 3 exact rfl); (focus ((repeat' (exact Ext.here _ _)); done)); intro w1 hw1; have h9 := number1_ok bw ov B0 hov 1 c.id hf1 hl0 b0 _ _ w1 (hw1.get _ _ (At.mem (by (focus ((repeat' (first | exact At.head | apply At.tail | apply At.right)); done))))) (RdSl.off hw1 (by (focus ((repeat' (exact Ext.here _ _)); done))) (At.mem (by (focus ((repeat' (first | exact At.head | apply At.tail)); done))))); rw [← hB1] at h9; exact h9; rintro v Lo ⟨ov1, rfl, hov1, rfl⟩); apply R.nil; refine ⟨(by (focus ((repeat' (first | exact trivial | (refine ⟨?_, ?_⟩; (focus ((repeat' (first | exact At.head | apply At.tail | apply At.right)); done)))))))), A.cast (by kernel_rfl) (H1_13 _ _ ⟨ov1, b1, b3, hov1, ⟨rfl, rfl, rfl, rfl, rfl, rfl, rfl, rfl, trivial⟩, (by (focus ((repeat' (first | exact Keep.nil _ | exact Ext.one _ _ | exact Ext.here _ _ | apply Keep.cons | apply Keep.app | apply Ext.cons)); done)))⟩)⟩
      · (((apply R.buildSlice; (iterate 12 exact rfl); intro))); rename_i b2; apply R.nil; refine ⟨(by (focus ((repeat' (first | exact trivial | (refine ⟨?_, ?_⟩; (focus ((repeat' (first | exact At.head | apply At.tail | apply At.right)); done)))))))), A.cast (by kernel_rfl) (H0_0123 _ _ ⟨ov, b0, b1, b2, b3, hov, ⟨rfl, rfl, rfl, rfl, rfl, rfl, rfl, rfl, rfl, trivial⟩, (by (focus ((repeat' (first | exact Keep.nil _ | exact Ext.one _ _ | exact Ext.here _ _ | apply Keep.cons | apply Keep.app | apply Ext.cons)); done)))⟩)⟩
    intro H0_013
    refine A.merge (fun σ L => ∃ (ov : Ov) (b0 : Nat) (b2 : Nat) (b3 : Nat), OvOk 1 ov B0.length (u8s B0) ∧ Sub [(5, .pointer (some ⟨bw, 0, none⟩)), (12, .int .i64 c.id), (16, .int .i64 c.roles), (20, .int .i64 c.exp), (24, .int .i64 c.ser), (13, .slice (some ⟨b0, 0, none⟩) 1 1), (21, .slice (some ⟨b2, 0, none⟩) 1 1), (25, .slice (some ⟨b3, 0, none⟩) 1 1)] σ ∧ Keep L (WL bw ov B0 ++ [(bc, .cells ⟨[.int .i64 c.id, .int .i64 c.roles, .int .i64 c.exp, .int .i64 c.ser]⟩ 40 (0, 0)), (b0, .cells ⟨[.int .i64 c.id]⟩ 3 (0, 0)), (b2, .cells ⟨[.int .i64 c.exp]⟩ 3 (0, 0)), (b3, .cells ⟨[.int .i64 c.ser]⟩ 3 (0, 0))])) 10 #[true, true, true, false, true, true, false, false, true, true, true, false, true, true, true, false, false, false, false, false, false] ?_ ?_
    · rintro σ L ⟨ov, b0, b2, b3, hov, hs, hk⟩
      refine A.weak ?_ hs hk
      refine A.multi [3, 6] (by kernel_rfl) (by decide) ⟨⟨_, rfl, ?_⟩, ⟨_, rfl, ?_⟩, trivial⟩
      · (apply R.callE (Li := WL bw ov B0); (iterate 3 exact rfl); (focus ((repeat' (exact Ext.here _ _)); done)); intro w1 hw1; have h9 := number1_ok bw ov B0 hov 1 c.id hf1 hl0 b0 _ _ w1 (hw1.get _ _ (At.mem (by (focus ((repeat' (first | exact At.head | apply At.tail | apply At.right)); done))))) (RdSl.off hw1 (by (focus ((repeat' (exact Ext.here _ _)); done))) (At.mem (by (focus ((repeat' (first | exact At.head | apply At.tail)); done))))); rw [← hB1] at h9; exact h9; rintro v Lo ⟨ov1, rfl, hov1, rfl⟩); apply R.nil; refine ⟨(by (focus ((repeat' (first | exact trivial | (refine ⟨?_, ?_⟩; (focus ((repeat' (first | exact At.head | apply At.tail | apply At.right)); done)))))))), A.cast (by kernel_rfl) (H1_23 _ _ ⟨ov1, b2, b3, hov1, ⟨rfl, rfl, rfl, rfl, rfl, rfl, rfl, rfl, trivial⟩, (by (focus ((repeat' (first | exact Keep.nil _ | exact Ext.one _ _ | exact Ext.here _ _ | apply Keep.cons | apply Keep.app | apply Ext.cons)); done)))⟩)⟩
      · (((apply R.buildSlice; (iterate 12 exact rfl); intro))); rename_i b1; apply R.nil; refine ⟨(by (focus ((repeat' (first | exact trivial | (refine ⟨?_, ?_⟩; (focus ((repeat' (first | exact At.head | apply At.tail | apply At.right)); done)))))))), A.cast (by kernel_rfl) (H0_0123 _ _ ⟨ov, b0, b1, b2, b3, hov, ⟨rfl, rfl, rfl, rfl, rfl, rfl, rfl, rfl, rfl, trivial⟩, (by (focus ((repeat' (first | exact Keep.nil _ | exact Ext.one _ _ | exact Ext.here _ _ | apply Keep.cons | apply Keep.app | apply Ext.cons)); done)))⟩)⟩
    intro H0_023
    refine A.merge (fun σ L => ∃ (ov : Ov) (b1 : Nat) (b2 : Nat) (b3 : Nat), OvOk 1 ov B0.length (u8s B0) ∧ Sub [(5, .pointer (some ⟨bw, 0, none⟩)), (12, .int .i64 c.id), (16, .int .i64 c.roles), (20, .int .i64 c.exp), (24, .int .i64 c.ser), (17, .slice (some ⟨b1, 0, none⟩) 1 1), (21, .slice (some ⟨b2, 0, none⟩) 1 1), (25, .slice (some ⟨b3, 0, none⟩) 1 1)] σ ∧ Keep L (WL bw ov B0 ++ [(bc, .cells ⟨[.int .i64 c.id, .int .i64 c.roles, .int .i64 c.exp, .int .i64 c.ser]⟩ 40 (0, 0)), (b1, .cells ⟨[.int .i64 c.roles]⟩ 3 (0, 0)), (b2, .cells ⟨[.int .i64 c.exp]⟩ 3 (0, 0)), (b3, .cells ⟨[.int .i64 c.ser]⟩ 3 (0, 0))])) 10 #[true, true, false, false, true, true, true, false, true, true, true, false, true, true, true, false, false, false, false, false, false] ?_ ?_
    · rintro σ L ⟨ov, b1, b2, b3, hov, hs, hk⟩
      refine A.weak ?_ hs hk
      refine A.multi [2] (by kernel_rfl) (by decide) ⟨⟨_, rfl, ?_⟩, trivial⟩
      · (((apply R.buildSlice; (iterate 12 exact rfl); intro))); rename_i b0; apply R.nil; refine ⟨(by (focus ((repeat' (first | exact trivial | (refine ⟨?_, ?_⟩; (focus ((repeat' (first | exact At.head | apply At.tail | apply At.right)); done)))))))), A.cast (by kernel_rfl) (H0_0123 _ _ ⟨ov, b0, b1, b2, b3, hov, ⟨rfl, rfl, rfl, rfl, rfl, rfl, rfl, rfl, rfl, trivial⟩, (by (focus ((repeat' (first | exact Keep.nil _ | exact Ext.one _ _ | exact Ext.here _ _ | apply Keep.cons | apply Keep.app | apply Ext.cons)); done)))⟩)⟩
    intro H0_123
    refine A.merge (fun σ L => ∃ (ov : Ov) (b0 : Nat) (b1 : Nat), OvOk 1 ov B0.length (u8s B0) ∧ Sub [(5, .pointer (some ⟨bw, 0, none⟩)), (12, .int .i64 c.id), (16, .int .i64 c.roles), (20, .int .i64 c.exp), (24, .int .i64 c.ser), (13, .slice (some ⟨b0, 0, none⟩) 1 1), (17, .slice (some ⟨b1, 0, none⟩) 1 1)] σ ∧ Keep L (WL bw ov B0 ++ [(bc, .cells ⟨[.int .i64 c.id, .int .i64 c.roles, .int .i64 c.exp, .int .i64 c.ser]⟩ 40 (0, 0)), (b0, .cells ⟨[.int .i64 c.id]⟩ 3 (0, 0)), (b1, .cells ⟨[.int .i64 c.roles]⟩ 3 (0, 0))])) 11 #[true, true, true, false, true, true, true, false, true, true, false, false, true, true, false, false, false, false, false, false, false] ?_ ?_
    · rintro σ L ⟨ov, b0, b1, hov, hs, hk⟩
      refine A.weak ?_ hs hk
      refine A.multi [3, 10, 14] (by kernel_rfl) (by decide) ⟨⟨_, rfl, ?_⟩, ⟨_, rfl, ?_⟩, ⟨_, rfl, ?_⟩, trivial⟩
      · (apply R.callE (Li := WL bw ov B0); (iterate 3 exact rfl); (focus ((repeat' (exact Ext.here _ _)); done)); intro w1 hw1; have h9 := number1_ok bw ov B0 hov 1 c.id hf1 hl0 b0 _ _ w1 (hw1.get _ _ (At.mem (by (focus ((repeat' (first | exact At.head | apply At.tail | apply At.right)); done))))) (RdSl.off hw1 (by (focus ((repeat' (exact Ext.here _ _)); done))) (At.mem (by (focus ((repeat' (first | exact At.head | apply At.tail)); done))))); rw [← hB1] at h9; exact h9; rintro v Lo ⟨ov1, rfl, hov1, rfl⟩); apply R.nil; refine ⟨(by (focus ((repeat' (first | exact trivial | (refine ⟨?_, ?_⟩; (focus ((repeat' (first | exact At.head | apply At.tail | apply At.right)); done)))))))), A.cast (by kernel_rfl) (H1_1 _ _ ⟨ov1, b1, hov1, ⟨rfl, rfl, rfl, rfl, rfl, rfl, rfl, trivial⟩, (by (focus ((repeat' (first | exact Keep.nil _ | exact Ext.one _ _ | exact Ext.here _ _ | apply Keep.cons | apply Keep.app | apply Ext.cons)); done)))⟩)⟩
      · (((apply R.buildSlice; (iterate 12 exact rfl); intro))); rename_i b2; apply R.nil; refine ⟨(by (focus ((repeat' (first | exact trivial | (refine ⟨?_, ?_⟩; (focus ((repeat' (first | exact At.head | apply At.tail | apply At.right)); done)))))))), A.cast (by kernel_rfl) (H0_012 _ _ ⟨ov, b0, b1, b2, hov, ⟨rfl, rfl, rfl, rfl, rfl, rfl, rfl, rfl, trivial⟩, (by (focus ((repeat' (first | exact Keep.nil _ | exact Ext.one _ _ | exact Ext.here _ _ | apply Keep.cons | apply Keep.app | apply Ext.cons)); done)))⟩)⟩
      · (((apply R.buildSlice; (iterate 12 exact rfl); intro))); rename_i b3; apply R.nil; refine ⟨(by (focus ((repeat' (first | exact trivial | (refine ⟨?_, ?_⟩; (focus ((repeat' (first | exact At.head | apply At.tail | apply At.right)); done)))))))), A.cast (by kernel_rfl) (H0_013 _ _ ⟨ov, b0, b1, b3, hov, ⟨rfl, rfl, rfl, rfl, rfl, rfl, rfl, rfl, trivial⟩, (by (focus ((repeat' (first | exact Keep.nil _ | exact Ext.one _ _ | exact Ext.here _ _ | apply Keep.cons | apply Keep.app | apply Ext.cons)); done)))⟩)⟩
    intro H0_01
    refine A.merge (fun σ L => ∃ (ov : Ov) (b0 : Nat) (b2 : Nat), OvOk 1 ov B0.length (u8s B0) ∧ Sub [(5, .pointer (some ⟨bw, 0, none⟩)), (12, .int .i64 c.id), (16, .int .i64 c.roles), (20, .int .i64 c.exp), (24, .int .i64 c.ser), (13, .slice (some ⟨b0, 0, none⟩) 1 1), (21, .slice (some ⟨b2, 0, none⟩) 1 1)] σ ∧ Keep L (WL bw ov B0 ++ [(bc, .cells ⟨[.int .i64 c.id, .int .i64 c.roles, .int .i64 c.exp, .int .i64 c.ser]⟩ 40 (0, 0)), (b0, .cells ⟨[.int .i64 c.id]⟩ 3 (0, 0)), (b2, .cells ⟨[.int .i64 c.exp]⟩ 3 (0, 0))])) 11 #[true, true, true, false, true, true, false, false, true, true, true, false, true, true, false, false, false, false, false, false, false] ?_ ?_
    · rintro σ L ⟨ov, b0, b2, hov, hs, hk⟩
      refine A.weak ?_ hs hk
      refine A.multi [3, 6, 14] (by kernel_rfl) (by decide) ⟨⟨_, rfl, ?_⟩, ⟨_, rfl, ?_⟩, ⟨_, rfl, ?_⟩, trivial⟩
      · (apply R.callE (Li := WL bw ov B0); (iterate 3 exact rfl); (focus ((repeat' (exact Ext.here _ _)); done)); intro w1 hw1; have h9 := number1_ok bw ov B0 hov 1 c.id hf1 hl0 b0 _ _ w1 (hw1.get _ _ (At.mem (by (focus ((repeat' (first | exact At.head | apply At.tail | apply At.right)); done))))) (RdSl.off hw1 (by (focus ((repeat' (exact Ext.here _ _)); done))) (At.mem (by (focus ((repeat' (first | exact At.head | apply At.tail)); done))))); rw [← hB1] at h9; exact h9; rintro v Lo ⟨ov1, rfl, hov1, rfl⟩); apply R.nil; refine ⟨(by (focus ((repeat' (first | exact trivial | (refine ⟨?_, ?_⟩; (focus ((repeat' (first | exact At.head | apply At.tail | apply At.right)); done)))))))), A.cast (by kernel_rfl) (H1_2 _ _ ⟨ov1, b2, hov1, ⟨rfl, rfl, rfl, rfl, rfl, rfl, rfl, trivial⟩, (by (focus ((repeat' (first | exact Keep.nil _ | exact Ext.one _ _ | exact Ext.here _ _ | apply Keep.cons | apply Keep.app | apply Ext.cons)); done)))⟩)⟩
      · (((apply R.buildSlice; (iterate 12 exact rfl); intro))); rename_i b1; apply R.nil; refine ⟨(by (focus ((repeat' (first | exact trivial | (refine ⟨?_, ?_⟩; (focus ((repeat' (first | exact At.head | apply At.tail | apply At.right)); done)))))))), A.cast (by kernel_rfl) (H0_012 _ _ ⟨ov, b0, b1, b2, hov, ⟨rfl, rfl, rfl, rfl, rfl, rfl, rfl, rfl, trivial⟩, (by (focus ((repeat' (first | exact Keep.nil _ | exact Ext.one _ _ | exact Ext.here _ _ | apply Keep.cons | apply Keep.app | apply Ext.cons)); done)))⟩)⟩
      · (((apply R.buildSlice; (iterate 12 exact rfl); intro))); rename_i b3; apply R.nil; refine ⟨(by (focus ((repeat' (first | exact trivial | (refine ⟨?_, ?_⟩; (focus ((repeat' (first | exact At.head | apply At.tail | apply At.right)); done)))))))), A.cast (by kernel_rfl) (H0_023 _ _ ⟨ov, b0, b2, b3, hov, ⟨rfl, rfl, rfl, rfl, rfl, rfl, rfl, rfl, trivial⟩, (by (focus ((repeat' (first | exact Keep.nil _ | exact Ext.one _ _ | exact Ext.here _ _ | apply Keep.cons | apply Keep.app | apply Ext.cons)); done)))⟩)⟩
    intro H0_02
    refine A.merge (fun σ L => ∃ (ov : Ov) (b0 : Nat) (b3 : Nat), OvOk 1 ov B0.length (u8s B0) ∧ Sub [(5, .pointer (some ⟨bw, 0, none⟩)), (12, .int .i64 c.id), (16, .int .i64 c.roles), (20, .int .i64 c.exp), (24, .int .i64 c.ser), (13, .slice (some ⟨b0, 0, none⟩) 1 1), (25, .slice (some ⟨b3, 0, none⟩) 1 1)] σ ∧ Keep L (WL bw ov B0 ++ [(bc, .cells ⟨[.int .i64 c.id, .int .i64 c.roles, .int .i64 c.exp, .int .i64 c.ser]⟩ 40 (0, 0)), (b0, .cells ⟨[.int .i64 c.id]⟩ 3 (0, 0)), (b3, .cells ⟨[.int .i64 c.ser]⟩ 3 (0, 0))])) 11 #[true, true, true, false, true, true, false, false, true, true, false, false, true, true, true, false, false, false, false, false, false] ?_ ?_
    · rintro σ L ⟨ov, b0, b3, hov, hs, hk⟩
      refine A.weak ?_ hs hk
      refine A.multi [3, 6, 10] (by kernel_rfl) (by decide) ⟨⟨_, rfl, ?_⟩, ⟨_, rfl, ?_⟩, ⟨_, rfl, ?_⟩, trivial⟩
      · (apply R.callE (Li := WL bw ov B0); (iterate 3 exact rfl); (focus ((repeat' (exact Ext.here _ _)); done)); intro w1 hw1; have h9 := number1_ok bw ov B0 hov 1 c.id hf1 hl0 b0 _ _ w1 (hw1.get _ _ (At.mem (by (focus ((repeat' (first | exact At.head | apply At.tail | apply At.right)); done))))) (RdSl.off hw1 (by (focus ((repeat' (exact Ext.here _ _)); done))) (At.mem (by (focus ((repeat' (first | exact At.head | apply At.tail)); done))))); rw [← hB1] at h9; exact h9; rintro v Lo ⟨ov1, rfl, hov1, rfl⟩); apply R.nil; refine ⟨(by (focus ((repeat' (first | exact trivial | (refine ⟨?_, ?_⟩; (focus ((repeat' (first | exact At.head | apply At.tail | apply At.right)); done)))))))), A.cast (by kernel_rfl) (H1_3 _ _ ⟨ov1, b3, hov1, ⟨rfl, rfl, rfl, rfl, rfl, rfl, rfl, trivial⟩, (by (focus ((repeat' (first | exact Keep.nil _ | exact Ext.one _ _ | exact Ext.here _ _ | apply Keep.cons | apply Keep.app | apply Ext.cons)); done)))⟩)⟩
      · (((apply R.buildSlice; (iterate 12 exact rfl); intro))); rename_i b1; apply R.nil; refine ⟨(by (focus ((repeat' (first | exact trivial | (refine ⟨?_, ?_⟩; (focus ((repeat' (first | exact At.head | apply At.tail | apply At.right)); done)))))))), A.cast (by kernel_rfl) (H0_013 _ _ ⟨ov, b0, b1, b3, hov, ⟨rfl, rfl, rfl, rfl, rfl, rfl, rfl, rfl, trivial⟩, (by (focus ((repeat' (first | exact Keep.nil _ | exact Ext.one _ _ | exact Ext.here _ _ | apply Keep.cons | apply Keep.app | apply Ext.cons)); done)))⟩)⟩
      · (((apply R.buildSlice; (iterate 12 exact rfl); intro))); rename_i b2; apply R.nil; refine ⟨(by (focus ((repeat' (first | exact trivial | (refine ⟨?_, ?_⟩; (focus ((repeat' (first | exact At.head | apply At.tail | apply At.right)); done)))))))), A.cast (by kernel_rfl) (H0_023 _ _ ⟨ov, b0, b2, b3, hov, ⟨rfl, rfl, rfl, rfl, rfl, rfl, rfl, rfl, trivial⟩, (by (focus ((repeat' (first | exact Keep.nil _ | exact Ext.one _ _ | exact Ext.here _ _ | apply Keep.cons | apply Keep.app | apply Ext.cons)); done)))⟩)⟩
    intro H0_03
    refine A.merge (fun σ L => ∃ (ov : Ov) (b1 : Nat) (b2 : Nat), OvOk 1 ov B0.length (u8s B0) ∧ Sub [(5, .pointer (some ⟨bw, 0, none⟩)), (12, .int .i64 c.id), (16, .int .i64 c.roles), (20, .int .i64 c.exp), (24, .int .i64 c.ser), (17, .slice (some ⟨b1, 0, none⟩) 1 1), (21, .slice (some ⟨b2, 0, none⟩) 1 1)] σ ∧ Keep L (WL bw ov B0 ++ [(bc, .cells ⟨[.int .i64 c.id, .int .i64 c.roles, .int .i64 c.exp, .int .i64 c.ser]⟩ 40 (0, 0)), (b1, .cells ⟨[.int .i64 c.roles]⟩ 3 (0, 0)), (b2, .cells ⟨[.int .i64 c.exp]⟩ 3 (0, 0))])) 11 #[true, true, false, false, true, true, true, false, true, true, true, false, true, true, false, false, false, false, false, false, false] ?_ ?_
    · rintro σ L ⟨ov, b1, b2, hov, hs, hk⟩
      refine A.weak ?_ hs hk
      refine A.multi [2, 14] (by kernel_rfl) (by decide) ⟨⟨_, rfl, ?_⟩, ⟨_, rfl, ?_⟩, trivial⟩
      · (((apply R.buildSlice; (iterate 12 exact rfl); intro))); rename_i b0; apply R.nil; refine ⟨(by (focus ((repeat' (first | exact trivial | (refine ⟨?_, ?_⟩; (focus ((repeat' (first | exact At.head | apply At.tail | apply At.right)); done)))))))), A.cast (by kernel_rfl) (H0_012 _ _ ⟨ov, b0, b1, b2, hov, ⟨rfl, rfl, rfl, rfl, rfl, rfl, rfl, rfl, trivial⟩, (by (focus ((repeat' (first | exact Keep.nil _ | exact Ext.one _ _ | exact Ext.here _ _ | apply Keep.cons | apply Keep.app | apply Ext.cons)); done)))⟩)⟩
      · (((apply R.buildSlice; (iterate 12 exact rfl); intro))); rename_i b3; apply R.nil; refine ⟨(by (focus ((repeat' (first | exact trivial | (refine ⟨?_, ?_⟩; (focus ((repeat' (first | exact At.head | apply At.tail | apply At.right)); done)))))))), A.cast (by kernel_rfl) (H0_123 _ _ ⟨ov, b1, b2, b3, hov, ⟨rfl, rfl, rfl, rfl, rfl, rfl, rfl, rfl, trivial⟩, (by (focus ((repeat' (first | exact Keep.nil _ | exact Ext.one _ _ | exact Ext.here _ _ | apply Keep.cons | apply Keep.app | apply Ext.cons)); done)))⟩)⟩
    intro H0_12
    refine A.merge (fun σ L => ∃ (ov : Ov) (b1 : Nat) (b3 : Nat), OvOk 1 ov B0.length (u8s B0) ∧ Sub [(5, .pointer (some ⟨bw, 0, none⟩)), (12, .int .i64 c.id), (16, .int .i64 c.roles), (20, .int .i64 c.exp), (24, .int .i64 c.ser), (17, .slice (some ⟨b1, 0, none⟩) 1 1), (25, .slice (some ⟨b3, 0, none⟩) 1 1)] σ ∧ Keep L (WL bw ov B0 ++ [(bc, .cells ⟨[.int .i64 c.id, .int .i64 c.roles, .int .i64 c.exp, .int .i64 c.ser]⟩ 40 (0, 0)), (b1, .cells ⟨[.int .i64 c.roles]⟩ 3 (0, 0)), (b3, .cells ⟨[.int .i64 c.ser]⟩ 3 (0, 0))])) 11 #[true, true, false, false, true, true, true, false, true, true, false, false, true, true, true, false, false, false, false, false, false] ?_ ?_
    · rintro σ L ⟨ov, b1, b3, hov, hs, hk⟩
      refine A.weak ?_ hs hk
      refine A.multi [2, 10] (by kernel_rfl) (by decide) ⟨⟨_, rfl, ?_⟩, ⟨_, rfl, ?_⟩, trivial⟩
      · (((apply R.buildSlice; (iterate 12 exact rfl); intro))); rename_i b0; apply R.nil; refine ⟨(by (focus ((repeat' (first | exact trivial | (refine ⟨?_, ?_⟩; (focus ((repeat' (first | exact At.head | apply At.tail | apply At.right)); done)))))))), A.cast (by kernel_rfl) (H0_013 _ _ ⟨ov, b0, b1, b3, hov, ⟨rfl, rfl, rfl, rfl, rfl, rfl, rfl, rfl, trivial⟩, (by (focus ((repeat' (first | exact Keep.nil _ | exact Ext.one _ _ | exact Ext.here _ _ | apply Keep.cons | apply Keep.app | apply Ext.cons)); done)))⟩)⟩
      · (((apply R.buildSlice; (iterate 12 exact rfl); intro))); rename_i b2; apply R.nil; refine ⟨(by (focus ((repeat' (first | exact trivial | (refine ⟨?_, ?_⟩; (focus ((repeat' (first | exact At.head | apply At.tail | apply At.right)); done)))))))), A.cast (by kernel_rfl) (H0_123 _ _ ⟨ov, b1, b2, b3, hov, ⟨rfl, rfl, rfl, rfl, rfl, rfl, rfl, rfl, trivial⟩, (by (focus ((repeat' (first | exact Keep.nil _ | exact Ext.one _ _ | exact Ext.here _ _ | apply Keep.cons | apply Keep.app | apply Ext.cons)); done)))⟩)⟩
    intro H0_13
    refine A.merge (fun σ L => ∃ (ov : Ov) (b2 : Nat) (b3 : Nat), OvOk 1 ov B0.length (u8s B0) ∧ Sub [(5, .pointer (some ⟨bw, 0, none⟩)), (12, .int .i64 c.id), (16, .int .i64 c.roles), (20, .int .i64 c.exp), (24, .int .i64 c.ser), (21, .slice (some ⟨b2, 0, none⟩) 1 1), (25, .slice (some ⟨b3, 0, none⟩) 1 1)] σ ∧ Keep L (WL bw ov B0 ++ [(bc, .cells ⟨[.int .i64 c.id, .int .i64 c.roles, .int .i64 c.exp, .int .i64 c.ser]⟩ 40 (0, 0)), (b2, .cells ⟨[.int .i64 c.exp]⟩ 3 (0, 0)), (b3, .cells ⟨[.int .i64 c.ser]⟩ 3 (0, 0))])) 11 #[true, true, false, false, true, true, false, false, true, true, true, false, true, true, true, false, false, false, false, false, false] ?_ ?_
    · rintro σ L ⟨ov, b2, b3, hov, hs, hk⟩
      refine A.weak ?_ hs hk
      refine A.multi [2, 6] (by kernel_rfl) (by decide) ⟨⟨_, rfl, ?_⟩, ⟨_, rfl, ?_⟩, trivial⟩
      · (((apply R.buildSlice; (iterate 12 exact rfl); intro))); rename_i b0; apply R.nil; refine ⟨(by (focus ((repeat' (first | exact trivial | (refine ⟨?_, ?_⟩; (focus ((repeat' (first | exact At.head | apply At.tail | apply At.right)); done)))))))), A.cast (by kernel_rfl) (H0_023 _ _ ⟨ov, b0, b2, b3, hov, ⟨rfl, rfl, rfl, rfl, rfl, rfl, rfl, rfl, trivial⟩, (by (focus ((repeat' (first | exact Keep.nil _ | exact Ext.one _ _ | exact Ext.here _ _ | apply Keep.cons | apply Keep.app | apply Ext.cons)); done)))⟩)⟩
      · (((apply R.buildSlice; (iterate 12 exact rfl); intro))); rename_i b1; apply R.nil; refine ⟨(by (focus ((repeat' (first | exact trivial | (refine ⟨?_, ?_⟩; (focus ((repeat' (first | exact At.head | apply At.tail | apply At.right)); done)))))))), A.cast (by kernel_rfl) (H0_123 _ _ ⟨ov, b1, b2, b3, hov, ⟨rfl, rfl, rfl, rfl, rfl, rfl, rfl, rfl, trivial⟩, (by (focus ((repeat' (first | exact Keep.nil _ | exact Ext.one _ _ | exact Ext.here _ _ | apply Keep.cons | apply Keep.app | apply Ext.cons)); done)))⟩)⟩
    intro H0_23
    refine A.merge (fun σ L => ∃ (ov : Ov) (b0 : Nat), OvOk 1 ov B0.length (u8s B0) ∧ Sub [(5, .pointer (some ⟨bw, 0, none⟩)), (12, .int .i64 c.id), (16, .int .i64 c.roles), (20, .int .i64 c.exp), (24, .int .i64 c.ser), (13, .slice (some ⟨b0, 0, none⟩) 1 1)] σ ∧ Keep L (WL bw ov B0 ++ [(bc, .cells ⟨[.int .i64 c.id, .int .i64 c.roles, .int .i64 c.exp, .int .i64 c.ser]⟩ 40 (0, 0)), (b0, .cells ⟨[.int .i64 c.id]⟩ 3 (0, 0))])) 12 #[true, true, true, false, true, true, false, false, true, true, false, false, true, true, false, false, false, false, false, false, false] ?_ ?_
    · rintro σ L ⟨ov, b0, hov, hs, hk⟩
      refine A.weak ?_ hs hk
      refine A.multi [3, 6, 10, 14] (by kernel_rfl) (by decide) ⟨⟨_, rfl, ?_⟩, ⟨_, rfl, ?_⟩, ⟨_, rfl, ?_⟩, ⟨_, rfl, ?_⟩, trivial⟩
      · (apply R.callE (Li := WL bw ov B0); (iterate 3 exact rfl); (focus ((repeat' (exact Ext.here _ _)); done)); intro w1 hw1; have h9 := number1_ok bw ov B0 hov 1 c.id hf1 hl0 b0 _ _ w1 (hw1.get _ _ (At.mem (by (focus ((repeat' (first | exact At.head | apply At.tail | apply At.right)); done))))) (RdSl.off hw1 (by (focus ((repeat' (exact Ext.here _ _)); done))) (At.mem (by (focus ((repeat' (first | exact At.head | apply At.tail)); done))))); rw [← hB1] at h9; exact h9; rintro v Lo ⟨ov1, rfl, hov1, rfl⟩); apply R.nil; refine ⟨(by (focus ((repeat' (first | exact trivial | (refine ⟨?_, ?_⟩; (focus ((repeat' (first | exact At.head | apply At.tail | apply At.right)); done)))))))), A.cast (by kernel_rfl) (H1_ _ _ ⟨ov1, hov1, ⟨rfl, rfl, rfl, rfl, rfl, rfl, trivial⟩, (by (focus ((repeat' (first | exact Keep.nil _ | exact Ext.one _ _ | exact Ext.here _ _ | apply Keep.cons | apply Keep.app)); done)))⟩)⟩
      · (((apply R.buildSlice; (iterate 12 exact rfl); intro))); rename_i b1; apply R.nil; refine ⟨(by (focus ((repeat' (first | exact trivial | (refine ⟨?_, ?_⟩; (focus ((repeat' (first | exact At.head | apply At.tail | apply At.right)); done)))))))), A.cast (by kernel_rfl) (H0_01 _ _ ⟨ov, b0, b1, hov, ⟨rfl, rfl, rfl, rfl, rfl, rfl, rfl, trivial⟩, (by (focus ((repeat' (first | exact Keep.nil _ | exact Ext.one _ _ | exact Ext.here _ _ | apply Keep.cons | apply Keep.app | apply Ext.cons)); done)))⟩)⟩
      · (((apply R.buildSlice; (iterate 12 exact rfl); intro))); rename_i b2; apply R.nil; refine ⟨(by (focus ((repeat' (first | exact trivial | (refine ⟨?_, ?_⟩; (focus ((repeat' (first | exact At.head | apply At.tail | apply At.right)); done)))))))), A.cast (by kernel_rfl) (H0_02 _ _ ⟨ov, b0, b2, hov, ⟨rfl, rfl, rfl, rfl, rfl, rfl, rfl, trivial⟩, (by (focus ((repeat' (first | exact Keep.nil _ | exact Ext.one _ _ | exact Ext.here _ _ | apply Keep.cons | apply Keep.app | apply Ext.cons)); done)))⟩)⟩
      · (((apply R.buildSlice; (iterate 12 exact rfl); intro))); rename_i b3; apply R.nil; refine ⟨(by (focus ((repeat' (first | exact trivial | (refine ⟨?_, ?_⟩; (focus ((repeat' (first | exact At.head | apply At.tail | apply At.right)); done)))))))), A.cast (by kernel_rfl) (H0_03 _ _ ⟨ov, b0, b3, hov, ⟨rfl, rfl, rfl, rfl, rfl, rfl, rfl, trivial⟩, (by (focus ((repeat' (first | exact Keep.nil _ | exact Ext.one _ _ | exact Ext.here _ _ | apply Keep.cons | apply Keep.app | apply Ext.cons)); done)))⟩)⟩
    intro H0_0
    refine A.merge (fun σ L => ∃ (ov : Ov) (b1 : Nat), OvOk 1 ov B0.length (u8s B0) ∧ Sub [(5, .pointer (some ⟨bw, 0, none⟩)), (12, .int .i64 c.id), (16, .int .i64 c.roles), (20, .int .i64 c.exp), (24, .int .i64 c.ser), (17, .slice (some ⟨b1, 0, none⟩) 1 1)] σ ∧ Keep L (WL bw ov B0 ++ [(bc, .cells ⟨[.int .i64 c.id, .int .i64 c.roles, .int .i64 c.exp, .int .i64 c.ser]⟩ 40 (0, 0)), (b1, .cells ⟨[.int .i64 c.roles]⟩ 3 (0, 0))])) 12 #[true, true, false, false, true, true, true, false, true, true, false, false, true, true, false, false, false, false, false, false, false] ?_ ?_
    · rintro σ L ⟨ov, b1, hov, hs, hk⟩
      refine A.weak ?_ hs hk
      refine A.multi [2, 10, 14] (by kernel_rfl) (by decide) ⟨⟨_, rfl, ?_⟩, ⟨_, rfl, ?_⟩, ⟨_, rfl, ?_⟩, trivial⟩
      · (((apply R.buildSlice; (iterate 12 exact rfl); intro))); rename_i b0; apply R.nil; refine ⟨(by (focus ((repeat' (first | exact trivial | (refine ⟨?_, ?_⟩; (focus ((repeat' (first | exact At.head | apply At.tail | apply At.right)); done)))))))), A.cast (by kernel_rfl) (H0_01 _ _ ⟨ov, b0, b1, hov, ⟨rfl, rfl, rfl, rfl, rfl, rfl, rfl, trivial⟩, (by (focus ((repeat' (first | exact Keep.nil _ | exact Ext.one _ _ | exact Ext.here _ _ | apply Keep.cons | apply Keep.app | apply Ext.cons)); done)))⟩)⟩
      · (((apply R.buildSlice; (iterate 12 exact rfl); intro))); rename_i b2; apply R.nil; refine ⟨(by (focus ((repeat' (first | exact trivial | (refine ⟨?_, ?_⟩; (focus ((repeat' (first | exact At.head | apply At.tail | apply At.right)); done)))))))), A.cast (by kernel_rfl) (H0_12 _ _ ⟨ov, b1, b2, hov, ⟨rfl, rfl, rfl, rfl, rfl, rfl, rfl, trivial⟩, (by (focus ((repeat' (first | exact Keep.nil _ | exact Ext.one _ _ | exact Ext.here _ _ | apply Keep.cons | apply Keep.app | apply Ext.cons)); done)))⟩)⟩
      · (((apply R.buildSlice; (iterate 12 exact rfl); intro))); rename_i b3; apply R.nil; refine ⟨(by (focus ((repeat' (first | exact trivial | (refine ⟨?_, ?_⟩; (focus ((repeat' (first | exact At.head | apply At.tail | apply At.right)); done)))))))), A.cast (by kernel_rfl) (H0_13 _ _ ⟨ov, b1, b3, hov, ⟨rfl, rfl, rfl, rfl, rfl, rfl, rfl, trivial⟩, (by (focus ((repeat' (first | exact Keep.nil _ | exact Ext.one _ _ | exact Ext.here _ _ | apply Keep.cons | apply Keep.app | apply Ext.cons)); done)))⟩)⟩
    intro H0_1
    refine A.merge (fun σ L => ∃ (ov : Ov) (b2 : Nat), OvOk 1 ov B0.length (u8s B0) ∧ Sub [(5, .pointer (some ⟨bw, 0, none⟩)), (12, .int .i64 c.id), (16, .int .i64 c.roles), (20, .int .i64 c.exp), (24, .int .i64 c.ser), (21, .slice (some ⟨b2, 0, none⟩) 1 1)] σ ∧ Keep L (WL bw ov B0 ++ [(bc, .cells ⟨[.int .i64 c.id, .int .i64 c.roles, .int .i64 c.exp, .int .i64 c.ser]⟩ 40 (0, 0)), (b2, .cells ⟨[.int .i64 c.exp]⟩ 3 (0, 0))])) 12 #[true, true, false, false, true, true, false, false, true, true, true, false, true, true, false, false, false, false, false, false, false] ?_ ?_
    · rintro σ L ⟨ov, b2, hov, hs, hk⟩
      refine A.weak ?_ hs hk
      refine A.multi [2, 6, 14] (by kernel_rfl) (by decide) ⟨⟨_, rfl, ?_⟩, ⟨_, rfl, ?_⟩, ⟨_, rfl, ?_⟩, trivial⟩
      · (((apply R.buildSlice; (iterate 12 exact rfl); intro))); rename_i b0; apply R.nil; refine ⟨(by (focus ((repeat' (first | exact trivial | (refine ⟨?_, ?_⟩; (focus ((repeat' (first | exact At.head | apply At.tail | apply At.right)); done)))))))), A.cast (by kernel_rfl) (H0_02 _ _ ⟨ov, b0, b2, hov, ⟨rfl, rfl, rfl, rfl, rfl, rfl, rfl, trivial⟩, (by (focus ((repeat' (first | exact Keep.nil _ | exact Ext.one _ _ | exact Ext.here _ _ | apply Keep.cons | apply Keep.app | apply Ext.cons)); done)))⟩)⟩
      · (((apply R.buildSlice; (iterate 12 exact rfl); intro))); rename_i b1; apply R.nil; refine ⟨(by (focus ((repeat' (first | exact trivial | (refine ⟨?_, ?_⟩; (focus ((repeat' (first | exact At.head | apply At.tail | apply At.right)); done)))))))), A.cast (by kernel_rfl) (H0_12 _ _ ⟨ov, b1, b2, hov, ⟨rfl, rfl, rfl, rfl, rfl, rfl, rfl, trivial⟩, (by (focus ((repeat' (first | exact Keep.nil _ | exact Ext.one _ _ | exact Ext.here _ _ | apply Keep.cons | apply Keep.app | apply Ext.cons)); done)))⟩)⟩
      · (((apply R.buildSlice; (iterate 12 exact rfl); intro))); rename_i b3; apply R.nil; refine ⟨(by (focus ((repeat' (first | exact trivial | (refine ⟨?_, ?_⟩; (focus ((repeat' (first | exact At.head | apply At.tail | apply At.right)); done)))))))), A.cast (by kernel_rfl) (H0_23 _ _ ⟨ov, b2, b3, hov, ⟨rfl, rfl, rfl, rfl, rfl, rfl, rfl, trivial⟩, (by (focus ((repeat' (first | exact Keep.nil _ | exact Ext.one _ _ | exact Ext.here _ _ | apply Keep.cons | apply Keep.app | apply Ext.cons)); done)))⟩)⟩
    intro H0_2
    refine A.merge (fun σ L => ∃ (ov : Ov) (b3 : Nat), OvOk 1 ov B0.length (u8s B0) ∧ Sub [(5, .pointer (some ⟨bw, 0, none⟩)), (12, .int .i64 c.id), (16, .int .i64 c.roles), (20, .int .i64 c.exp), (24, .int .i64 c.ser), (25, .slice (some ⟨b3, 0, none⟩) 1 1)] σ ∧ Keep L (WL bw ov B0 ++ [(bc, .cells ⟨[.int .i64 c.id, .int .i64 c.roles, .int .i64 c.exp, .int .i64 c.ser]⟩ 40 (0, 0)), (b3, .cells ⟨[.int .i64 c.ser]⟩ 3 (0, 0))])) 12 #[true, true, false, false, true, true, false, false, true, true, false, false, true, true, true, false, false, false, false, false, false] ?_ ?_
    · rintro σ L ⟨ov, b3, hov, hs, hk⟩
      refine A.weak ?_ hs hk
      refine A.multi [2, 6, 10] (by kernel_rfl) (by decide) ⟨⟨_, rfl, ?_⟩, ⟨_, rfl, ?_⟩, ⟨_, rfl, ?_⟩, trivial⟩
      · (((apply R.buildSlice; (iterate 12 exact rfl); intro))); rename_i b0; apply R.nil; refine ⟨(by (focus ((repeat' (first | exact trivial | (refine ⟨?_, ?_⟩; (focus ((repeat' (first | exact At.head | apply At.tail | apply At.right)); done)))))))), A.cast (by kernel_rfl) (H0_03 _ _ ⟨ov, b0, b3, hov, ⟨rfl, rfl, rfl, rfl, rfl, rfl, rfl, trivial⟩, (by (focus ((repeat' (first | exact Keep.nil _ | exact Ext.one _ _ | exact Ext.here _ _ | apply Keep.cons | apply Keep.app | apply Ext.cons)); done)))⟩)⟩
      · (((apply R.buildSlice; (iterate 12 exact rfl); intro))); rename_i b1; apply R.nil; refine ⟨(by (focus ((repeat' (first | exact trivial | (refine ⟨?_, ?_⟩; (focus ((repeat' (first | exact At.head | apply At.tail | apply At.right)); done)))))))), A.cast (by kernel_rfl) (H0_13 _ _ ⟨ov, b1, b3, hov, ⟨rfl, rfl, rfl, rfl, rfl, rfl, rfl, trivial⟩, (by (focus ((repeat' (first | exact Keep.nil _ | exact Ext.one _ _ | exact Ext.here _ _ | apply Keep.cons | apply Keep.app | apply Ext.cons)); done)))⟩)⟩
      · (((apply R.buildSlice; (iterate 12 exact rfl); intro))); rename_i b2; apply R.nil; refine ⟨(by (focus ((repeat' (first | exact trivial | (refine ⟨?_, ?_⟩; (focus ((repeat' (first | exact At.head | apply At.tail | apply At.right)); done)))))))), A.cast (by kernel_rfl) (H0_23 _ _ ⟨ov, b2, b3, hov, ⟨rfl, rfl, rfl, rfl, rfl, rfl, rfl, trivial⟩, (by (focus ((repeat' (first | exact Keep.nil _ | exact Ext.one _ _ | exact Ext.here _ _ | apply Keep.cons | apply Keep.app | apply Ext.cons)); done)))⟩)⟩
    intro H0_3
    refine A.merge (fun σ L => ∃ (ov : Ov), OvOk 1 ov B0.length (u8s B0) ∧ Sub [(5, .pointer (some ⟨bw, 0, none⟩)), (12, .int .i64 c.id), (16, .int .i64 c.roles), (20, .int .i64 c.exp), (24, .int .i64 c.ser)] σ ∧ Keep L (WL bw ov B0 ++ [(bc, .cells ⟨[.int .i64 c.id, .int .i64 c.roles, .int .i64 c.exp, .int .i64 c.ser]⟩ 40 (0, 0))])) 13 #[true, true, false, false, true, true, false, false, true, true, false, false, true, true, false, false, false, false, false, false, false] ?_ ?_
    · rintro σ L ⟨ov, hov, hs, hk⟩
      refine A.weak ?_ hs hk
      refine A.multi [2, 6, 10, 14] (by kernel_rfl) (by decide) ⟨⟨_, rfl, ?_⟩, ⟨_, rfl, ?_⟩, ⟨_, rfl, ?_⟩, ⟨_, rfl, ?_⟩, trivial⟩
      · (((apply R.buildSlice; (iterate 12 exact rfl); intro))); rename_i b0; apply R.nil; refine ⟨(by (focus ((repeat' (first | exact trivial | (refine ⟨?_, ?_⟩; (focus ((repeat' (first | exact At.head | apply At.tail | apply At.right)); done)))))))), A.cast (by kernel_rfl) (H0_0 _ _ ⟨ov, b0, hov, ⟨rfl, rfl, rfl, rfl, rfl, rfl, trivial⟩, (by (focus ((repeat' (first | exact Keep.nil _ | exact Ext.one _ _ | exact Ext.here _ _ | apply Keep.cons | apply Keep.app | apply Ext.cons)); done)))⟩)⟩
      · (((apply R.buildSlice; (iterate 12 exact rfl); intro))); rename_i b1; apply R.nil; refine ⟨(by (focus ((repeat' (first | exact trivial | (refine ⟨?_, ?_⟩; (focus ((repeat' (first | exact At.head | apply At.tail | apply At.right)); done)))))))), A.cast (by kernel_rfl) (H0_1 _ _ ⟨ov, b1, hov, ⟨rfl, rfl, rfl, rfl, rfl, rfl, trivial⟩, (by (focus ((repeat' (first | exact Keep.nil _ | exact Ext.one _ _ | exact Ext.here _ _ | apply Keep.cons | apply Keep.app | apply Ext.cons)); done)))⟩)⟩
      · (((apply R.buildSlice; (iterate 12 exact rfl); intro))); rename_i b2; apply R.nil; refine ⟨(by (focus ((repeat' (first | exact trivial | (refine ⟨?_, ?_⟩; (focus ((repeat' (first | exact At.head | apply At.tail | apply At.right)); done)))))))), A.cast (by kernel_rfl) (H0_2 _ _ ⟨ov, b2, hov, ⟨rfl, rfl, rfl, rfl, rfl, rfl, trivial⟩, (by (focus ((repeat' (first | exact Keep.nil _ | exact Ext.one _ _ | exact Ext.here _ _ | apply Keep.cons | apply Keep.app | apply Ext.cons)); done)))⟩)⟩
      · (((apply R.buildSlice; (iterate 12 exact rfl); intro))); rename_i b3; apply R.nil; refine ⟨(by (focus ((repeat' (first | exact trivial | (refine ⟨?_, ?_⟩; (focus ((repeat' (first | exact At.head | apply At.tail | apply At.right)); done)))))))), A.cast (by kernel_rfl) (H0_3 _ _ ⟨ov, b3, hov, ⟨rfl, rfl, rfl, rfl, rfl, rfl, trivial⟩, (by (focus ((repeat' (first | exact Keep.nil _ | exact Ext.one _ _ | exact Ext.here _ _ | apply Keep.cons | apply Keep.app | apply Ext.cons)); done)))⟩)⟩
    intro H0_
    exact A.cast (by kernel_rfl) (H0_ _ _ ⟨none, hw0, ⟨rfl, rfl, rfl, rfl, rfl, trivial⟩, (by (focus ((repeat' (first | exact Keep.nil _ | exact Ext.one _ _ | apply Keep.cons)); done)))⟩)
  rintro σ L ⟨ov, hov, hs, hk⟩
  refine A.weak ?_ hs hk
  clear hs hk
  (apply A.one 16; kernel_rfl; exact rfl; (((simp only [WL, List.cons_append]; apply R.callE; (iterate 3 exact rfl); exact Ext.none _; intro w1 hw1; exact wout_ok bw ov B4 hov (by rw [hB, clI_len]; decide) w1 (hw1.get _ _ (At.mem (by exact At.head))) (rdown hov hw1 (Ext.mem (by (focus ((repeat' (first | exact Ext.here _ _ | apply Ext.cons)); done))))); rintro v Lo ⟨ov9, hov9, rfl, rfl⟩))); apply R.nil; refine ⟨?_, ?_⟩; (focus ((repeat' (first | exact trivial | (refine ⟨?_, ?_⟩; (focus ((repeat' (first | exact At.head | apply At.tail | apply At.right)); done)))))))) <;> (apply A.take 17; exact rfl; exact rfl; kernel_rfl; kernel_rfl; kernel_rfl; (apply Ok1.extract; exact rfl; exact rfl)) <;> (apply A.take 18; exact rfl; exact rfl; kernel_rfl; kernel_rfl; kernel_rfl; (apply Ok1.extract; exact rfl; exact rfl)) <;> (apply A.take 19; exact rfl; exact rfl; kernel_rfl; kernel_rfl; kernel_rfl; (apply Ok1.assign; exact rfl)) <;> (apply A.take 20; exact rfl; exact rfl; kernel_rfl; kernel_rfl; kernel_rfl; (apply Ok1.assign; exact rfl)) <;> (apply A.done; kernel_rfl)
  rw [hB, clI_len] at hov9
  repeat' ((apply T.is; apply T.ret))
  (apply RetOk.tt; exact rfl; exact rfl)
  refine ⟨_, ?_, ov9, hov9, by rw [hB, clI_len], rfl⟩
  rw [hB]
  (focus ((repeat' (first | exact Ext.here _ _ | apply Keep.last)); done))
end Go.Proofs.YtidjnjlejhoalaaGreat
set_option linter.unusedSimpArgs false
set_option linter.unusedVariables false
namespace Go.Proofs.YtidjnjlejhoalaaGreat
open Go.RowKit Go.Shelf
set_option maxRecDepth 100000
theorem vwidth_ok (s : Nat) (h : s ≤ 2) : CallP Tryz.prog 204 [.int .i64 s] (.int .i64 ((2 ^ s : Nat) : Int)) := by
  have hs : s = 0 ∨ s = 1 ∨ s = 2 := by omega
  refine enterP (tb := tb) Tryz.func204 rfl Tryz.ntmps204 rfl fun w => ?_
  rcases hs with rfl | rfl | rfl
  all_goals repeat' (first | (apply R.is1; (apply R.pure; exact rfl; first | (apply Ok1.move; exact rfl) | (apply Ok1.assign; exact rfl) | (apply Ok1.index1; (iterate 6 exact rfl); omega; omega; exact rfl) | (apply Ok1.buildA; (iterate 6 exact rfl)))) | apply R.nil | (apply T.is; first | apply T.seq | apply T.region | apply T.ret))
  all_goals (apply RetOk.t; exact rfl)
  all_goals rfl
def beI : Nat → Int → List Int → List Int
  | 0, _, a => a
  | w + 1, n, a => beI w (n / 256) (n % 256 :: a)
theorem beI_len : ∀ (w : Nat) (n : Int) (a : List Int), (beI w n a).length = w + a.length
  | 0, _, a => by simp [beI]
  | w + 1, n, a => by rw [beI, beI_len w]; simp; omega
theorem vout_ok (s : Nat) (hs : s ≤ 2) (n : Int) (h0 : 0 ≤ n) (h1 : n ≤ 1099511627776) (w : World) : CallM Tryz.prog 120 [.agg ⟨[.int .i64 s, .int .i64 n, .slice none 0 0]⟩] [] w fun v L => ∃ ov, OvOk 1 ov (2 ^ s) (u8s (beI (2 ^ s) n [])) ∧ v = slV ov (2 ^ s) ∧ L = blkL 5 ov (u8s (beI (2 ^ s) n [])) := by
  have hw := vwidth_ok s hs
  have hs4 : (s : Int) ≠ 4 := by omega
  have hpw : 2 ^ s ≤ 4 := by
    have : s = 0 ∨ s = 1 ∨ s = 2 := by omega
    rcases this with rfl | rfl | rfl <;> decide
  have hbl := beI_len (2 ^ s) n []
  generalize hW : 2 ^ s = W at *
  rw [List.length_nil, Nat.add_zero] at hbl
  obtain ⟨V, hV⟩ : ∃ V, V = beI W n [] := ⟨_, rfl⟩
  rw [← hV] at hbl ⊢
  refine enterK (tb := tb) Tryz.func120 rfl Tryz.ntmps120 rfl ?_
  repeat' (first | (apply R.is1; first | (apply R.isBin; (apply R.pure; exact rfl; (apply Ok1.eql_f; exact rfl; exact rfl; omega))) | (apply R.pure; exact rfl; first | (apply Ok1.fieldAddr; (iterate 5 exact rfl)) | (apply Ok1.load; exact rfl; (apply Ld.own1; exact rfl; exact rfl; exact At.head; exact rfl)) | (apply Ok1.assign; exact rfl)) | (apply R.box; (iterate 3 exact rfl); intro)) | apply R.nil | (apply T.is; first | apply T.seq | apply T.region | apply T.block | apply T.skip | (apply T.cond_f; exact rfl)))
  rename_i bF
  apply T.loopK (α := Nat × Ov × List Int × Int) (I := fun y => y.1 ≤ W ∧ y.2.2.1.length = y.1 ∧ OvOk 1 y.2.1 y.2.2.1.length (u8s y.2.2.1) ∧ 0 ≤ y.2.2.2 ∧ y.2.2.2 ≤ 1099511627776 ∧ beI (W - y.1) y.2.2.2 y.2.2.1 = V) (σi := fun y => [(1, .pointer (some ⟨bF, 0, none⟩)), (3, .slice (ovp y.2.1) y.2.2.1.length (ovc y.2.1 y.2.2.1.length)), (4, .int .i64 y.2.2.2), (5, .int .i64 y.1)]) (Li := fun y => (bF, .cells ⟨[.int .i64 s, .int .i64 n, .slice none 0 0]⟩ 232 (0, 0)) :: blkL 5 y.2.1 (u8s y.2.2.1)) (μ := fun y => W - y.1) (i0 := (0, none, [], n))
  · exact ⟨Nat.zero_le _, rfl, OvOk.start 1, h0, h1, hV.symm⟩
  · exact ⟨rfl, rfl, rfl, rfl, trivial⟩
  · (focus ((repeat' (first | exact Keep.nil _ | exact Ext.one _ _ | apply Keep.cons)); done))
  · rintro ⟨i, ov, bs, m⟩ ⟨hi, hl, hov, hm0, hm1, hbe⟩
    simp only at hi hl hov hm0 hm1 hbe ⊢
    rcases Nat.lt_or_ge i W with hlt | hge
    · have hb2 : beI (W - (i + 1)) (m / 256) (m % 256 :: bs) = V := by
        rw [show W - i = (W - (i + 1)) + 1 by omega] at hbe; exact hbe
      repeat' (first | (apply R.is1; first | (apply R.isBin; (apply R.pure; exact rfl; first | (apply Ok1.add64; exact rfl; exact rfl; omega; omega) | (apply Ok1.lss_t; exact rfl; exact rfl; omega) | (apply Ok1.quo64; exact rfl; exact rfl; omega; omega; omega) | (apply Ok1.remN; exact rfl; exact rfl; omega; omega))) | (apply R.isCall; first | apply R.callP rfl rfl rfl hw | (apply R.appendRd (xs := bs) (v := u8V) (sz := 1) (ov := some (_, 0, [])) (n := 1) (old := [.int .u8 (m % 256)]); (iterate 12 exact rfl); exact ⟨rfl, rfl⟩; (focus ((repeat' (exact Ext.one _ _)); done)); exact rfl; exact u8V_len; exact rfl; (intro w1 hw1; exact rdown hov hw1 (Ext.mem (by (focus ((repeat' (first | exact Ext.all _ | apply Ext.cons)); done))))); (focus (rw [fl_u8]; exact u8s_one bs)); omega; intro ov1 hov1 hsome; rw [fl_u8, Nat.add_comm] at hov1; change OvOk 1 ov1 (m % 256 :: bs).length (u8s (m % 256 :: bs)) at hov1; rw [fl_u8])) | (apply R.pure; exact rfl; first | (apply Ok1.move; exact rfl) | (apply Ok1.fieldAddr; (iterate 5 exact rfl)) | (apply Ok1.load; exact rfl; (apply Ld.own1; exact rfl; exact rfl; exact At.head; exact rfl)) | (apply Ok1.assign; exact rfl) | (apply Ok1.convU8; (iterate 5 exact rfl); omega; omega)) | (apply R.buildSlice; (iterate 12 exact rfl); intro)) | apply R.nil | (apply T.is; first | apply T.seq | apply T.region | apply T.block | apply T.skip | (apply T.cond_t; exact rfl)))
      exact ⟨(i + 1, ov1, m % 256 :: bs, m / 256), ⟨by simp only; omega, by simp only [List.length_cons, hl], hov1, by simp only; omega, by simp only; omega, hb2⟩, by simp only; omega, ⟨rfl, by simp only; rw [← slV_eq hov1, List.length_cons, Nat.add_comm]; rfl, rfl, rfl, trivial⟩, by (focus ((repeat' (first | exact Ext.one _ _ | exact Ext.here _ _ | apply Keep.cons | apply Keep.last | apply Ext.app)); done))⟩
    · have he : i = W := by omega
      subst he
      rw [Nat.sub_self] at hbe
      have hbv : bs = V := hbe
      subst hbv
      rw [← slV_eq hov]
      repeat' (first | (apply R.is1; first | (apply R.isBin; (apply R.pure; exact rfl; (apply Ok1.lss_f; exact rfl; exact rfl; omega))) | (apply R.isCall; apply R.callP rfl rfl rfl hw) | (apply R.pure; exact rfl; first | (apply Ok1.move; exact rfl) | (apply Ok1.fieldAddr; (iterate 5 exact rfl)) | (apply Ok1.load; exact rfl; (apply Ld.own1; exact rfl; exact rfl; exact At.head; exact rfl)) | (apply Ok1.assign; exact rfl))) | apply R.nil | (apply T.is; first | apply T.seq | apply T.region | apply T.exit | apply T.ret | (apply T.cond_f; exact rfl)))
      (apply RetOk.t; exact rfl)
      rw [hl] at hov ⊢
      exact ⟨_, by (focus ((repeat' (first | exact Ext.all _ | apply Keep.last | apply Ext.cons)); done)), ov, hov, rfl, rfl⟩
theorem be4 (n : Int) : beI 4 n [] = len4 n := by
  have h2 : n / 256 / 256 = n / 65536 := by omega
  have h3 : n / 65536 / 256 = n / 16777216 := by omega
  simp only [beI, len4, h2, h3]
theorem vcbytes_ok (c : Cl) (hr : c.right) (w : World) : CallM Tryz.prog 100 [kvC c] [] w fun v L => ∃ ov, OvOk 1 ov 9 (u8s (clI c)) ∧ v = slV ov 9 ∧ L = blkL 5 ov (u8s (clI c)) := by
  unfold Cl.right at hr
  have ho_id := vout_ok 1 (by decide) c.id (by omega) (by omega)
  have ho_exp := vout_ok 2 (by decide) c.exp (by omega) (by omega)
  have ho_ser := vout_ok 1 (by decide) c.ser (by omega) (by omega)
  simp only [show 2 ^ 1 = 2 from rfl] at ho_id ho_ser
  simp only [show 2 ^ 2 = 4 from rfl] at ho_exp
  have hcl : u8s (clI c) = u8s (beI 2 c.id []) ++ [.int .u8 c.roles] ++ u8s (beI 4 c.exp []) ++ u8s (beI 2 c.ser []) := by
    rw [be4]
    have : c.roles % 256 = c.roles := by omega
    unfold clI numI
    simp only [this, u8s_app]
    rfl
  refine enterK (tb := tb) Tryz.func100 rfl Tryz.ntmps100 rfl ?_
  simp only [kvC]
  repeat' (first | (apply R.is1; first | (apply R.isCall; first | (apply R.callE (vs := [.agg ⟨[.int .i64 1, .int .i64 c.id, .slice none 0 0]⟩]); (iterate 3 exact rfl); exact Ext.none _; intro w1 hw1; exact ho_id w1; rintro v Lo ⟨ov1, hov1, rfl, rfl⟩) | (apply R.callE (vs := [.agg ⟨[.int .i64 2, .int .i64 c.exp, .slice none 0 0]⟩]); (iterate 3 exact rfl); exact Ext.none _; intro w1 hw1; exact ho_exp w1; rintro v Lo ⟨ov3, hov3, rfl, rfl⟩; rw [slV_eq hov3]) | (apply R.callE (vs := [.agg ⟨[.int .i64 1, .int .i64 c.ser, .slice none 0 0]⟩]); (iterate 3 exact rfl); exact Ext.none _; intro w1 hw1; exact ho_ser w1; rintro v Lo ⟨ov5, hov5, rfl, rfl⟩; rw [slV_eq hov5]) | (apply R.append1; (iterate 12 exact rfl); (focus ((repeat' (first | exact OwnAt.mid hov1 | apply OwnAt.tail)); done)); exact At.head; exact rfl; exact rfl; omega; omega; intro b2 j2 k2 hj2) | (apply R.appendRd (xs := beI 4 c.exp []) (v := u8V) (sz := 1) (ov := some (b2, j2, k2)) (n := 2 + 1) (old := u8s (beI 2 c.id []) ++ [.int .u8 c.roles]); (iterate 12 exact rfl); exact hov1.some (b := b2) (ys := [.int .u8 c.roles]) (m := 1) rfl hj2; (focus ((repeat' (first | exact Ext.one _ _ | apply Ext.app)); done)); exact rfl; exact u8V_len; exact rfl; (intro w1 hw1; exact rdown hov3 hw1 (Ext.mem (by (focus ((repeat' (exact Ext.here _ _)); done))))); (focus (rw [fl_u8]; exact u8s_one _)); omega; intro ov4 hov4 _; rw [fl_u8] at hov4; rw [fl_u8]) | (apply R.appendRd (xs := beI 2 c.ser []) (v := u8V) (sz := 1) (ov := ov4) (n := 2 + 1 + 4) (old := u8s (beI 2 c.id []) ++ [.int .u8 c.roles] ++ u8s (beI 4 c.exp [])); (iterate 12 exact rfl); exact hov4; (focus ((repeat' (first | exact Ext.here _ _ | apply Ext.app)); done)); exact rfl; exact u8V_len; exact rfl; (intro w1 hw1; exact rdown hov5 hw1 (Ext.mem (by (focus ((repeat' (exact Ext.here _ _)); done))))); (focus (rw [fl_u8]; exact u8s_one _)); omega; intro ov6 hov6 _; rw [fl_u8] at hov6; rw [fl_u8])) | (apply R.pure; exact rfl; first | (apply Ok1.move; exact rfl) | (apply Ok1.fieldAddr; (iterate 5 exact rfl)) | (apply Ok1.load; exact rfl; (apply Ld.own1; exact rfl; exact rfl; (focus ((repeat' (first | exact At.head | apply At.tail | apply At.right)); done)); exact rfl)) | (apply Ok1.assign; exact rfl) | (apply Ok1.build; (iterate 5 exact rfl)) | (apply Ok1.convU8; (iterate 5 exact rfl); omega; omega)) | (apply R.box; (iterate 3 exact rfl); intro) | (apply R.buildSlice; (iterate 12 exact rfl); intro)) | apply R.nil | (apply T.is; first | apply T.seq | apply T.region | apply T.ret))
  (apply RetOk.t; exact rfl)
  rw [← hcl] at hov6 ⊢
  exact ⟨_, by (focus ((repeat' (first | exact Ext.here _ _ | apply Keep.last)); done)), ov6, hov6, rfl, rfl⟩
end Go.Proofs.YtidjnjlejhoalaaGreat
set_option linter.unusedSimpArgs false
set_option linter.unusedVariables false
namespace Go.Proofs.YtidjnjlejhoalaaGreat
open Go.RowKit Go.Shelf
set_option maxRecDepth 100000
theorem turn_snoc {b s : List Int} {i : Nat} {x y : Int} (hx : b[i]? = some x) (hy : s[i]? = some y) : turnI (b.take (i + 1)) (s.take (i + 1)) = turnI (b.take i) (s.take i) ++ [xorI .u8 x y] := by
  have h1 := (List.getElem?_eq_some_iff.1 hx).1
  have h2 := (List.getElem?_eq_some_iff.1 hy).1
  unfold turnI
  rw [List.take_add_one, List.take_add_one, hx, hy, Option.toList_some, Option.toList_some, List.zipWith_append (by rw [List.length_take, List.length_take]; omega)]
  rfl
theorem vturned_ok (p : Option Addr) (n cap : Nat) (b : List Int) (hn : n = b.length) (hbig : n ≤ 100000000) (ps : Option Addr) (ns cs : Nat) (s : List Int) (hns : ns = s.length) (hs : b.length ≤ s.length) (w : World) (hp : RdSl w p u8V b) (hps : RdSl w ps u8V s) :
    CallM Tryz.prog 193 [.slice p n cap, .slice ps ns cs] [] w fun v L => ∃ ov, OvOk 1 ov n (u8s (turnI b (s.take n))) ∧ v = slV ov n ∧ L = blkL 5 ov (u8s (turnI b (s.take n))) := by
  subst hn hns
  refine enterK (tb := tb) Tryz.func193 rfl Tryz.ntmps193 rfl ?_
  repeat' (first | (apply R.is1; (apply R.pure; exact rfl; (apply Ok1.assign; exact rfl))) | apply R.nil | (apply T.is; first | apply T.seq | apply T.region | apply T.block))
  apply T.loopK (α := Nat × Ov) (I := fun y => y.1 ≤ b.length ∧ OvOk 1 y.2 y.1 (u8s (turnI (b.take y.1) (s.take y.1)))) (σi := fun y => [(0, .slice p b.length cap), (1, .slice ps s.length cs), (5, slV y.2 y.1), (6, .int .i64 y.1)]) (Li := fun y => blkL 5 y.2 (u8s (turnI (b.take y.1) (s.take y.1)))) (μ := fun y => b.length - y.1) (i0 := (0, none))
  · exact ⟨Nat.zero_le _, OvOk.start 1⟩
  · exact ⟨rfl, rfl, rfl, rfl, trivial⟩
  · (focus ((repeat' (exact Keep.nil _)); done))
  · rintro ⟨i, ov⟩ ⟨hi, hov⟩
    simp only at hi hov ⊢
    rcases Nat.lt_or_ge i b.length with hlt | hge
    · obtain ⟨x, hx⟩ : ∃ x, b[i]? = some x := ⟨_, List.getElem?_eq_getElem (by omega)⟩
      obtain ⟨y, hy⟩ : ∃ y, s[i]? = some y := ⟨_, List.getElem?_eq_getElem (by omega)⟩
      obtain ⟨b1, o1, hpe, H⟩ := hp.at hx
      replace H := H 1 u8V_len
      obtain ⟨b9, o9, hpe', H'⟩ := hps.at hy
      replace H' := H' 1 u8V_len
      have hsn := turn_snoc hx hy
      generalize turnI (b.take i) (s.take i) = Z at *
      repeat' (first | (apply R.is1; first | (apply R.isBin; (apply R.pure; exact rfl; first | (apply Ok1.add64; exact rfl; exact rfl; omega; omega) | (apply Ok1.lss_t; exact rfl; exact rfl; omega))) | (apply R.isCall; (apply R.pure; exact rfl; (apply Ok1.lenS; (iterate 3 exact rfl)))) | (apply R.pure; exact rfl; first | (apply Ok1.move; exact rfl) | (apply Ok1.assign; exact rfl))) | apply R.nil | (apply T.is; first | (apply T.drawC (id := 5) [] (by decide); ((apply A.take 0; exact rfl; exact rfl; kernel_rfl; kernel_rfl; kernel_rfl; (apply Ok1.move; exact rfl)) <;> (apply A.take 1; exact rfl; exact rfl; kernel_rfl; kernel_rfl; kernel_rfl; (apply Ok1.move; exact rfl)) <;> (apply A.take 2; exact rfl; exact rfl; kernel_rfl; kernel_rfl; kernel_rfl; (apply Ok1.move; exact rfl)) <;> (apply A.take 3; exact rfl; exact rfl; kernel_rfl; kernel_rfl; kernel_rfl; (apply Ok1.indexAddrP; (iterate 4 exact rfl); (exact hpe); exact rfl; omega; omega)) <;> (apply A.take 4; exact rfl; exact rfl; kernel_rfl; kernel_rfl; kernel_rfl; (apply Ok1.load; exact rfl; (apply Ld.row0 H; exact rfl; exact List.not_mem_nil; (iterate 3 exact rfl)))) <;> (apply A.take 5; exact rfl; exact rfl; kernel_rfl; kernel_rfl; kernel_rfl; (apply Ok1.move; exact rfl)) <;> (apply A.take 6; exact rfl; exact rfl; kernel_rfl; kernel_rfl; kernel_rfl; (apply Ok1.move; exact rfl)) <;> (apply A.take 7; exact rfl; exact rfl; kernel_rfl; kernel_rfl; kernel_rfl; (apply Ok1.indexAddrP; (iterate 4 exact rfl); (exact hpe'); exact rfl; omega; omega)) <;> (apply A.take 8; exact rfl; exact rfl; kernel_rfl; kernel_rfl; kernel_rfl; (apply Ok1.load; exact rfl; (apply Ld.row0 H'; exact rfl; exact List.not_mem_nil; (iterate 3 exact rfl)))) <;> (apply A.take 9; exact rfl; exact rfl; kernel_rfl; kernel_rfl; kernel_rfl; (apply Ok1.xorK; exact rfl; exact rfl)) <;> (apply A.one 10; kernel_rfl; exact rfl; (((apply R.buildSlice; (iterate 12 exact rfl); intro))); apply R.nil; refine ⟨?_, ?_⟩; (focus ((repeat' (exact trivial))))) <;> (apply A.one 11; kernel_rfl; exact rfl; (((apply R.append1; (iterate 12 exact rfl); (focus ((repeat' (first | exact OwnAt.base hov | apply OwnAt.tail)); done)); exact At.head; exact rfl; exact rfl; omega; omega; intro b2 j2 k2 hj2))); apply R.nil; refine ⟨?_, ?_⟩; (focus ((repeat' (exact trivial))))) <;> (apply A.take 12; exact rfl; exact rfl; kernel_rfl; kernel_rfl; kernel_rfl; (apply Ok1.assign; exact rfl)) <;> (apply A.done; kernel_rfl))) | apply T.seq | apply T.region | apply T.block | apply T.skip | (apply T.cond_t; exact rfl)))
      all_goals refine ⟨(i + 1, some (b2, j2, k2)), ⟨by simp only; omega, ?_⟩, by simp only; omega, ⟨rfl, rfl, rfl, rfl, trivial⟩, ?_⟩
      all_goals simp only [hsn, u8s_app]
      all_goals first
        | exact hov.some rfl hj2
        | (simp only [ovp, ovc, blkL]; (focus ((repeat' (first | exact Keep.nil _ | exact Ext.one _ _ | apply Keep.cons)); done)))
    · have hm : i = b.length := by omega
      subst hm
      rw [List.take_length] at hov ⊢
      repeat' (first | (apply R.is1; first | (apply R.isBin; (apply R.pure; exact rfl; (apply Ok1.lss_f; exact rfl; exact rfl; omega))) | (apply R.isCall; (apply R.pure; exact rfl; (apply Ok1.lenS; (iterate 3 exact rfl)))) | (apply R.pure; exact rfl; first | (apply Ok1.move; exact rfl) | (apply Ok1.assign; exact rfl))) | apply R.nil | (apply T.is; first | apply T.seq | apply T.region | apply T.exit | apply T.ret | (apply T.cond_f; exact rfl)))
      (apply RetOk.t; exact rfl)
      exact ⟨_, by (focus ((repeat' (first | exact Ext.all _ | apply Keep.last)); done)), ov, hov, rfl, rfl⟩
theorem vstream_ok (p : Option Addr) (m cap : Nat) (k : List Int) (hm : m = k.length) (hkl : m ≤ 999999000) (hkb : Byt k) (pn : Option Addr) (nl cn : Nat) (nonce : List Int) (hnl : nl = nonce.length) (hn32 : nl ≤ 32) (hnb : Byt nonce) (n : Nat) (hn : n ≤ 65536) (w : World) (hp : RdSl w p u8V k) (hpn : RdSl w pn u8V nonce) :
    CallM Tryz.prog 194 [.agg ⟨tabV⟩, .slice p m cap, .slice pn nl cn, .int .i64 n] [] w fun v L => ∃ ov W c, OvOk 1 ov W.length (u8s W) ∧ n ≤ W.length ∧ W.take n = strmI k nonce n ∧ v = .slice (ovp ov) n c ∧ L = blkL 5 ov (u8s W) := by
  subst hm hnl
  have htl := tab_len
  have hdv := fun w1 (hc : Chg [] w w1) => vderive_ok p k.length cap k rfl hkl hkb sHide (by decide) none 0 0 [] rfl (by decide) (by simp) (by simp [frameI, len4, strI, sHide]) (by simp) w1 (hp.chg' hc (fun _ => Off.nil _)) (.inl rfl) (by simp)
  simp only [List.map_nil] at hdv
  have hdl := derive_len k sHide []
  have hdb := derive_byt k sHide []
  have hst : strmI k nonce n = (strmB (deriveI k sHide []) nonce ((n + 31) / 32)).take n := rfl
  generalize deriveI k sHide [] = k2 at *
  have hkl2 : (u8s k2).length = 32 := by rw [u8s_len, hdl]
  have htag := fun q c pb mm cb b w1 h1 h2 h3 h4 h5 => vtag_ok q 32 c k2 hdl.symm (by decide) hdb pb mm cb b h1 h2 h3 w1 h4 h5
  generalize tabV = tv at *
  refine enterK (tb := tb) Tryz.func194 rfl Tryz.ntmps194 rfl ?_
  repeat' (first | (apply R.is1; first | (apply R.isCall; (apply R.callV (vs := [.agg ⟨tv⟩, .slice p k.length cap, .string sHide, .slice none 0 0]); (iterate 3 exact rfl); intro w1 hw1; exact hdv w1 hw1.chg)) | (apply R.pure; exact rfl; first | (apply Ok1.load; exact rfl; apply Ld.ownk; exact rfl; exact rfl; exact At.head; exact subE_all htl) | (apply Ok1.move; exact rfl) | (apply Ok1.assign; exact rfl)) | (apply R.box; (iterate 3 exact rfl); intro) | (apply R.alloc; (iterate 3 exact rfl); intro)) | (apply R.is0; (apply R.store; (iterate 4 exact rfl); exact hkl2; exact u8s_one k2; exact Upd.head; exact setE_all hkl2)) | apply R.nil | (apply T.is; first | apply T.seq | apply T.region | apply T.block))
  rename_i b4 b9
  apply T.loopK (α := Nat × Ov) (I := fun y => 32 * y.1 < n + 32 ∧ OvOk 1 y.2 (32 * y.1) (u8s (strmB k2 nonce y.1))) (σi := fun y => [(2, .slice pn nonce.length cn), (3, .int .i64 n), (4, .pointer (some ⟨b4, 0, none⟩)), (9, .pointer (some ⟨b9, 0, none⟩)), (10, slV y.2 (32 * y.1)), (11, .int .i64 y.1)]) (Li := fun y => (b9, .cells ⟨u8s k2⟩ 128 (0, 0)) :: (b4, .cells ⟨tv⟩ 31 (0, 0)) :: blkL 5 y.2 (u8s (strmB k2 nonce y.1))) (μ := fun y => n + 32 - 32 * y.1) (i0 := (0, none))
  · exact ⟨by omega, OvOk.start 1⟩
  · exact ⟨rfl, rfl, rfl, rfl, rfl, rfl, trivial⟩
  · simp only [blkL]
    (focus ((repeat' (first | exact Keep.nil _ | exact Ext.one _ _ | apply Keep.cons)); done))
  · rintro ⟨i, ov⟩ ⟨hi, hov⟩
    simp only at hi hov ⊢
    by_cases hlt : 32 * i < n
    · have hD := strm1_len k2 nonce i
      have hsu := strmB_succ k2 nonce i
      have hbl := strmB_len k2 nonce i
      have hb0 : 0 ≤ (nonce.length : Int) ∧ (nonce.length : Int) ≤ 255 := by omega
      have hl4 : u8s (len4 i) = [.int .u8 ((i : Int) / 16777216), .int .u8 ((i : Int) / 65536 % 256), .int .u8 ((i : Int) / 256 % 256), .int .u8 ((i : Int) % 256)] := by
        have e1 : (i : Int) / 16777216 % 256 = (i : Int) / 16777216 := by omega
        simp only [len4, u8s, List.map_cons, List.map_nil, e1]
      have hmsg : Byt ((nonce.length : Int) :: (nonce ++ len4 i)) := by
        intro y hy
        rcases List.mem_cons.1 hy with rfl | hy
        · exact hb0
        · rcases List.mem_append.1 hy with hy | hy
          · exact hnb y hy
          · exact len4_byt _ y hy
      have hs1 : strm1 k2 nonce i = hmacI k2 ((nonce.length : Int) :: (nonce ++ len4 i)) := rfl
      have hmc : u8s ((nonce.length : Int) :: (nonce ++ len4 i)) = ([Value.int .u8 nonce.length] ++ u8s nonce) ++ u8s (len4 i) := by
        rw [List.append_assoc, ← u8s_app]; rfl
      have hml : ((nonce.length : Int) :: (nonce ++ len4 i)).length = 1 + nonce.length + 4 := by simp [len4]; omega
      repeat' (first | (apply R.is1; first | (apply R.isBin; (apply R.pure; exact rfl; first | (apply Ok1.lss_t; exact rfl; exact rfl; omega) | (apply Ok1.quo64; exact rfl; exact rfl; omega; omega; omega) | (apply Ok1.remN; exact rfl; exact rfl; omega; omega))) | (apply R.isCall; first | (apply R.pure; exact rfl; apply Ok1.lenOv; (iterate 3 exact rfl); exact hov) | (apply R.appendRd (xs := nonce) (v := u8V) (sz := 1) (ov := some (_, 0, [])) (n := 1) (old := [.int .u8 nonce.length]) (m := nonce.length); (iterate 12 exact rfl); exact ⟨rfl, rfl⟩; (focus ((repeat' (exact Ext.one _ _)); done)); exact rfl; exact u8V_len; exact rfl; (intro w1 hw1; exact hpn.chg' hw1.chg (fun _ => Off.nil _)); (focus (rw [fl_u8]; exact u8s_one _)); omega; intro ov1 hov1 hsome1) | (apply R.appendRd (xs := len4 i) (v := u8V) (sz := 1) (ov := ov1) (n := 1 + nonce.length) (old := [.int .u8 nonce.length] ++ fl u8V nonce) (m := 4); (iterate 12 exact rfl); exact hov1; (focus ((repeat' (first | exact Ext.here _ _ | apply Ext.cons)); done)); exact rfl; exact u8V_len; exact rfl; (intro w1 hw1; exact RdSl.of (junk := []) hw1 (by exact At.head) (by rw [fl_u8, hl4, List.append_nil])); (focus (rw [fl_u8]; exact u8s_one _)); omega; intro ov2 hov2 hsome2) | (apply R.pure; exact rfl; (apply Ok1.lenS; (iterate 3 exact rfl)))) | (apply R.pure; exact rfl; first | (apply Ok1.move; exact rfl) | (apply Ok1.assign; exact rfl) | (apply Ok1.convU8; (iterate 5 exact rfl); omega; omega)) | (apply R.buildSlice; (iterate 12 exact rfl); intro)) | apply R.nil | (apply T.is; first | (apply T.stop1 8) | apply T.seq | apply T.region | apply T.block | apply T.skip | (apply T.cond_t; exact rfl)))
      refine ⟨?_⟩
      rw [fl_u8, fl_u8, ← hmc] at hov2 ⊢
      obtain ⟨bm, jm, km, rfl⟩ := ovsome hov2 (by omega)
      rename_i bq1 bq4
      simp only [slV, blkL, List.cons_append, List.nil_append]
      have htg : ∀ w1 L, Hp w [] L w1 → (b9, Obj.cells ⟨u8s k2⟩ 128 (0, 0)) ∈ L → (bm, Obj.cells ⟨u8s ((nonce.length : Int) :: (nonce ++ len4 i)) ++ km⟩ 5 (0, 0)) ∈ L → CallW Tryz.prog 232 [.agg ⟨tv⟩, .slice (some ⟨b9, 0, none⟩) 32 32, .slice (some ⟨bm, 0, none⟩) (1 + nonce.length + 4) (1 + nonce.length + 4 + jm)] w1 fun v _ => v = .agg ⟨u8s (strm1 k2 nonce i)⟩ := by
        intro w1 L h1 h2 h3
        exact htag _ _ _ (1 + nonce.length + 4) _ _ w1 hml.symm hmsg (by omega) (RdSl.ofMem (junk := []) h1 h2 (by rw [fl_u8, List.append_nil])) (RdSl.ofMem (junk := km) h1 h3 (by rw [fl_u8]))
      generalize u8s ((nonce.length : Int) :: (nonce ++ len4 i)) = MM at *
      generalize hDD : strm1 k2 nonce i = D at *
      have hls : (u8s D).length = 32 := by rw [u8s_len, hD]
      have hset : ∀ cs : List Value, cs.length = 32 → setE cs 0 (u8s D) = some (u8s D) := fun cs h => setE_all (by rw [hls, h])
      generalize hMc : Obj.cells ⟨MM ++ km⟩ 5 (0, 0) = MO at *
      repeat' (first | (apply R.is1; first | (apply R.isBin; (apply R.pure; exact rfl; (apply Ok1.add64; exact rfl; exact rfl; omega; omega))) | (apply R.isCall; (apply R.appendRd (xs := D) (v := u8V) (sz := 1) (ov := ov) (n := 32 * i) (old := u8s (strmB k2 nonce i)); (iterate 12 exact rfl); exact hov; (focus ((repeat' (first | exact Ext.all _ | apply Ext.cons)); done)); exact hD.symm; exact u8V_len; exact rfl; (intro w1 hw1; exact RdSl.of (junk := []) hw1 (by exact At.head) (by rw [fl_u8, List.append_nil])); (rw [fl_u8]; exact u8s_one _); omega; intro ov3 hov3 hsome3)) | (apply R.pure; exact rfl; first | (apply Ok1.sliceArr; (iterate 4 exact rfl)) | (apply Ok1.move; exact rfl) | (apply Ok1.assign; exact rfl))) | apply R.nil | (apply T.is; first | (apply T.drawC (id := 8) [3] (by decide); ((apply A.take 0; exact rfl; exact rfl; kernel_rfl; kernel_rfl; kernel_rfl; (apply Ok1.load; exact rfl; apply Ld.ownk; exact rfl; exact rfl; exact At.head; exact subE_all htl)) <;> (apply A.take 1; exact rfl; exact rfl; kernel_rfl; kernel_rfl; kernel_rfl; (apply Ok1.sliceArr; (iterate 4 exact rfl))) <;> (apply A.take 2; exact rfl; exact rfl; kernel_rfl; kernel_rfl; kernel_rfl; (apply Ok1.move; exact rfl)) <;> (apply A.two 3 4; kernel_rfl; exact rfl; exact rfl; rotate_left 1; (focus (((((apply R.alloc; (iterate 3 exact rfl); intro))); apply R.nil; refine ⟨?_, ?_⟩; (focus ((repeat' (first | exact trivial | (refine ⟨?_, ?_⟩; (focus ((repeat' (first | exact At.head | apply At.tail)); done)))))))) <;> (apply A.one 3; kernel_rfl; exact rfl; (((apply R.callW (vs := [.agg ⟨tv⟩, .slice (some ⟨b9, 0, none⟩) 32 32, .slice (some ⟨bm, 0, none⟩) (1 + nonce.length + 4) (1 + nonce.length + 4 + jm)]); (iterate 3 exact rfl); intro w1 hw1; exact htg w1 _ hw1 (At.mem (by (focus ((repeat' (first | exact At.head | apply At.tail)); done)))) (At.mem (by (focus ((repeat' (first | exact At.head | apply At.tail)); done)))); rintro v rfl))); apply R.nil; refine ⟨?_, ?_⟩; (focus ((repeat' (first | exact trivial | (refine ⟨?_, ?_⟩; (focus ((repeat' (first | exact At.head | apply At.tail)); done)))))))) <;> (apply A.one 5; kernel_rfl; exact rfl; (((apply R.store; (iterate 4 exact rfl); exact hls; exact u8s_one D; exact Upd.head; exact hset _ rfl))); apply R.nil; refine ⟨?_, ?_⟩; (focus ((repeat' (first | exact trivial | (refine ⟨?_, ?_⟩; (focus ((repeat' (first | exact At.head | apply At.tail)); done)))))))) <;> (apply A.done; kernel_rfl))); rotate_right 1; (focus (((((apply R.callW (vs := [.agg ⟨tv⟩, .slice (some ⟨b9, 0, none⟩) 32 32, .slice (some ⟨bm, 0, none⟩) (1 + nonce.length + 4) (1 + nonce.length + 4 + jm)]); (iterate 3 exact rfl); intro w1 hw1; exact htg w1 _ hw1 (At.mem (by (focus ((repeat' (first | exact At.head | apply At.tail)); done)))) (At.mem (by exact At.head)); rintro v rfl))); apply R.nil; refine ⟨?_, ?_⟩; (focus ((repeat' (first | exact trivial | (refine ⟨?_, ?_⟩; (focus ((repeat' (first | exact At.head | apply At.tail)); done)))))))) <;> (apply A.one 4; kernel_rfl; exact rfl; (((apply R.alloc; (iterate 3 exact rfl); intro))); apply R.nil; refine ⟨?_, ?_⟩; (focus ((repeat' (first | exact trivial | (refine ⟨?_, ?_⟩; (focus ((repeat' (first | exact At.head | apply At.tail)); done)))))))) <;> (apply A.one 5; kernel_rfl; exact rfl; (((apply R.store; (iterate 4 exact rfl); exact hls; exact u8s_one D; exact Upd.head; exact hset _ rfl))); apply R.nil; refine ⟨?_, ?_⟩; (focus ((repeat' (first | exact trivial | (refine ⟨?_, ?_⟩; (focus ((repeat' (first | exact At.head | apply At.tail)); done)))))))) <;> (apply A.done; kernel_rfl)))))) | apply T.seq | apply T.region))
      all_goals rw [fl_u8, ← u8s_app, ← hsu] at hov3
      all_goals rw [fl_u8, ← u8s_app, ← hsu]
      all_goals have h32 : 32 * (i + 1) = 32 * i + 32 := by omega
      all_goals refine ⟨(i + 1, ov3), ?_⟩
      all_goals simp only [h32]
      all_goals exact ⟨⟨by omega, hov3⟩, by omega, ⟨rfl, rfl, rfl, rfl, rfl, rfl, trivial⟩, by (focus ((repeat' (first | exact Ext.one _ _ | exact Ext.here _ _ | apply Keep.cons | apply Keep.last | apply Ext.cons | apply Ext.app)); done))⟩
    · have hi2 : (n + 31) / 32 = i := by omega
      have hle := ovc_le9 hov
      rw [slV_eq hov]
      repeat' (first | (apply R.is1; first | (apply R.isBin; (apply R.pure; exact rfl; (apply Ok1.lss_f; exact rfl; exact rfl; omega))) | (apply R.isCall; (apply R.pure; exact rfl; (apply Ok1.lenS; (iterate 3 exact rfl)))) | (apply R.pure; exact rfl; first | (apply Ok1.preR (i := n); (iterate 5 exact rfl); omega) | (apply Ok1.move; exact rfl) | (apply Ok1.assign; exact rfl))) | apply R.nil | (apply T.is; first | apply T.seq | apply T.region | apply T.exit | apply T.ret | (apply T.cond_f; exact rfl)))
      (apply RetOk.t; exact rfl)
      exact ⟨blkL 5 ov (u8s (strmB k2 nonce i)), by (focus ((repeat' (first | exact Ext.all _ | apply Keep.last | apply Ext.cons)); done)), ov, strmB k2 nonce i, _, by rw [strmB_len]; exact hov, by rw [strmB_len]; omega, by rw [hst, hi2], rfl, rfl⟩
end Go.Proofs.YtidjnjlejhoalaaGreat
set_option linter.unusedSimpArgs false
set_option linter.unusedVariables false
namespace Go.Proofs.YtidjnjlejhoalaaGreat
open Go.RowKit Go.Shelf
set_option maxRecDepth 100000
theorem vstag_ok (p : Option Addr) (m cap : Nat) (k : List Int) (hm : m = k.length) (hkl : m ≤ 999999000) (hkb : Byt k) (a b c : Pt) (ha : Byt a.xs) (hb : Byt b.xs) (hc : Byt c.xs) (hla : a.xs.length ≤ 100000) (hlb : b.xs.length ≤ 100000) (hlc : c.xs.length ≤ 100000) (w : World) (hp : RdSl w p u8V k) (h1 : RdSl w a.p u8V a.xs) (h2 : RdSl w b.p u8V b.xs) (h3 : RdSl w c.p u8V c.xs) :
    CallW Tryz.prog 192 [.agg ⟨tabV⟩, .slice p m cap, .slice a.p a.xs.length a.cap, .slice b.p b.xs.length b.cap, .slice c.p c.xs.length c.cap] w fun v _ => v = .agg ⟨u8s (stagI k a.xs b.xs c.xs)⟩ := by
  subst hm
  have htl := tab_len
  have hdv := fun w1 (hc : Chg [] w w1) => vderive_ok p k.length cap k rfl hkl hkb sBind (by decide) none 0 0 [] rfl (by decide) (by simp) (by simp [frameI, len4, strI, sBind]) (by simp) w1 (hp.chg' hc (fun _ => Off.nil _)) (.inl rfl) (by simp)
  simp only [List.map_nil] at hdv
  have hdl := derive_len k sBind []
  have hdb := derive_byt k sBind []
  have hst : stagI k a.xs b.xs c.xs = hmacI (deriveI k sBind []) (frameI [a.xs, b.xs, c.xs]) := rfl
  have hfr : fr [a, b, c] = frameI [a.xs, b.xs, c.xs] := rfl
  have hfb : Byt (frameI [a.xs, b.xs, c.xs]) := frame_byt fun l hl => by
    simp only [List.mem_cons, List.not_mem_nil, or_false] at hl
    rcases hl with rfl | rfl | rfl
    · exact ha
    · exact hb
    · exact hc
  have hfl : (frameI [a.xs, b.xs, c.xs]).length ≤ 999998000 := by
    simp [frameI, len4]
    omega
  have hfm := fun q cc (w1 : World) (hc9 : Chg [] w w1) h9 => vframe_ok q 3 cc [a, b, c] rfl (by decide) (by rw [hfr]; omega) (by intro x hx; simp only [List.mem_cons, List.not_mem_nil, or_false] at hx; rcases hx with rfl | rfl | rfl <;> omega) w1 h9 (by
    intro x hx
    simp only [List.mem_cons, List.not_mem_nil, or_false] at hx
    rcases hx with rfl | rfl | rfl
    · exact h1.chg' hc9 (fun _ => Off.nil _)
    · exact h2.chg' hc9 (fun _ => Off.nil _)
    · exact h3.chg' hc9 (fun _ => Off.nil _))
  rw [hfr] at hfm
  rw [hst]
  generalize deriveI k sBind [] = k2 at *
  have hkl2 : (u8s k2).length = 32 := by rw [u8s_len, hdl]
  generalize hFF : frameI [a.xs, b.xs, c.xs] = F9 at *
  have htag := fun q c pb cb w1 h4 h5 => vtag_ok q 32 c k2 hdl.symm (by decide) hdb pb F9.length cb F9 rfl hfb hfl w1 h4 h5
  have hr : (hmacI k2 F9).length = 32 := hmac_len _ _
  generalize hmacI k2 F9 = D at *
  have hls : (u8s D).length = 32 := by rw [u8s_len, hr]
  have hone := u8s_one D
  generalize tabV = tv at *
  refine enterW (tb := tb) Tryz.func192 rfl Tryz.ntmps192 rfl ?_
  repeat' (first | (apply R.is1; first | (apply R.isCall; (apply R.callV (vs := [.agg ⟨tv⟩, .slice p k.length cap, .string sBind, .slice none 0 0]); (iterate 3 exact rfl); intro w1 hw1; exact hdv w1 hw1.chg)) | (apply R.pure; exact rfl; first | (apply Ok1.load; exact rfl; apply Ld.ownk; exact rfl; exact rfl; (focus ((repeat' (first | exact At.head | apply At.tail)); done)); exact subE_all htl) | (apply Ok1.move; exact rfl)) | (apply R.box; (iterate 3 exact rfl); intro) | (apply R.alloc; (iterate 3 exact rfl); intro)) | (apply R.is0; (apply R.store; (iterate 4 exact rfl); exact hkl2; exact u8s_one k2; exact Upd.head; exact setE_all hkl2)) | apply R.nil | (apply T.is; first | (apply T.stop1 2) | apply T.seq | apply T.region))
  refine ⟨?_⟩
  rename_i b5 b10 b11
  repeat' ((apply T.is; first | (apply T.drawC (id := 2) [2] (by decide); ((apply A.take 0; exact rfl; exact rfl; kernel_rfl; kernel_rfl; kernel_rfl; (apply Ok1.load; exact rfl; apply Ld.ownk; exact rfl; exact rfl; exact At.head; exact subE_all htl)) <;> (apply A.take 1; exact rfl; exact rfl; kernel_rfl; kernel_rfl; kernel_rfl; (apply Ok1.sliceArr; (iterate 4 exact rfl))) <;> (apply A.take 2; exact rfl; exact rfl; kernel_rfl; kernel_rfl; kernel_rfl; (apply Ok1.move; exact rfl)) <;> (apply A.take 3; exact rfl; exact rfl; kernel_rfl; kernel_rfl; kernel_rfl; (apply Ok1.move; exact rfl)) <;> (apply A.take 4; exact rfl; exact rfl; kernel_rfl; kernel_rfl; kernel_rfl; (apply Ok1.move; exact rfl)) <;> (apply A.one 5; kernel_rfl; exact rfl; (((apply R.buildSlice; (iterate 12 exact rfl); intro))); apply R.nil; refine ⟨?_, ?_⟩; (focus ((repeat' (first | exact trivial | (refine ⟨?_, ?_⟩; (focus ((repeat' (first | exact At.head | apply At.tail)); done)))))))) <;> (apply A.one 6; kernel_rfl; exact rfl; (((apply R.callE (vs := [.slice (some ⟨_, 0, none⟩) 3 3]); (iterate 3 exact rfl); exact Ext.none _; intro w1 hw1; exact hfm _ _ w1 hw1.chg (RdSl.of (junk := []) hw1 (by exact At.head) (by simp [fl, Pt.v])); rintro v Lo ⟨ovf, hovf, rfl, rfl⟩; rw [slV_eq hovf]))); apply R.nil; refine ⟨?_, ?_⟩; (focus ((repeat' (first | exact trivial | (refine ⟨?_, ?_⟩; (focus ((repeat' (first | exact At.head | apply At.tail | apply At.right)); done)))))))) <;> (apply A.one 7; kernel_rfl; exact rfl; (((apply R.callW (vs := [.agg ⟨tv⟩, .slice (some ⟨b11, 0, none⟩) 32 32, .slice (ovp ovf) F9.length (ovc ovf F9.length)]); (iterate 3 exact rfl); intro w1 hw1; exact htag _ _ _ _ w1 (RdSl.of (junk := []) hw1 (by (focus ((repeat' (first | exact At.head | apply At.tail | apply At.right)); done))) (by rw [fl_u8, List.append_nil])) (rdown hovf hw1 (Ext.mem (by (focus ((repeat' (exact Ext.here _ _)); done))))); rintro v rfl))); apply R.nil; refine ⟨?_, ?_⟩; (focus ((repeat' (first | exact trivial | (refine ⟨?_, ?_⟩; (focus ((repeat' (first | exact At.head | apply At.tail | apply At.right)); done)))))))) <;> (apply A.one 8; kernel_rfl; exact rfl; (((apply R.store; (iterate 4 exact rfl); exact hls; exact hone; (focus ((repeat' (first | exact Upd.head | apply Upd.tail | apply Upd.right)); done)); exact setE_all hls))); apply R.nil; refine ⟨?_, ?_⟩; (focus ((repeat' (first | exact trivial | (refine ⟨?_, ?_⟩; (focus ((repeat' (first | exact At.head | apply At.tail | apply At.right)); done)))))))) <;> (apply A.done; kernel_rfl))) | apply T.seq | apply T.ret))
  all_goals apply RetOk.c
  all_goals first | exact rfl | skip
  all_goals (apply Ld.ownk; exact rfl; exact rfl; (focus ((repeat' (first | exact At.head | apply At.tail | apply At.right)); done)); exact subE_all hls)
end Go.Proofs.YtidjnjlejhoalaaGreat
set_option linter.unusedSimpArgs false
set_option linter.unusedVariables false
namespace Go.Proofs.YtidjnjlejhoalaaGreat
open Go.RowKit Go.Shelf
set_option maxRecDepth 100000
theorem vsseal_ok (p : Option Addr) (m cap : Nat) (k : List Int) (hm : m = k.length) (hkl : m ≤ 999999000) (hkb : Byt k) (pn : Option Addr) (nl cn : Nat) (nonce : List Int) (hnl : nl = nonce.length) (hn32 : nl ≤ 32) (hnb : Byt nonce) (pb : Option Addr) (bl cb : Nat) (bound : List Int) (hbl : bl = bound.length) (hb32 : bl ≤ 100000) (hbb : Byt bound) (pd : Option Addr) (n cd : Nat) (b : List Int) (hn : n = b.length) (hbig : n ≤ 65536) (hby : Byt b) (w : World) (hp : RdSl w p u8V k) (hpn : RdSl w pn u8V nonce) (hpb : RdSl w pb u8V bound) (hpd : RdSl w pd u8V b) :
    CallM Tryz.prog 101 [.agg ⟨tabV⟩, .slice p m cap, .slice pn nl cn, .slice pb bl cb, .slice pd n cd] [] w fun v L => ∃ ov, OvOk 1 ov (n + 32) (u8s (sealI k nonce bound b)) ∧ v = slV ov (n + 32) ∧ L = blkL 5 ov (u8s (sealI k nonce bound b)) := by
  subst hm hnl hbl hn
  have htl := tab_len
  have hst := fun w1 (hc : Chg [] w w1) => vstream_ok p k.length cap k rfl hkl hkb pn nonce.length cn nonce rfl hn32 hnb b.length hbig w1 (hp.chg' hc (fun _ => Off.nil _)) (hpn.chg' hc (fun _ => Off.nil _))
  have htn := fun q c s w1 (hc : Chg [] w w1) hs h1 => vturned_ok pd b.length cd b rfl (by omega) q b.length c s hs (by omega) w1 (hpd.chg' hc (fun _ => Off.nil _)) h1
  have htg := fun q c body w1 (hc : Chg [] w w1) h1 h2 h3 => vstag_ok p k.length cap k rfl hkl hkb ⟨pn, cn, nonce⟩ ⟨pb, cb, bound⟩ ⟨q, c, body⟩ hnb hbb h1 (by simp only; omega) (by simp only; omega) h2 w1 (hp.chg' hc (fun _ => Off.nil _)) (hpn.chg' hc (fun _ => Off.nil _)) (hpb.chg' hc (fun _ => Off.nil _)) h3
  simp only at htg
  have hsl := strmI_len k nonce b.length
  have hss : sealI k nonce bound b = turnI b (strmI k nonce b.length) ++ stagI k nonce bound (turnI b (strmI k nonce b.length)) := rfl
  rw [hss]
  generalize strmI k nonce b.length = S at *
  have htk : S.take b.length = S := List.take_of_length_le (by omega)
  have hBl : (turnI b S).length = b.length := turnI_len hsl.symm
  have hBb := turnI_byt b S
  have htn2 := fun q c w1 hc h1 => htn q c S w1 hc hsl.symm h1
  rw [htk] at htn2
  generalize turnI b S = B at *
  have htg2 := fun q c w1 hc h3 => htg q c B w1 hc hBb (by omega) h3
  have hDl := stagI_len k nonce bound B
  generalize stagI k nonce bound B = D at *
  have hls : (u8s D).length = 32 := by rw [u8s_len, hDl]
  have hone := u8s_one D
  rw [hBl] at htg2
  generalize tabV = tv at *
  clear htn htg
  refine enterK (tb := tb) Tryz.func101 rfl Tryz.ntmps101 rfl ?_
  repeat' (first | (apply R.is1; first | (apply R.isCall; first | (apply R.callE (vs := [.agg ⟨tv⟩, .slice p k.length cap, .slice pn nonce.length cn, .int .i64 b.length]); (iterate 3 exact rfl); exact Ext.none _; intro w1 hw1; exact hst w1 hw1.chg; rintro v Lo ⟨ovS, W, cS, hovS, hWl, hWt, rfl, rfl⟩) | (apply R.callE (vs := [.slice pd b.length cd, .slice (ovp ovS) b.length cS]); (iterate 3 exact rfl); exact Ext.none _; intro w1 hw1; exact htn2 _ _ w1 hw1.chg (hWt ▸ (rdown hovS hw1 (Ext.mem (by (focus ((repeat' (exact Ext.here _ _)); done))))).pre u8V_len b.length); rintro v Lo ⟨ovB, hovB, rfl, rfl⟩; rw [slV_eq hovB]) | (apply R.callV (vs := [.agg ⟨tv⟩, .slice p k.length cap, .slice pn nonce.length cn, .slice pb bound.length cb, .slice (ovp ovB) b.length (ovc ovB b.length)]); (iterate 3 exact rfl); intro w1 hw1; exact htg2 _ _ w1 hw1.chg (rdown (by rw [hBl]; exact hovB) hw1 (Ext.mem (by (focus ((repeat' (exact Ext.here _ _)); done)))))) | (apply R.pure; exact rfl; (apply Ok1.lenS; (iterate 3 exact rfl)))) | (apply R.pure; exact rfl; first | (apply Ok1.load; exact rfl; apply Ld.ownk; exact rfl; exact rfl; (focus ((repeat' (first | exact At.head | apply At.right)); done)); exact subE_all htl) | (apply Ok1.move; exact rfl) | (apply Ok1.assign; exact rfl)) | (apply R.box; (iterate 3 exact rfl); intro) | (apply R.alloc; (iterate 3 exact rfl); intro)) | (apply R.is0; (apply R.store; (iterate 4 exact rfl); exact hls; exact hone; exact Upd.head; exact setE_all hls)) | apply R.nil | (apply T.is; first | (apply T.stop1 3) | apply T.seq | apply T.region))
  refine ⟨?_⟩
  rename_i b5 b12
  repeat' ((apply T.is; first | (apply T.drawC (id := 3) [0] (by decide); ((apply A.take 1; exact rfl; exact rfl; kernel_rfl; kernel_rfl; kernel_rfl; (apply Ok1.move; exact rfl)) <;> (apply A.take 3; exact rfl; exact rfl; kernel_rfl; kernel_rfl; kernel_rfl; (apply Ok1.sliceArr; (iterate 4 exact rfl))) <;> (apply A.one 0; kernel_rfl; exact rfl; (((apply R.buildSlice0; (iterate 4 exact rfl); intro b0))); apply R.nil; refine ⟨?_, ?_⟩; (focus ((repeat' (first | exact trivial | (refine ⟨?_, ?_⟩; (focus ((repeat' (first | exact At.head | apply At.tail)); done)))))))) <;> (apply A.one 2; kernel_rfl; exact rfl; (((apply R.appendRd (xs := B) (v := u8V) (sz := 1) (ov := some (_, 0, [])) (n := 0) (old := []) (m := b.length); (iterate 12 exact rfl); exact ⟨rfl, rfl⟩; (focus ((repeat' (exact Ext.one _ _)); done)); exact hBl.symm; exact u8V_len; exact rfl; (intro w1 hw1; exact rdown (by rw [hBl]; exact hovB) hw1 (Ext.mem (by (focus ((repeat' (first | exact Ext.here _ _ | apply Ext.cons)); done))))); (focus (rw [fl_u8]; exact u8s_one _)); omega; intro ov1 hov1 hsome1; rw [Nat.zero_add, List.nil_append, fl_u8] at hov1; rw [Nat.zero_add, List.nil_append, fl_u8]))); apply R.nil; refine ⟨?_, ?_⟩; (focus ((repeat' (first | exact trivial | (refine ⟨?_, ?_⟩; (focus ((repeat' (first | exact At.head | apply At.right)); done)))))))) <;> (apply A.one 4; kernel_rfl; exact rfl; (((apply R.appendRd (xs := D) (v := u8V) (sz := 1) (ov := ov1) (n := b.length) (old := u8s B) (m := 32); (iterate 12 exact rfl); exact hov1; (focus ((repeat' (exact Ext.here _ _)); done)); exact hDl.symm; exact u8V_len; exact rfl; (intro w1 hw1; exact RdSl.of (junk := []) hw1 (by (focus ((repeat' (first | exact At.head | apply At.right)); done))) (by rw [fl_u8, List.append_nil])); (focus (rw [fl_u8]; exact u8s_one _)); omega; intro ov2 hov2 hsome2; rw [fl_u8, ← u8s_app] at hov2; rw [fl_u8, ← u8s_app]))); apply R.nil; refine ⟨?_, ?_⟩; (focus ((repeat' (first | exact trivial | (refine ⟨?_, ?_⟩; (focus ((repeat' (first | exact At.head | apply At.right)); done)))))))) <;> (apply A.take 5; exact rfl; exact rfl; kernel_rfl; kernel_rfl; kernel_rfl; (apply Ok1.assign; exact rfl)) <;> (apply A.done; kernel_rfl))) | apply T.seq | apply T.ret))
  all_goals (apply RetOk.t; exact rfl)
  all_goals exact ⟨_, by (focus ((repeat' (first | exact Ext.here _ _ | apply Keep.last)); done)), ov2, hov2, rfl, rfl⟩
theorem vsopen_ok (p : Option Addr) (m cap : Nat) (k : List Int) (hm : m = k.length) (hkl : m ≤ 999999000) (hkb : Byt k) (pn : Option Addr) (nl cn : Nat) (nonce : List Int) (hnl : nl = nonce.length) (hn32 : nl ≤ 32) (hnb : Byt nonce) (pb : Option Addr) (bl cb : Nat) (bound : List Int) (hbl : bl = bound.length) (hb32 : bl ≤ 100000) (hbb : Byt bound) (pd : Option Addr) (n cd : Nat) (s : List Int) (hn : n = s.length) (hcd : n ≤ cd) (hbig : n ≤ 65568) (hby : Byt s) (w : World) (hp : RdSl w p u8V k) (hpn : RdSl w pn u8V nonce) (hpb : RdSl w pb u8V bound) (hpd : RdSl w pd u8V s) :
    CallM Tryz.prog 98 [.agg ⟨tabV⟩, .slice p m cap, .slice pn nl cn, .slice pb bl cb, .slice pd n cd] [] w fun v L => ∃ ov, OvOk 1 ov (sopN k nonce bound s).length (u8s (sopN k nonce bound s)) ∧ v = .tuple #[slV ov (sopN k nonce bound s).length, .int .i64 (sopE k nonce bound s)] ∧ L = blkL 5 ov (u8s (sopN k nonce bound s)) := by
  subst hm hnl hbl hn
  by_cases h32 : s.length < 32
  · have he : sopE k nonce bound s = 4 := by unfold sopE; rw [if_pos h32]
    have hN : sopN k nonce bound s = [] := by unfold sopN; rw [he]; rfl
    rw [he, hN]
    generalize tabV = tv at *
    refine enterK (tb := tb) Tryz.func98 rfl Tryz.ntmps98 rfl ?_
    repeat' (first | (apply R.is1; first | (apply R.isBin; (apply R.pure; exact rfl; first | (apply Ok1.sub64; exact rfl; exact rfl; omega; omega) | (apply Ok1.lss_t; exact rfl; exact rfl; omega) | (apply Ok1.gtr_f; exact rfl; exact rfl; omega))) | (apply R.isCall; (apply R.pure; exact rfl; (apply Ok1.lenS; (iterate 3 exact rfl)))) | (apply R.pure; exact rfl; first | (apply Ok1.move; exact rfl) | (apply Ok1.assign; exact rfl)) | (apply R.box; (iterate 3 exact rfl); intro)) | apply R.nil | (apply T.is; first | apply T.seq | apply T.region | apply T.skip | apply T.ret | (apply T.cond_t; exact rfl) | (apply T.cond_f; exact rfl)))
    (apply RetOk.tt; exact rfl; exact rfl)
    exact ⟨[], by (focus ((repeat' (exact Keep.nil _)); done)), none, OvOk.start 1, rfl, rfl⟩
  have htl := tab_len
  obtain ⟨r, hr⟩ : ∃ r, r = s.length - 32 := ⟨_, rfl⟩
  have hbl9 : (s.take r).length = r := by rw [List.length_take]; omega
  have hdl9 : (s.drop r).length = 32 := by rw [List.length_drop]; omega
  have hp1 := hpd.pre u8V_len r
  have hp2 := hpd.suf u8V_len (cap := cd) (i := r) (by omega) hcd
  have hst := fun w1 (hc : Chg [] w w1) => vstream_ok p k.length cap k rfl hkl hkb pn nonce.length cn nonce rfl hn32 hnb r (by omega) w1 (hp.chg' hc (fun _ => Off.nil _)) (hpn.chg' hc (fun _ => Off.nil _))
  have htn := fun q c w1 (hc : Chg [] w w1) h1 => vturned_ok pd r cd (s.take r) hbl9.symm (by omega) q r c (strmI k nonce r) (by rw [strmI_len]) (by rw [strmI_len]; omega) w1 (hp1.chg' hc (fun _ => Off.nil _)) h1
  have hsl := strmI_len k nonce r
  have htk : (strmI k nonce r).take r = strmI k nonce r := List.take_of_length_le (by omega)
  rw [htk] at htn
  clear htk
  have htg := fun w1 (hc : Chg [] w w1) => vstag_ok p k.length cap k rfl hkl hkb ⟨pn, cn, nonce⟩ ⟨pb, cb, bound⟩ ⟨pd, cd, s.take r⟩ hnb hbb (hby.take r) (by simp only; omega) (by simp only; omega) (by simp only; omega) w1 (hp.chg' hc (fun _ => Off.nil _)) (hpn.chg' hc (fun _ => Off.nil _)) (hpb.chg' hc (fun _ => Off.nil _)) (hp1.chg' hc (fun _ => Off.nil _))
  simp only [hbl9] at htg
  have hDl := stagI_len k nonce bound (s.take r)
  have hE : sopE k nonce bound s = if stagI k nonce bound (s.take r) = s.drop r then 0 else 5 := by unfold sopE; rw [if_neg h32, ← hr]
  have hI : sopI k nonce s = turnI (s.take r) (strmI k nonce r) := by unfold sopI; rw [← hr]
  have hIl : (turnI (s.take r) (strmI k nonce r)).length = r := by rw [turnI_len (by rw [hsl, hbl9]), hbl9]
  have hsm := fun b w1 (hc : Chg [] w w1) h1 => same_ok (some ⟨b, 0, none⟩) (sufP pd cd r 1) 32 (s.length - r) 32 (cd - r) (stagI k nonce bound (s.take r)) (s.drop r) hDl.symm (by rw [List.length_drop]) (by decide) w1 h1 (hp2.chg' hc (fun _ => Off.nil _))
  have hri : ((s.length : Nat) : Int) - 32 = (r : Int) := by omega
  generalize stagI k nonce bound (s.take r) = D at *
  generalize strmI k nonce r = S at *
  have hls : (u8s D).length = 32 := by rw [u8s_len, hDl]
  have hone := u8s_one D
  generalize tabV = tv at *
  by_cases hs9 : D = s.drop r
  · rw [if_pos hs9] at hE
    have hN : sopN k nonce bound s = turnI (s.take r) S := by unfold sopN; rw [if_pos hE, hI]
    rw [hE, hN, hIl]
    simp only [decide_eq_true hs9] at hsm
    refine enterK (tb := tb) Tryz.func98 rfl Tryz.ntmps98 rfl ?_
    repeat' (first | (apply R.is1; first | (apply R.isBin; (apply R.pure; exact rfl; first | (apply Ok1.sub64; exact rfl; exact rfl; omega; omega) | (apply Ok1.lss_f; exact rfl; exact rfl; omega) | (apply Ok1.gtr_f; exact rfl; exact rfl; omega))) | (apply R.isCall; (apply R.pure; exact rfl; (apply Ok1.lenS; (iterate 3 exact rfl)))) | (apply R.pure; exact rfl; first | (apply Ok1.move; exact rfl) | (apply Ok1.assign; exact rfl)) | (apply R.box; (iterate 3 exact rfl); intro)) | apply R.nil | (apply T.is; first | (apply T.drawC (id := 8) [0] (by decide); ((apply A.take 0; exact rfl; exact rfl; kernel_rfl; kernel_rfl; kernel_rfl; (apply Ok1.load; exact rfl; apply Ld.ownk; exact rfl; exact rfl; exact At.head; exact subE_all htl)) <;> (apply A.take 1; exact rfl; exact rfl; kernel_rfl; kernel_rfl; kernel_rfl; (apply Ok1.move; exact rfl)) <;> (apply A.take 2; exact rfl; exact rfl; kernel_rfl; kernel_rfl; kernel_rfl; (apply Ok1.move; exact rfl)) <;> (apply A.take 3; exact rfl; exact rfl; kernel_rfl; kernel_rfl; kernel_rfl; (apply Ok1.move; exact rfl)) <;> (apply A.take 4; exact rfl; exact rfl; kernel_rfl; kernel_rfl; kernel_rfl; (apply Ok1.move; exact rfl)) <;> (apply A.take 5; exact rfl; exact rfl; kernel_rfl; kernel_rfl; kernel_rfl; (apply Ok1.move; exact rfl)) <;> (apply A.take 6; exact rfl; exact rfl; kernel_rfl; kernel_rfl; kernel_rfl; (apply Ok1.preR (i := r); (iterate 4 exact rfl); exact congrArg (fun z => some (Value.int .i64 z)) hri; omega)) <;> (apply A.two 7 8; kernel_rfl; exact rfl; exact rfl; rotate_left 1; (focus (((((apply R.alloc; (iterate 3 exact rfl); intro))); apply R.nil; refine ⟨?_, ?_⟩; (focus ((repeat' (first | exact trivial | (refine ⟨?_, ?_⟩; (focus ((repeat' (first | exact At.head | apply At.tail)); done)))))))) <;> (apply A.one 7; kernel_rfl; exact rfl; (((apply R.callV (vs := [.agg ⟨tv⟩, .slice p k.length cap, .slice pn nonce.length cn, .slice pb bound.length cb, .slice pd r cd]); (iterate 3 exact rfl); intro w1 hw1; exact htg w1 hw1.chg))); apply R.nil; refine ⟨?_, ?_⟩; (focus ((repeat' (first | exact trivial | (refine ⟨?_, ?_⟩; (focus ((repeat' (first | exact At.head | apply At.tail)); done)))))))) <;> (apply A.one 9; kernel_rfl; exact rfl; (((apply R.store; (iterate 4 exact rfl); exact hls; exact hone; exact Upd.head; exact setE_all hls))); apply R.nil; refine ⟨?_, ?_⟩; (focus ((repeat' (first | exact trivial | (refine ⟨?_, ?_⟩; (focus ((repeat' (first | exact At.head | apply At.tail)); done)))))))) <;> (apply A.done; kernel_rfl))); rotate_right 1; (focus (((((apply R.callV (vs := [.agg ⟨tv⟩, .slice p k.length cap, .slice pn nonce.length cn, .slice pb bound.length cb, .slice pd r cd]); (iterate 3 exact rfl); intro w1 hw1; exact htg w1 hw1.chg))); apply R.nil; refine ⟨?_, ?_⟩; (focus ((repeat' (first | exact trivial | (refine ⟨?_, ?_⟩; exact At.head)))))) <;> (apply A.one 8; kernel_rfl; exact rfl; (((apply R.alloc; (iterate 3 exact rfl); intro))); apply R.nil; refine ⟨?_, ?_⟩; (focus ((repeat' (first | exact trivial | (refine ⟨?_, ?_⟩; (focus ((repeat' (first | exact At.head | apply At.tail)); done)))))))) <;> (apply A.one 9; kernel_rfl; exact rfl; (((apply R.store; (iterate 4 exact rfl); exact hls; exact hone; exact Upd.head; exact setE_all hls))); apply R.nil; refine ⟨?_, ?_⟩; (focus ((repeat' (first | exact trivial | (refine ⟨?_, ?_⟩; (focus ((repeat' (first | exact At.head | apply At.tail)); done)))))))) <;> (apply A.done; kernel_rfl)))))) | (apply T.drawC (id := 9) [] (by decide); ((apply A.take 0; exact rfl; exact rfl; kernel_rfl; kernel_rfl; kernel_rfl; (apply Ok1.sliceArr; (iterate 4 exact rfl))) <;> (apply A.take 1; exact rfl; exact rfl; kernel_rfl; kernel_rfl; kernel_rfl; (apply Ok1.move; exact rfl)) <;> (apply A.take 2; exact rfl; exact rfl; kernel_rfl; kernel_rfl; kernel_rfl; (apply Ok1.move; exact rfl)) <;> (apply A.take 3; exact rfl; exact rfl; kernel_rfl; kernel_rfl; kernel_rfl; (apply Ok1.sufR (i := r) (sz := 1); (iterate 5 exact rfl); exact congrArg (fun z => some (Value.int .i64 z)) hri; omega; omega)) <;> (apply A.one 4; kernel_rfl; exact rfl; (((apply R.callW (vs := [.slice (some ⟨_, 0, none⟩) 32 32, .slice (sufP pd cd r 1) (s.length - r) (cd - r)]); (iterate 3 exact rfl); (intro w1 hw1; exact hsm _ w1 hw1.chg (RdSl.of (junk := []) hw1 (by exact At.head) (by rw [fl_u8, List.append_nil]))); rintro v rfl))); apply R.nil; refine ⟨?_, ?_⟩; (focus ((repeat' (exact trivial))))) <;> (apply A.take 5; exact rfl; exact rfl; kernel_rfl; kernel_rfl; kernel_rfl; (apply Ok1.not_t; exact rfl)) <;> (apply A.done; kernel_rfl))) | (apply T.drawC (id := 11) [1] (by decide); ((apply A.take 0; exact rfl; exact rfl; kernel_rfl; kernel_rfl; kernel_rfl; (apply Ok1.move; exact rfl)) <;> (apply A.take 1; exact rfl; exact rfl; kernel_rfl; kernel_rfl; kernel_rfl; (apply Ok1.move; exact rfl)) <;> (apply A.take 2; exact rfl; exact rfl; kernel_rfl; kernel_rfl; kernel_rfl; (apply Ok1.preR (i := r); (iterate 4 exact rfl); exact congrArg (fun z => some (Value.int .i64 z)) hri; omega)) <;> (apply A.take 3; exact rfl; exact rfl; kernel_rfl; kernel_rfl; kernel_rfl; (apply Ok1.load; exact rfl; apply Ld.ownk; exact rfl; exact rfl; exact At.head; exact subE_all htl)) <;> (apply A.take 4; exact rfl; exact rfl; kernel_rfl; kernel_rfl; kernel_rfl; (apply Ok1.move; exact rfl)) <;> (apply A.take 5; exact rfl; exact rfl; kernel_rfl; kernel_rfl; kernel_rfl; (apply Ok1.move; exact rfl)) <;> (apply A.take 6; exact rfl; exact rfl; kernel_rfl; kernel_rfl; kernel_rfl; (apply Ok1.move; exact rfl)) <;> (apply A.one 7; kernel_rfl; exact rfl; (((apply R.callE (vs := [.agg ⟨tv⟩, .slice p k.length cap, .slice pn nonce.length cn, .int .i64 ((s.length : Nat) - 32)]); (iterate 3 exact rfl); exact Ext.none _; intro w1 hw1; rw [hri]; exact hst w1 hw1.chg; rintro v Lo ⟨ovS, W, cS, hovS, hWl, hWt, rfl, rfl⟩))); apply R.nil; refine ⟨?_, ?_⟩; (focus ((repeat' (first | exact trivial | (refine ⟨?_, ?_⟩; (focus ((repeat' (first | exact At.head | apply At.tail | apply At.right)); done)))))))) <;> (apply A.one 8; kernel_rfl; exact rfl; (((apply R.callE (vs := [.slice pd r cd, .slice (ovp ovS) r cS]); (iterate 3 exact rfl); exact Ext.none _; intro w1 hw1; exact htn _ _ w1 hw1.chg (hWt ▸ (rdown hovS hw1 (Ext.mem (by (focus ((repeat' (exact Ext.here _ _)); done))))).pre u8V_len r); rintro v Lo ⟨ovB, hovB, rfl, rfl⟩))); apply R.nil; refine ⟨?_, ?_⟩; (focus ((repeat' (first | exact trivial | (refine ⟨?_, ?_⟩; (focus ((repeat' (first | exact At.head | apply At.tail | apply At.right)); done)))))))) <;> (apply A.take 9; exact rfl; exact rfl; kernel_rfl; kernel_rfl; kernel_rfl; (apply Ok1.assign; exact rfl)) <;> (apply A.take 10; exact rfl; exact rfl; kernel_rfl; kernel_rfl; kernel_rfl; (apply Ok1.assign; exact rfl)) <;> (apply A.done; kernel_rfl))) | apply T.seq | apply T.region | apply T.skip | apply T.ret | (apply T.cond_f; exact rfl)))
    all_goals (apply RetOk.tt; exact rfl; exact rfl)
    all_goals exact ⟨_, by (focus ((repeat' (first | exact Ext.here _ _ | apply Keep.last)); done)), ovB, hovB, rfl, rfl⟩
  · rw [if_neg hs9] at hE
    have hN : sopN k nonce bound s = [] := by unfold sopN; rw [hE]; rfl
    rw [hE, hN]
    simp only [decide_eq_false hs9] at hsm
    refine enterK (tb := tb) Tryz.func98 rfl Tryz.ntmps98 rfl ?_
    repeat' (first | (apply R.is1; first | (apply R.isBin; (apply R.pure; exact rfl; first | (apply Ok1.sub64; exact rfl; exact rfl; omega; omega) | (apply Ok1.lss_f; exact rfl; exact rfl; omega) | (apply Ok1.gtr_f; exact rfl; exact rfl; omega))) | (apply R.isCall; (apply R.pure; exact rfl; (apply Ok1.lenS; (iterate 3 exact rfl)))) | (apply R.pure; exact rfl; first | (apply Ok1.move; exact rfl) | (apply Ok1.assign; exact rfl)) | (apply R.box; (iterate 3 exact rfl); intro)) | apply R.nil | (apply T.is; first | (apply T.drawC (id := 8) [0] (by decide); ((apply A.take 0; exact rfl; exact rfl; kernel_rfl; kernel_rfl; kernel_rfl; (apply Ok1.load; exact rfl; apply Ld.ownk; exact rfl; exact rfl; exact At.head; exact subE_all htl)) <;> (apply A.take 1; exact rfl; exact rfl; kernel_rfl; kernel_rfl; kernel_rfl; (apply Ok1.move; exact rfl)) <;> (apply A.take 2; exact rfl; exact rfl; kernel_rfl; kernel_rfl; kernel_rfl; (apply Ok1.move; exact rfl)) <;> (apply A.take 3; exact rfl; exact rfl; kernel_rfl; kernel_rfl; kernel_rfl; (apply Ok1.move; exact rfl)) <;> (apply A.take 4; exact rfl; exact rfl; kernel_rfl; kernel_rfl; kernel_rfl; (apply Ok1.move; exact rfl)) <;> (apply A.take 5; exact rfl; exact rfl; kernel_rfl; kernel_rfl; kernel_rfl; (apply Ok1.move; exact rfl)) <;> (apply A.take 6; exact rfl; exact rfl; kernel_rfl; kernel_rfl; kernel_rfl; (apply Ok1.preR (i := r); (iterate 4 exact rfl); exact congrArg (fun z => some (Value.int .i64 z)) hri; omega)) <;> (apply A.two 7 8; kernel_rfl; exact rfl; exact rfl; rotate_left 1; (focus (((((apply R.alloc; (iterate 3 exact rfl); intro))); apply R.nil; refine ⟨?_, ?_⟩; (focus ((repeat' (first | exact trivial | (refine ⟨?_, ?_⟩; (focus ((repeat' (first | exact At.head | apply At.tail)); done)))))))) <;> (apply A.one 7; kernel_rfl; exact rfl; (((apply R.callV (vs := [.agg ⟨tv⟩, .slice p k.length cap, .slice pn nonce.length cn, .slice pb bound.length cb, .slice pd r cd]); (iterate 3 exact rfl); intro w1 hw1; exact htg w1 hw1.chg))); apply R.nil; refine ⟨?_, ?_⟩; (focus ((repeat' (first | exact trivial | (refine ⟨?_, ?_⟩; (focus ((repeat' (first | exact At.head | apply At.tail)); done)))))))) <;> (apply A.one 9; kernel_rfl; exact rfl; (((apply R.store; (iterate 4 exact rfl); exact hls; exact hone; exact Upd.head; exact setE_all hls))); apply R.nil; refine ⟨?_, ?_⟩; (focus ((repeat' (first | exact trivial | (refine ⟨?_, ?_⟩; (focus ((repeat' (first | exact At.head | apply At.tail)); done)))))))) <;> (apply A.done; kernel_rfl))); rotate_right 1; (focus (((((apply R.callV (vs := [.agg ⟨tv⟩, .slice p k.length cap, .slice pn nonce.length cn, .slice pb bound.length cb, .slice pd r cd]); (iterate 3 exact rfl); intro w1 hw1; exact htg w1 hw1.chg))); apply R.nil; refine ⟨?_, ?_⟩; (focus ((repeat' (first | exact trivial | (refine ⟨?_, ?_⟩; exact At.head)))))) <;> (apply A.one 8; kernel_rfl; exact rfl; (((apply R.alloc; (iterate 3 exact rfl); intro))); apply R.nil; refine ⟨?_, ?_⟩; (focus ((repeat' (first | exact trivial | (refine ⟨?_, ?_⟩; (focus ((repeat' (first | exact At.head | apply At.tail)); done)))))))) <;> (apply A.one 9; kernel_rfl; exact rfl; (((apply R.store; (iterate 4 exact rfl); exact hls; exact hone; exact Upd.head; exact setE_all hls))); apply R.nil; refine ⟨?_, ?_⟩; (focus ((repeat' (first | exact trivial | (refine ⟨?_, ?_⟩; (focus ((repeat' (first | exact At.head | apply At.tail)); done)))))))) <;> (apply A.done; kernel_rfl)))))) | (apply T.drawC (id := 9) [] (by decide); ((apply A.take 0; exact rfl; exact rfl; kernel_rfl; kernel_rfl; kernel_rfl; (apply Ok1.sliceArr; (iterate 4 exact rfl))) <;> (apply A.take 1; exact rfl; exact rfl; kernel_rfl; kernel_rfl; kernel_rfl; (apply Ok1.move; exact rfl)) <;> (apply A.take 2; exact rfl; exact rfl; kernel_rfl; kernel_rfl; kernel_rfl; (apply Ok1.move; exact rfl)) <;> (apply A.take 3; exact rfl; exact rfl; kernel_rfl; kernel_rfl; kernel_rfl; (apply Ok1.sufR (i := r) (sz := 1); (iterate 5 exact rfl); exact congrArg (fun z => some (Value.int .i64 z)) hri; omega; omega)) <;> (apply A.one 4; kernel_rfl; exact rfl; (((apply R.callW (vs := [.slice (some ⟨_, 0, none⟩) 32 32, .slice (sufP pd cd r 1) (s.length - r) (cd - r)]); (iterate 3 exact rfl); (intro w1 hw1; exact hsm _ w1 hw1.chg (RdSl.of (junk := []) hw1 (by exact At.head) (by rw [fl_u8, List.append_nil]))); rintro v rfl))); apply R.nil; refine ⟨?_, ?_⟩; (focus ((repeat' (exact trivial))))) <;> (apply A.take 5; exact rfl; exact rfl; kernel_rfl; kernel_rfl; kernel_rfl; (apply Ok1.not_f; exact rfl)) <;> (apply A.done; kernel_rfl))) | apply T.seq | apply T.region | apply T.skip | apply T.ret | (apply T.cond_t; exact rfl) | (apply T.cond_f; exact rfl)))
    all_goals (apply RetOk.tt; exact rfl; exact rfl)
    all_goals exact ⟨[], by (focus ((repeat' (exact Keep.nil _)); done)), none, OvOk.start 1, rfl, rfl⟩
end Go.Proofs.YtidjnjlejhoalaaGreat
