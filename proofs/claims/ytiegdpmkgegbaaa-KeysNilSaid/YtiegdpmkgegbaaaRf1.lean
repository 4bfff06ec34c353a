/- The document's digest. -/
import Derived.Test.YtiegdpmkgegbaaaKy2
set_option linter.unusedSimpArgs false
set_option linter.unusedVariables false
namespace Go.Proofs.Ytiegdpmkgegbaaa
open Go.RowKit Go.Shelf
set_option maxRecDepth 100000

section
variable {X : Cx} {σ : Env} {L : Lst} {d : Option Nat} {ty ty2 t : TypeId} {pos : String} {af : Array Edge} {g : Option (Nat × Bool)} {x y : Operand} {k : IntKind} {i j : Int}
theorem Ok1.orCh {a b c : Int} (hx : ev σ x = some (.int .u32 (andI .u32 a b))) (hy : ev σ y = some (.int .u32 (andI .u32 (xorI .u32 a 4294967295) c))) : Ok1 X ⟨d, .binOp .or t x y ty2, ty, pos, af, g⟩ σ L (.int .u32 (chI a b c)) := by
  rw [← ch_eq]; exact Ok1.orK hx hy
theorem Ok1.orMaj {a b c : Int} (hx : ev σ x = some (.int .u32 (orI .u32 (andI .u32 a b) (andI .u32 a c)))) (hy : ev σ y = some (.int .u32 (andI .u32 b c))) : Ok1 X ⟨d, .binOp .or t x y ty2, ty, pos, af, g⟩ σ L (.int .u32 (majI a b c)) := by
  rw [← maj_eq]; exact Ok1.orK hx hy
theorem Ok1.shlE {k2 : IntKind} {m z : Int} (hx : ev σ x = some (.int k i)) (hy : ev σ y = some (.int k2 j)) (h : 0 ≤ j) (h2 : j.toNat ≤ k.bits) (hm : pw j.toNat = m) (hz : k.wrap (i * m) = z) : Ok1 X ⟨d, .binOp .shl t x y ty2, ty, pos, af, g⟩ σ L (.int k z) := by
  subst hz; exact Ok1.shl hx hy h h2 hm
end
theorem right1_ok (x n p q : Int) (h0 : 0 < n) (h1 : n < 32) (hp : pw n.toNat = p) (hq : pw (32 - n).toNat = q) : CallP Try.prog 92 [.int .u32 x, .int .i64 n] (.int .u32 (rotr x p q)) := by
  refine enterP (tb := tb) Try.func92 rfl Try.ntmps92 rfl fun w => ?_
  have hn : n.toNat ≤ IntKind.u32.bits := by show n.toNat ≤ 32; omega
  have hn2 : (32 - n).toNat ≤ IntKind.u32.bits := by show (32 - n).toNat ≤ 32; omega
  repeat' (first | (apply R.is1; (apply R.pure; exact rfl; (apply Ok1.assign; exact rfl))) | apply R.nil | (apply T.is; first | (apply T.drawC (id := 1) [] (by decide); ((apply A.take 0; exact rfl; exact rfl; kernel_rfl; kernel_rfl; kernel_rfl; (apply Ok1.move; exact rfl)) <;> (apply A.take 1; exact rfl; exact rfl; kernel_rfl; kernel_rfl; kernel_rfl; (apply Ok1.move; exact rfl)) <;> (apply A.take 2; exact rfl; exact rfl; kernel_rfl; kernel_rfl; kernel_rfl; (apply Ok1.shr; exact rfl; exact rfl; omega; exact hn; exact hp)) <;> (apply A.take 3; exact rfl; exact rfl; kernel_rfl; kernel_rfl; kernel_rfl; (apply Ok1.move; exact rfl)) <;> (apply A.take 4; exact rfl; exact rfl; kernel_rfl; kernel_rfl; kernel_rfl; (apply Ok1.move; exact rfl)) <;> (apply A.take 5; exact rfl; exact rfl; kernel_rfl; kernel_rfl; kernel_rfl; (apply Ok1.sub64; exact rfl; exact rfl; omega; omega)) <;> (apply A.take 6; exact rfl; exact rfl; kernel_rfl; kernel_rfl; kernel_rfl; (apply Ok1.shl; exact rfl; exact rfl; omega; exact hn2; exact hq)) <;> (apply A.take 7; exact rfl; exact rfl; kernel_rfl; kernel_rfl; kernel_rfl; (apply Ok1.orK; exact rfl; exact rfl)) <;> (apply A.take 8; exact rfl; exact rfl; kernel_rfl; kernel_rfl; kernel_rfl; (apply Ok1.assign; exact rfl)) <;> (apply A.done; kernel_rfl))) | apply T.seq | apply T.region | apply T.ret))
  (apply RetOk.t; exact rfl)
  unfold rotr
  rw [orI_comm]
  rfl
def tabV : List Value := u32s kI ++ h0I.v
theorem all_snoc (K : List Int) (i : Nat) (b : List Int) (s : H8) : allI K (i + 1) b s = mixI K ((b.drop (64 * i)).take 64) (allI K i b s) := by rw [allI_add K 1 i]; rfl
theorem pad_byt (n : Nat) : Byt (padI n) := by
  intro y hy
  rcases List.mem_cons.1 hy with rfl | hy
  · omega
  · rcases List.mem_append.1 hy with hy | hy
    · rw [List.eq_of_mem_replicate hy]; omega
    · simp only [lenI, List.mem_cons, List.not_mem_nil, or_false] at hy
      rcases hy with rfl | rfl | rfl | rfl | rfl | rfl | rfl | rfl <;> omega
theorem pad_len (n : Nat) : (padI n).length = 9 + (119 - n % 64) % 64 := by simp [padI, lenI]; omega
theorem w4 {a b c d : Int} (ha : 0 ≤ a ∧ a ≤ 255) (hb : 0 ≤ b ∧ b ≤ 255) (hc : 0 ≤ c ∧ c ≤ 255) (hd : 0 ≤ d ∧ d ≤ 255) : wr (wr (256 * wr (wr (256 * wr (wr (256 * wr (wr (256 * 0) + a)) + b)) + c)) + d) = wordI a b c d := by
  simp only [wr_mod, wordI]; omega
def cL : Code → Code | .seq a _ => a | c => c
def cR : Code → Code | .seq _ b => b | c => c
def cB : Code → Code | .block _ c => c | .loop c => c | c => c
def codeOf (f : Func) : Code := match f.body with | some c => c | none => .skip
def atY (c : Code) : Code := cB (cL (cR (cB (cB (cR (cL (cR (cR (cR (cR (cR (cR c))))))))))))
def atL4 (c : Code) : Code := cB (cR (cL (cR (atY c))))
def atL8 (c : Code) : Code := cB (cR (cL (cR (cR (cR (cR (cR (cR (cR (cR c))))))))))
def atL6 (c : Code) : Code := cB (cR (cL (cR (cR (cR (atY c))))))
theorem sum_loop4 (w : World) (bT bO bm bh bw M jm j : Nat) (km tv : List Value) (bb bk : List Int) (st : H8) (hlen : bb.length = 64 * M) (hbig : M ≤ 100000000) (hlt : j < M) (hbl : bk.length = 64) (hbb : Byt bk)
    (hgm : ∀ k, k < 64 → (u8s bb ++ km)[64 * j + k]? = some (.int .u8 (bk.getD k 0))) {Q : Post} {σ : Env} {L : Lst}
    (hs : Sub ([(2, .pointer (some ⟨bT, 0, none⟩)), (4, .pointer (some ⟨bO, 0, none⟩)), (5, .slice (some ⟨bm, 0, none⟩) (64 * M) (64 * M + jm)), (8, .pointer (some ⟨bh, 0, none⟩)), (9, .int .i64 (64 * (j : Int))), (10, .pointer (some ⟨bw, 0, none⟩)), (11, .int .i64 0)] : Env) σ) (hL : Keep L [(bw, .cells ⟨List.replicate 64 (.int .u32 0)⟩ 32 (0, 0)), (bh, .cells ⟨st.v⟩ 33 (0, 0)), (bm, .cells ⟨u8s bb ++ km⟩ 5 (0, 0)), (bT, .cells ⟨tv⟩ 35 (0, 0)), (bO, .cells ⟨List.replicate 32 (.int .u8 0)⟩ 45 (0, 0))])
    (hQ : ∀ σ' L', Sub ([(2, .pointer (some ⟨bT, 0, none⟩)), (4, .pointer (some ⟨bO, 0, none⟩)), (5, .slice (some ⟨bm, 0, none⟩) (64 * M) (64 * M + jm)), (8, .pointer (some ⟨bh, 0, none⟩)), (9, .int .i64 (64 * (j : Int))), (10, .pointer (some ⟨bw, 0, none⟩))] : Env) σ' → Keep L' [(bw, .cells ⟨u32s (schedI bk 64)⟩ 32 (0, 0)), (bh, .cells ⟨st.v⟩ 33 (0, 0)), (bm, .cells ⟨u8s bb ++ km⟩ 5 (0, 0)), (bT, .cells ⟨tv⟩ 35 (0, 0)), (bO, .cells ⟨List.replicate 32 (.int .u8 0)⟩ 45 (0, 0))] → Q (.exit 6) σ' L') :
    T ⟨Try.prog, tb, 266, w, []⟩ (atL4 (codeOf Try.f72)) Q σ L := by
  apply T.loopK (α := Nat) (I := fun i => i ≤ 64) (σi := fun i => [(2, .pointer (some ⟨bT, 0, none⟩)), (4, .pointer (some ⟨bO, 0, none⟩)), (5, .slice (some ⟨bm, 0, none⟩) (64 * M) (64 * M + jm)), (8, .pointer (some ⟨bh, 0, none⟩)), (9, .int .i64 (64 * (j : Int))), (10, .pointer (some ⟨bw, 0, none⟩)), (11, .int .i64 i)])
    (Li := fun i => [(bw, .cells ⟨u32s (schedI bk i) ++ List.replicate (64 - i) (.int .u32 0)⟩ 32 (0, 0)), (bh, .cells ⟨st.v⟩ 33 (0, 0)), (bm, .cells ⟨u8s bb ++ km⟩ 5 (0, 0)), (bT, .cells ⟨tv⟩ 35 (0, 0)), (bO, .cells ⟨List.replicate 32 (.int .u8 0)⟩ 45 (0, 0))]) (μ := fun i => 64 - i) (i0 := 0)
  · exact Nat.zero_le _
  · exact hs
  · exact hL
  · intro i hi
    have hsl := sched_len bk i
    have hnn : schedI bk (i + 1) = schedI bk i ++ [nextI bk (schedI bk i)] := rfl
    have hnx : nextI bk (schedI bk i) = nextI bk (schedI bk i) := rfl
    conv at hnx => rhs; unfold nextI
    rcases Nat.lt_or_ge i 64 with hlt2 | hge2
    · generalize schedI bk i = l at *
      obtain ⟨k, hk⟩ : ∃ k, 64 - i = k + 1 := ⟨63 - i, by omega⟩
      rw [hk]
      rcases Nat.lt_or_ge i 16 with h16 | h16
      · rw [if_pos (by omega), hsl] at hnx
        have hq := fun m (hm : m < 4) => hgm (4 * i + m) (by omega)
        have hr := fun m (hm : m < 4) => hbb (bk.getD (4 * i + m) 0) (by rw [List.getD_eq_getElem?_getD, List.getElem?_eq_getElem (by omega)]; exact List.getElem_mem _)
        have g0 : (u8s bb ++ km)[0 + (64 * (j : Int) + 4 * (i : Int) + 0).toNat * 1]? = some (.int .u8 (bk.getD (4 * i) 0)) := by rw [show 0 + (64 * (j : Int) + 4 * (i : Int) + 0).toNat * 1 = 64 * j + (4 * i + 0) by omega]; exact hq 0 (by decide)
        have g1 : (u8s bb ++ km)[0 + (64 * (j : Int) + 4 * (i : Int) + 1).toNat * 1]? = some (.int .u8 (bk.getD (4 * i + 1) 0)) := by rw [show 0 + (64 * (j : Int) + 4 * (i : Int) + 1).toNat * 1 = 64 * j + (4 * i + 1) by omega]; exact hq 1 (by decide)
        have g2 : (u8s bb ++ km)[0 + (64 * (j : Int) + 4 * (i : Int) + 2).toNat * 1]? = some (.int .u8 (bk.getD (4 * i + 2) 0)) := by rw [show 0 + (64 * (j : Int) + 4 * (i : Int) + 2).toNat * 1 = 64 * j + (4 * i + 2) by omega]; exact hq 2 (by decide)
        have g3 : (u8s bb ++ km)[0 + (64 * (j : Int) + 4 * (i : Int) + 3).toNat * 1]? = some (.int .u8 (bk.getD (4 * i + 3) 0)) := by rw [show 0 + (64 * (j : Int) + 4 * (i : Int) + 3).toNat * 1 = 64 * j + (4 * i + 3) by omega]; exact hq 3 (by decide)
        have r0 := hr 0 (by decide)
        have r1 := hr 1 (by decide)
        have r2 := hr 2 (by decide)
        have r3 := hr 3 (by decide)
        rw [Nat.add_zero] at r0
        have hw4 := w4 r0 r1 r2 r3
        clear hq hr hgm
        generalize bk.getD (4 * i) 0 = c0 at *
        generalize bk.getD (4 * i + 1) 0 = c1 at *
        generalize bk.getD (4 * i + 2) 0 = c2 at *
        generalize bk.getD (4 * i + 3) 0 = c3 at *
        have hgx : ∀ x : Int, (u32s l ++ .int .u32 x :: List.replicate k (.int .u32 0))[0 + (i : Int).toNat * 1]? = some (.int .u32 x) := by
          intro x
          rw [List.getElem?_append_right (by rw [u32s_len]; omega)]
          rw [show 0 + (i : Int).toNat * 1 - (u32s l).length = 0 by rw [u32s_len]; omega]
          rfl
        have hpx : ∀ x y : Int, setE (u32s l ++ .int .u32 x :: List.replicate k (.int .u32 0)) (0 + (i : Int).toNat * 1) [.int .u32 y] = some (u32s l ++ .int .u32 y :: List.replicate k (.int .u32 0)) := by
          intro x y
          have := setE_mid (u32s l) (vs := [.int .u32 y]) (junk := .int .u32 x :: List.replicate k (.int .u32 0)) (by simp)
          rw [show 0 + (i : Int).toNat * 1 = (u32s l).length by rw [u32s_len]; omega, this]
          simp
        rw [List.replicate_succ]
        repeat' (first | (apply R.is1; first | (apply R.isBin; (apply R.pure; exact rfl; first | (apply Ok1.add64; exact rfl; exact rfl; omega; omega) | (apply Ok1.lss_t; exact rfl; exact rfl; omega) | (apply Ok1.lss_f; exact rfl; exact rfl; omega))) | (apply R.pure; exact rfl; first | (apply Ok1.move; exact rfl) | (apply Ok1.assign; exact rfl))) | apply R.nil | (apply T.is; first | apply T.rounds 5 | (apply T.drawC (id := 21) [2] (by decide); ((apply A.take 0; exact rfl; exact rfl; kernel_rfl; kernel_rfl; kernel_rfl; (apply Ok1.move; exact rfl)) <;> (apply A.take 1; exact rfl; exact rfl; kernel_rfl; kernel_rfl; kernel_rfl; (apply Ok1.move; exact rfl)) <;> (apply A.take 2; exact rfl; exact rfl; kernel_rfl; kernel_rfl; kernel_rfl; (apply Ok1.indexAddrA; (iterate 5 exact rfl); omega; omega)) <;> (apply A.take 5; exact rfl; exact rfl; kernel_rfl; kernel_rfl; kernel_rfl; (apply Ok1.move; exact rfl)) <;> (apply A.take 6; exact rfl; exact rfl; kernel_rfl; kernel_rfl; kernel_rfl; (apply Ok1.move; exact rfl)) <;> (apply A.take 7; exact rfl; exact rfl; kernel_rfl; kernel_rfl; kernel_rfl; (apply Ok1.move; exact rfl)) <;> (apply A.take 8; exact rfl; exact rfl; kernel_rfl; kernel_rfl; kernel_rfl; (apply Ok1.mul64; exact rfl; exact rfl; omega; omega)) <;> (apply A.take 9; exact rfl; exact rfl; kernel_rfl; kernel_rfl; kernel_rfl; (apply Ok1.add64; exact rfl; exact rfl; omega; omega)) <;> (apply A.take 10; exact rfl; exact rfl; kernel_rfl; kernel_rfl; kernel_rfl; (apply Ok1.move; exact rfl)) <;> (apply A.take 11; exact rfl; exact rfl; kernel_rfl; kernel_rfl; kernel_rfl; (apply Ok1.add64; exact rfl; exact rfl; omega; omega)) <;> (apply A.take 12; exact rfl; exact rfl; kernel_rfl; kernel_rfl; kernel_rfl; (apply Ok1.indexAddr; (iterate 5 exact rfl); omega; omega)) <;> (apply A.take 13; exact rfl; exact rfl; kernel_rfl; kernel_rfl; kernel_rfl; (apply Ok1.load; exact rfl; apply Ld.own1; exact rfl; exact rfl; exact At.head; first | exact g0 | exact g1 | exact g2 | exact g3)) <;> (apply A.take 14; exact rfl; exact rfl; kernel_rfl; kernel_rfl; kernel_rfl; (apply Ok1.convU32; (iterate 5 exact rfl); omega; omega)) <;> (apply A.one 3; kernel_rfl; exact rfl; (((apply R.pure; exact rfl; (apply Ok1.load; exact rfl; apply Ld.own1; exact rfl; exact rfl; exact At.head; exact hgx _)))); apply R.nil; refine ⟨?_, ?_⟩; (focus ((repeat' (first | exact trivial | (refine ⟨?_, ?_⟩; (focus ((repeat' (first | exact At.head | apply At.tail)); done)))))))) <;> (apply A.take 4; exact rfl; exact rfl; kernel_rfl; kernel_rfl; kernel_rfl; (apply Ok1.mul32; exact rfl; exact rfl)) <;> (apply A.take 15; exact rfl; exact rfl; kernel_rfl; kernel_rfl; kernel_rfl; (apply Ok1.add32; exact rfl; exact rfl)) <;> (apply A.take 16; exact rfl; exact rfl; kernel_rfl; kernel_rfl; kernel_rfl; (apply Ok1.indexAddrA; (iterate 5 exact rfl); omega; omega)) <;> (apply A.one 17; kernel_rfl; exact rfl; (((apply R.store; (iterate 6 exact rfl); exact Upd.head; exact hpx _ _))); apply R.nil; refine ⟨?_, ?_⟩; (focus ((repeat' (first | exact trivial | (refine ⟨?_, ?_⟩; (focus ((repeat' (first | exact At.head | apply At.tail)); done)))))))) <;> (apply A.done; kernel_rfl))) | apply T.seq | apply T.region | apply T.block | apply T.skip | apply T.exit | (apply T.cond_t; exact rfl) | (apply T.cond_f; exact rfl)))
        refine ⟨i + 1, by omega, by omega, ⟨rfl, rfl, rfl, rfl, rfl, rfl, rfl, trivial⟩, ?_⟩
        have hfin : u32s (l ++ [nextI bk l]) ++ List.replicate k (.int .u32 0) = u32s l ++ .int .u32 (wr (wr (256 * wr (wr (256 * wr (wr (256 * wr (wr (256 * 0) + c0)) + c1)) + c2)) + c3)) :: List.replicate k (.int .u32 0) := by rw [hw4, hnx, u32s_app, List.append_assoc]; rfl
        rw [hnn, show 64 - (i + 1) = k by omega, hfin]
        (focus ((repeat' (first | exact Keep.nil _ | exact Ext.one _ _ | apply Keep.cons)); done))
      · rw [if_neg (by omega), hsl] at hnx
        have hput := fun x => arr_put l x (.int .u32 0) (k := k)
        rw [hsl] at hput
        have e15 : ((i : Int) - 15).toNat = i - 15 := by omega
        have e2 : ((i : Int) - 2).toNat = i - 2 := by omega
        have e16 : ((i : Int) - 16).toNat = i - 16 := by omega
        have e7 : ((i : Int) - 7).toNat = i - 7 := by omega
        have g15 : (u32s l ++ List.replicate (k + 1) (.int .u32 0))[0 + ((i : Int) - 15).toNat * 1]? = some (.int .u32 (l.getD (i - 15) 0)) := by rw [e15]; exact arr_get (by omega)
        have g2 : (u32s l ++ List.replicate (k + 1) (.int .u32 0))[0 + ((i : Int) - 2).toNat * 1]? = some (.int .u32 (l.getD (i - 2) 0)) := by rw [e2]; exact arr_get (by omega)
        have g16 : (u32s l ++ List.replicate (k + 1) (.int .u32 0))[0 + ((i : Int) - 16).toNat * 1]? = some (.int .u32 (l.getD (i - 16) 0)) := by rw [e16]; exact arr_get (by omega)
        have g7 : (u32s l ++ List.replicate (k + 1) (.int .u32 0))[0 + ((i : Int) - 7).toNat * 1]? = some (.int .u32 (l.getD (i - 7) 0)) := by rw [e7]; exact arr_get (by omega)
        generalize l.getD (i - 15) 0 = x15 at *
        generalize l.getD (i - 2) 0 = x2 at *
        generalize l.getD (i - 16) 0 = x16 at *
        generalize l.getD (i - 7) 0 = x7 at *
        repeat' (first | (apply R.is1; first | (apply R.isBin; (apply R.pure; exact rfl; first | (apply Ok1.add64; exact rfl; exact rfl; omega; omega) | (apply Ok1.lss_t; exact rfl; exact rfl; omega) | (apply Ok1.lss_f; exact rfl; exact rfl; omega))) | (apply R.pure; exact rfl; first | (apply Ok1.move; exact rfl) | (apply Ok1.assign; exact rfl))) | apply R.nil | (apply T.is; first | (apply T.drawC (id := 22) [0] (by decide); ((apply A.take 0; exact rfl; exact rfl; kernel_rfl; kernel_rfl; kernel_rfl; (apply Ok1.move; exact rfl)) <;> (apply A.take 1; exact rfl; exact rfl; kernel_rfl; kernel_rfl; kernel_rfl; (apply Ok1.sub64; exact rfl; exact rfl; omega; omega)) <;> (apply A.take 2; exact rfl; exact rfl; kernel_rfl; kernel_rfl; kernel_rfl; (apply Ok1.indexAddrA; (iterate 5 exact rfl); omega; omega)) <;> (apply A.take 3; exact rfl; exact rfl; kernel_rfl; kernel_rfl; kernel_rfl; (apply Ok1.load; exact rfl; apply Ld.own1; exact rfl; exact rfl; exact At.head; with_reducible (exact g15))) <;> (apply A.call 4; exact rfl; exact rfl; kernel_rfl; kernel_rfl; kernel_rfl; exact rfl; exact rfl; (exact fun w1 _ => (right1_ok x15 7 128 33554432 (by decide) (by decide) rfl rfl).w w1)) <;> (apply A.take 5; exact rfl; exact rfl; kernel_rfl; kernel_rfl; kernel_rfl; (apply Ok1.move; exact rfl)) <;> (apply A.take 6; exact rfl; exact rfl; kernel_rfl; kernel_rfl; kernel_rfl; (apply Ok1.sub64; exact rfl; exact rfl; omega; omega)) <;> (apply A.take 7; exact rfl; exact rfl; kernel_rfl; kernel_rfl; kernel_rfl; (apply Ok1.indexAddrA; (iterate 5 exact rfl); omega; omega)) <;> (apply A.take 8; exact rfl; exact rfl; kernel_rfl; kernel_rfl; kernel_rfl; (apply Ok1.load; exact rfl; apply Ld.own1; exact rfl; exact rfl; exact At.head; with_reducible (exact g15))) <;> (apply A.call 9; exact rfl; exact rfl; kernel_rfl; kernel_rfl; kernel_rfl; exact rfl; exact rfl; (exact fun w1 _ => (right1_ok x15 18 262144 16384 (by decide) (by decide) rfl rfl).w w1)) <;> (apply A.take 10; exact rfl; exact rfl; kernel_rfl; kernel_rfl; kernel_rfl; (apply Ok1.xorK; exact rfl; exact rfl)) <;> (apply A.take 11; exact rfl; exact rfl; kernel_rfl; kernel_rfl; kernel_rfl; (apply Ok1.move; exact rfl)) <;> (apply A.take 12; exact rfl; exact rfl; kernel_rfl; kernel_rfl; kernel_rfl; (apply Ok1.sub64; exact rfl; exact rfl; omega; omega)) <;> (apply A.take 13; exact rfl; exact rfl; kernel_rfl; kernel_rfl; kernel_rfl; (apply Ok1.indexAddrA; (iterate 5 exact rfl); omega; omega)) <;> (apply A.take 14; exact rfl; exact rfl; kernel_rfl; kernel_rfl; kernel_rfl; (apply Ok1.load; exact rfl; apply Ld.own1; exact rfl; exact rfl; exact At.head; with_reducible (exact g15))) <;> (apply A.take 15; exact rfl; exact rfl; kernel_rfl; kernel_rfl; kernel_rfl; (apply Ok1.shr; exact rfl; exact rfl; omega; exact Nat.le_of_ble_eq_true rfl; (exact pwE3))) <;> (apply A.take 16; exact rfl; exact rfl; kernel_rfl; kernel_rfl; kernel_rfl; (apply Ok1.xorK; exact rfl; exact rfl)) <;> (apply A.take 17; exact rfl; exact rfl; kernel_rfl; kernel_rfl; kernel_rfl; (apply Ok1.assign; exact rfl)) <;> (apply A.done; kernel_rfl))) | (apply T.drawC (id := 23) [0] (by decide); ((apply A.take 0; exact rfl; exact rfl; kernel_rfl; kernel_rfl; kernel_rfl; (apply Ok1.move; exact rfl)) <;> (apply A.take 1; exact rfl; exact rfl; kernel_rfl; kernel_rfl; kernel_rfl; (apply Ok1.sub64; exact rfl; exact rfl; omega; omega)) <;> (apply A.take 2; exact rfl; exact rfl; kernel_rfl; kernel_rfl; kernel_rfl; (apply Ok1.indexAddrA; (iterate 5 exact rfl); omega; omega)) <;> (apply A.take 3; exact rfl; exact rfl; kernel_rfl; kernel_rfl; kernel_rfl; (apply Ok1.load; exact rfl; apply Ld.own1; exact rfl; exact rfl; exact At.head; with_reducible (exact g2))) <;> (apply A.call 4; exact rfl; exact rfl; kernel_rfl; kernel_rfl; kernel_rfl; exact rfl; exact rfl; (exact fun w1 _ => (right1_ok x2 17 131072 32768 (by decide) (by decide) rfl rfl).w w1)) <;> (apply A.take 5; exact rfl; exact rfl; kernel_rfl; kernel_rfl; kernel_rfl; (apply Ok1.move; exact rfl)) <;> (apply A.take 6; exact rfl; exact rfl; kernel_rfl; kernel_rfl; kernel_rfl; (apply Ok1.sub64; exact rfl; exact rfl; omega; omega)) <;> (apply A.take 7; exact rfl; exact rfl; kernel_rfl; kernel_rfl; kernel_rfl; (apply Ok1.indexAddrA; (iterate 5 exact rfl); omega; omega)) <;> (apply A.take 8; exact rfl; exact rfl; kernel_rfl; kernel_rfl; kernel_rfl; (apply Ok1.load; exact rfl; apply Ld.own1; exact rfl; exact rfl; exact At.head; with_reducible (exact g2))) <;> (apply A.call 9; exact rfl; exact rfl; kernel_rfl; kernel_rfl; kernel_rfl; exact rfl; exact rfl; (exact fun w1 _ => (right1_ok x2 19 524288 8192 (by decide) (by decide) rfl rfl).w w1)) <;> (apply A.take 10; exact rfl; exact rfl; kernel_rfl; kernel_rfl; kernel_rfl; (apply Ok1.xorK; exact rfl; exact rfl)) <;> (apply A.take 11; exact rfl; exact rfl; kernel_rfl; kernel_rfl; kernel_rfl; (apply Ok1.move; exact rfl)) <;> (apply A.take 12; exact rfl; exact rfl; kernel_rfl; kernel_rfl; kernel_rfl; (apply Ok1.sub64; exact rfl; exact rfl; omega; omega)) <;> (apply A.take 13; exact rfl; exact rfl; kernel_rfl; kernel_rfl; kernel_rfl; (apply Ok1.indexAddrA; (iterate 5 exact rfl); omega; omega)) <;> (apply A.take 14; exact rfl; exact rfl; kernel_rfl; kernel_rfl; kernel_rfl; (apply Ok1.load; exact rfl; apply Ld.own1; exact rfl; exact rfl; exact At.head; with_reducible (exact g2))) <;> (apply A.take 15; exact rfl; exact rfl; kernel_rfl; kernel_rfl; kernel_rfl; (apply Ok1.shr; exact rfl; exact rfl; omega; exact Nat.le_of_ble_eq_true rfl; (exact rfl))) <;> (apply A.take 16; exact rfl; exact rfl; kernel_rfl; kernel_rfl; kernel_rfl; (apply Ok1.xorK; exact rfl; exact rfl)) <;> (apply A.take 17; exact rfl; exact rfl; kernel_rfl; kernel_rfl; kernel_rfl; (apply Ok1.assign; exact rfl)) <;> (apply A.done; kernel_rfl))) | (apply T.drawC (id := 24) [] (by decide); ((apply A.take 0; exact rfl; exact rfl; kernel_rfl; kernel_rfl; kernel_rfl; (apply Ok1.move; exact rfl)) <;> (apply A.take 1; exact rfl; exact rfl; kernel_rfl; kernel_rfl; kernel_rfl; (apply Ok1.move; exact rfl)) <;> (apply A.take 2; exact rfl; exact rfl; kernel_rfl; kernel_rfl; kernel_rfl; (apply Ok1.sub64; exact rfl; exact rfl; omega; omega)) <;> (apply A.take 3; exact rfl; exact rfl; kernel_rfl; kernel_rfl; kernel_rfl; (apply Ok1.indexAddrA; (iterate 5 exact rfl); omega; omega)) <;> (apply A.take 5; exact rfl; exact rfl; kernel_rfl; kernel_rfl; kernel_rfl; (apply Ok1.move; exact rfl)) <;> (apply A.take 7; exact rfl; exact rfl; kernel_rfl; kernel_rfl; kernel_rfl; (apply Ok1.move; exact rfl)) <;> (apply A.take 8; exact rfl; exact rfl; kernel_rfl; kernel_rfl; kernel_rfl; (apply Ok1.sub64; exact rfl; exact rfl; omega; omega)) <;> (apply A.take 9; exact rfl; exact rfl; kernel_rfl; kernel_rfl; kernel_rfl; (apply Ok1.indexAddrA; (iterate 5 exact rfl); omega; omega)) <;> (apply A.take 12; exact rfl; exact rfl; kernel_rfl; kernel_rfl; kernel_rfl; (apply Ok1.move; exact rfl)) <;> (apply A.two 4 10; kernel_rfl; exact rfl; exact rfl; rotate_left 1; (focus (((((apply R.pure; exact rfl; (apply Ok1.load; exact rfl; apply Ld.own1; exact rfl; exact rfl; exact At.head; with_reducible (exact g7))))); apply R.nil; refine ⟨?_, ?_⟩; (focus ((repeat' (exact trivial))))) <;> (apply A.one 4; kernel_rfl; exact rfl; (((apply R.pure; exact rfl; (apply Ok1.load; exact rfl; apply Ld.own1; exact rfl; exact rfl; exact At.head; with_reducible (exact g16))))); apply R.nil; refine ⟨?_, ?_⟩; (focus ((repeat' (exact trivial))))) <;> (apply A.take 6; exact rfl; exact rfl; kernel_rfl; kernel_rfl; kernel_rfl; (apply Ok1.add32; exact rfl; exact rfl)) <;> (apply A.take 11; exact rfl; exact rfl; kernel_rfl; kernel_rfl; kernel_rfl; (apply Ok1.add32; exact rfl; exact rfl)) <;> (apply A.take 13; exact rfl; exact rfl; kernel_rfl; kernel_rfl; kernel_rfl; (apply Ok1.add32; exact rfl; exact rfl)) <;> (apply A.take 14; exact rfl; exact rfl; kernel_rfl; kernel_rfl; kernel_rfl; (apply Ok1.indexAddrA; (iterate 5 exact rfl); omega; omega)) <;> (apply A.one 15; kernel_rfl; exact rfl; (((apply R.store; (iterate 6 exact rfl); exact Upd.head; exact hput _))); apply R.nil; refine ⟨?_, ?_⟩; (focus ((repeat' (exact trivial))))) <;> (apply A.done; kernel_rfl))); rotate_right 1; (focus (((((apply R.pure; exact rfl; (apply Ok1.load; exact rfl; apply Ld.own1; exact rfl; exact rfl; exact At.head; with_reducible (exact g16))))); apply R.nil; refine ⟨?_, ?_⟩; (focus ((repeat' (exact trivial))))) <;> (apply A.take 6; exact rfl; exact rfl; kernel_rfl; kernel_rfl; kernel_rfl; (apply Ok1.add32; exact rfl; exact rfl)) <;> (apply A.one 10; kernel_rfl; exact rfl; (((apply R.pure; exact rfl; (apply Ok1.load; exact rfl; apply Ld.own1; exact rfl; exact rfl; exact At.head; with_reducible (exact g7))))); apply R.nil; refine ⟨?_, ?_⟩; (focus ((repeat' (exact trivial))))) <;> (apply A.take 11; exact rfl; exact rfl; kernel_rfl; kernel_rfl; kernel_rfl; (apply Ok1.add32; exact rfl; exact rfl)) <;> (apply A.take 13; exact rfl; exact rfl; kernel_rfl; kernel_rfl; kernel_rfl; (apply Ok1.add32; exact rfl; exact rfl)) <;> (apply A.take 14; exact rfl; exact rfl; kernel_rfl; kernel_rfl; kernel_rfl; (apply Ok1.indexAddrA; (iterate 5 exact rfl); omega; omega)) <;> (apply A.one 15; kernel_rfl; exact rfl; (((apply R.store; (iterate 6 exact rfl); exact Upd.head; exact hput _))); apply R.nil; refine ⟨?_, ?_⟩; (focus ((repeat' (exact trivial))))) <;> (apply A.done; kernel_rfl)))))) | apply T.seq | apply T.region | apply T.block | apply T.skip | (apply T.cond_t; exact rfl) | (apply T.cond_f; exact rfl)))
        all_goals refine ⟨i + 1, by omega, by omega, ⟨rfl, rfl, rfl, rfl, rfl, rfl, rfl, trivial⟩, ?_⟩
        all_goals rw [hnn, hnx, show 64 - (i + 1) = k by omega]
        all_goals (focus ((repeat' (first | exact Keep.nil _ | exact Ext.one _ _ | apply Keep.cons)); done))
    · have him : i = 64 := by omega
      subst him
      rw [Nat.sub_self, List.replicate_zero, List.append_nil]
      repeat' (first | (apply R.is1; first | (apply R.isBin; (apply R.pure; exact rfl; (apply Ok1.lss_f; exact rfl; exact rfl; omega))) | (apply R.pure; exact rfl; (apply Ok1.move; exact rfl))) | apply R.nil | (apply T.is; first | apply T.seq | apply T.region | apply T.exit | (apply T.cond_f; exact rfl)))
      exact hQ _ _ ⟨rfl, rfl, rfl, rfl, rfl, rfl, trivial⟩ (by (focus ((repeat' (first | exact Keep.nil _ | exact Ext.one _ _ | apply Keep.cons)); done)))
end Go.Proofs.Ytiegdpmkgegbaaa
