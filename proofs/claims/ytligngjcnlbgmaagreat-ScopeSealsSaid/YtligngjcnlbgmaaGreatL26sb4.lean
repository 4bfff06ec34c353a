/- Texts of the proof: Rf1, Rf2, Rf7, Rf8, C1, Rf9, Tk1, L07x, C3a, D0, Eng17, C3, C4, C5, C6, C9, Eng16, M1, Se1, Se2, Se3. -/
import Derived.Test.YtligngjcnlbgmaaGreatL26sb3
import Derived.Sort.Statements
import Derived.Shelf.SlSortCmp.Insertion
import Derived.Shelf.SlSortCmp.WholeK
set_option linter.unusedSimpArgs false
set_option linter.unusedVariables false
namespace Go.Proofs.YtligngjcnlbgmaaGreat
open Go.RowKit Go.Shelf
set_option maxRecDepth 100000
section
variable {X : Cx} {σ : Env} {L : Lst} {d : Option Nat} {ty ty2 t : TypeId} {pos : String} {af : Array Edge} {g : Option (Nat × Bool)} {x y : Operand} {k : IntKind} {i j : Int}
theorem Ok1.orCh {a b c : Int} (hx : ev σ x = some (.int .u32 (andI .u32 a b))) (hy : ev σ y = some (.int .u32 (andI .u32 (xorI .u32 a 4294967295) c))) : Ok1 X ⟨d, .binOp .or t x y ty2, ty, pos, af, g⟩ σ L (.int .u32 (chI a b c)) := by
  rw [← ch_eq]; exact Ok1.orK hx hy
theorem Ok1.orMaj {a b c : Int} (hx : ev σ x = some (.int .u32 (orI .u32 (andI .u32 a b) (andI .u32 a c)))) (hy : ev σ y = some (.int .u32 (andI .u32 b c))) : Ok1 X ⟨d, .binOp .or t x y ty2, ty, pos, af, g⟩ σ L (.int .u32 (majI a b c)) := by
  rw [← maj_eq]; exact Ok1.orK hx hy
theorem Ok1.shlE {k2 : IntKind} {m z : Int} (hx : ev σ x = some (.int k i)) (hy : ev σ y = some (.int k2 j)) (h : 0 ≤ j) (h2 : j.toNat ≤ k.bits) (hm : pw j.toNat = m) (hz : k.wrap (i * m) = z) : Ok1 X ⟨d, .binOp .shl t x y ty2, ty, pos, af, g⟩ σ L (.int k z) := by
  subst hz; exact Ok1.shl hx hy h h2 hm
end
theorem right1_ok (x n p q : Int) (h0 : 0 < n) (h1 : n < 32) (hp : pw n.toNat = p) (hq : pw (32 - n).toNat = q) : CallP Tryz.prog 162 [.int .u32 x, .int .i64 n] (.int .u32 (rotr x p q)) := by
  refine enterP (tb := tb) Tryz.func162 rfl Tryz.ntmps162 rfl fun w => ?_
  have hn : n.toNat ≤ IntKind.u32.bits := by show n.toNat ≤ 32; omega
  have hn2 : (32 - n).toNat ≤ IntKind.u32.bits := by show (32 - n).toNat ≤ 32; omega
  repeat' (first | (apply R.is1; first | (apply R.isBin; first | (apply R.pure; exact rfl; first | (apply Ok1.shl; exact rfl; exact rfl; omega; exact hn2; exact hq) | (apply Ok1.shr; exact rfl; exact rfl; omega; exact hn; exact hp) | (apply Ok1.orK; exact rfl; exact rfl) | (apply Ok1.sub64; exact rfl; exact rfl; omega; omega) | (apply Ok1.shr; exact rfl; exact rfl; omega; exact Nat.le_of_ble_eq_true rfl; (first | exact pwE1 | exact pwE2 | exact pwE3 | exact pwE4 | exact pwE5 | exact pwE6 | exact pwE7 | exact pwE8 | exact pwE16 | exact pwE24 | exact pwE32 | exact rfl)))) | (apply R.pure; exact rfl; first | (apply Ok1.move; exact rfl) | (apply Ok1.assign; exact rfl))) | (apply R.is0; first | fail) | (apply R.isG; first | (apply R.guard_run; exact rfl; exact rfl) | (apply R.guard_not; (iterate 3 exact rfl)) | (apply R.guard_not0; exact rfl; exact rfl) | (apply R.guard_un; (iterate 3 exact rfl)) | (apply R.guard_un0; exact rfl; exact rfl) | (apply R.guard rfl rfl ?_ (fun h => ⟨rfl, ?_⟩) <;> try intro)) | apply R.nil | (apply T.is; first | (apply T.drawC (id := 1) [] (by decide); ((apply A.take 0; exact rfl; exact rfl; kernel_rfl; kernel_rfl; kernel_rfl; first | (apply Ok1.move; exact rfl)) <;> (apply A.take 1; exact rfl; exact rfl; kernel_rfl; kernel_rfl; kernel_rfl; first | (apply Ok1.move; exact rfl)) <;> (apply A.take 2; exact rfl; exact rfl; kernel_rfl; kernel_rfl; kernel_rfl; first | (apply Ok1.shr; exact rfl; exact rfl; omega; exact hn; exact hp) | (apply Ok1.shr; exact rfl; exact rfl; omega; exact Nat.le_of_ble_eq_true rfl; (first | exact pwE1 | exact pwE2 | exact pwE3 | exact pwE4 | exact pwE5 | exact pwE6 | exact pwE7 | exact pwE8 | exact pwE16 | exact pwE24 | exact pwE32 | exact rfl))) <;> (apply A.take 3; exact rfl; exact rfl; kernel_rfl; kernel_rfl; kernel_rfl; first | (apply Ok1.move; exact rfl)) <;> (apply A.take 4; exact rfl; exact rfl; kernel_rfl; kernel_rfl; kernel_rfl; first | (apply Ok1.move; exact rfl)) <;> (apply A.take 5; exact rfl; exact rfl; kernel_rfl; kernel_rfl; kernel_rfl; first | (apply Ok1.sub64; exact rfl; exact rfl; omega; omega)) <;> (apply A.take 6; exact rfl; exact rfl; kernel_rfl; kernel_rfl; kernel_rfl; first | (apply Ok1.shl; exact rfl; exact rfl; omega; exact hn2; exact hq)) <;> (apply A.take 7; exact rfl; exact rfl; kernel_rfl; kernel_rfl; kernel_rfl; first | (apply Ok1.orK; exact rfl; exact rfl)) <;> (apply A.take 8; exact rfl; exact rfl; kernel_rfl; kernel_rfl; kernel_rfl; first | (apply Ok1.assign; exact rfl)) <;> (apply A.done; kernel_rfl))) | apply T.seq | apply T.region | apply T.block | apply T.scope | apply T.label | apply T.skip | apply T.exit | apply T.ret | (apply T.cond_t; exact rfl) | (apply T.cond_f; exact rfl) | (apply T.cond_h; exact rfl; assumption) | (apply T.cond_n; exact rfl; assumption) | (apply T.cond rfl <;> intro)) | apply Rnd.step)
  (apply RetOk.t; exact rfl)
  unfold rotr
  rw [orI_comm]
  rfl
def tabV : List Value := u32s kI ++ h0I.v
theorem all_snoc (K : List Int) (i : Nat) (b : List Int) (s : H8) : allI K (i + 1) b s = mixI K ((b.drop (64 * i)).take 64) (allI K i b s) := by rw [allI_add K 1 i]; rfl
theorem pad_byt (n : Nat) : Byt (padI n) := by
  intro y hy
  rcases List.mem_cons.1 hy with rfl | hy
  · omega
  · rcases List.mem_append.1 hy with hy | hy
    · rw [List.eq_of_mem_replicate hy]; omega
    · simp only [lenI, List.mem_cons, List.not_mem_nil, or_false] at hy
      rcases hy with rfl | rfl | rfl | rfl | rfl | rfl | rfl | rfl <;> omega
theorem pad_len (n : Nat) : (padI n).length = 9 + (119 - n % 64) % 64 := by simp [padI, lenI]; omega
theorem w4 {a b c d : Int} (ha : 0 ≤ a ∧ a ≤ 255) (hb : 0 ≤ b ∧ b ≤ 255) (hc : 0 ≤ c ∧ c ≤ 255) (hd : 0 ≤ d ∧ d ≤ 255) : wr (wr (256 * wr (wr (256 * wr (wr (256 * wr (wr (256 * 0) + a)) + b)) + c)) + d) = wordI a b c d := by
  simp only [wr_mod, wordI]; omega
def cL : Code → Code | .seq a _ => a | c => c
def cR : Code → Code | .seq _ b => b | c => c
def cB : Code → Code | .block _ c => c | .loop c => c | c => c
def codeOf (f : Func) : Code := match f.body with | some c => c | none => .skip
def atY (c : Code) : Code := cB (cL (cR (cB (cB (cR (cL (cR (cR (cR (cR (cR (cR c))))))))))))
def atL4 (c : Code) : Code := cB (cR (cL (cR (atY c))))
def atL8 (c : Code) : Code := cB (cR (cL (cR (cR (cR (cR (cR (cR (cR (cR c))))))))))
def atL6 (c : Code) : Code := cB (cR (cL (cR (cR (cR (atY c))))))
theorem sum_loop4 (w : World) (bT bO bm bh bw M jm j : Nat) (km tv : List Value) (bb bk : List Int) (st : H8) (hlen : bb.length = 64 * M) (hbig : M ≤ 100000000) (hlt : j < M) (hbl : bk.length = 64) (hbb : Byt bk)
    (hgm : ∀ k, k < 64 → (u8s bb ++ km)[64 * j + k]? = some (.int .u8 (bk.getD k 0))) {Q : Post} {σ : Env} {L : Lst}
    (hs : Sub ([(2, .pointer (some ⟨bT, 0, none⟩)), (4, .pointer (some ⟨bO, 0, none⟩)), (5, .slice (some ⟨bm, 0, none⟩) (64 * M) (64 * M + jm)), (8, .pointer (some ⟨bh, 0, none⟩)), (9, .int .i64 (64 * (j : Int))), (10, .pointer (some ⟨bw, 0, none⟩)), (11, .int .i64 0)] : Env) σ) (hL : Keep L [(bw, .cells ⟨List.replicate 64 (.int .u32 0)⟩ 31 (0, 0)), (bh, .cells ⟨st.v⟩ 32 (0, 0)), (bm, .cells ⟨u8s bb ++ km⟩ 5 (0, 0)), (bT, .cells ⟨tv⟩ 34 (0, 0)), (bO, .cells ⟨List.replicate 32 (.int .u8 0)⟩ 123 (0, 0))])
    (hQ : ∀ σ' L', Sub ([(2, .pointer (some ⟨bT, 0, none⟩)), (4, .pointer (some ⟨bO, 0, none⟩)), (5, .slice (some ⟨bm, 0, none⟩) (64 * M) (64 * M + jm)), (8, .pointer (some ⟨bh, 0, none⟩)), (9, .int .i64 (64 * (j : Int))), (10, .pointer (some ⟨bw, 0, none⟩))] : Env) σ' → Keep L' [(bw, .cells ⟨u32s (schedI bk 64)⟩ 31 (0, 0)), (bh, .cells ⟨st.v⟩ 32 (0, 0)), (bm, .cells ⟨u8s bb ++ km⟩ 5 (0, 0)), (bT, .cells ⟨tv⟩ 34 (0, 0)), (bO, .cells ⟨List.replicate 32 (.int .u8 0)⟩ 123 (0, 0))] → Q (.exit 6) σ' L') :
    T ⟨Tryz.prog, tb, 266, w, []⟩ (atL4 (codeOf Tryz.f136)) Q σ L := by
  apply T.loopK (α := Nat) (I := fun i => i ≤ 64) (σi := fun i => [(2, .pointer (some ⟨bT, 0, none⟩)), (4, .pointer (some ⟨bO, 0, none⟩)), (5, .slice (some ⟨bm, 0, none⟩) (64 * M) (64 * M + jm)), (8, .pointer (some ⟨bh, 0, none⟩)), (9, .int .i64 (64 * (j : Int))), (10, .pointer (some ⟨bw, 0, none⟩)), (11, .int .i64 i)])
    (Li := fun i => [(bw, .cells ⟨u32s (schedI bk i) ++ List.replicate (64 - i) (.int .u32 0)⟩ 31 (0, 0)), (bh, .cells ⟨st.v⟩ 32 (0, 0)), (bm, .cells ⟨u8s bb ++ km⟩ 5 (0, 0)), (bT, .cells ⟨tv⟩ 34 (0, 0)), (bO, .cells ⟨List.replicate 32 (.int .u8 0)⟩ 123 (0, 0))]) (μ := fun i => 64 - i) (i0 := 0)
  · exact Nat.zero_le _
  · exact hs
  · exact hL
  · intro i hi
    have hsl := sched_len bk i
    have hnn : schedI bk (i + 1) = schedI bk i ++ [nextI bk (schedI bk i)] := rfl
    have hnx : nextI bk (schedI bk i) = nextI bk (schedI bk i) := rfl
    conv at hnx => rhs; unfold nextI
    rcases Nat.lt_or_ge i 64 with hlt2 | hge2
    · generalize schedI bk i = l at *
      obtain ⟨k, hk⟩ : ∃ k, 64 - i = k + 1 := ⟨63 - i, by omega⟩
      rw [hk]
      rcases Nat.lt_or_ge i 16 with h16 | h16
      · rw [if_pos (by omega), hsl] at hnx
        have hq := fun m (hm : m < 4) => hgm (4 * i + m) (by omega)
        have hr := fun m (hm : m < 4) => hbb (bk.getD (4 * i + m) 0) (by rw [List.getD_eq_getElem?_getD, List.getElem?_eq_getElem (by omega)]; exact List.getElem_mem _)
        have g0 : (u8s bb ++ km)[0 + (64 * (j : Int) + 4 * (i : Int) + 0).toNat * 1]? = some (.int .u8 (bk.getD (4 * i) 0)) := by rw [show 0 + (64 * (j : Int) + 4 * (i : Int) + 0).toNat * 1 = 64 * j + (4 * i + 0) by omega]; exact hq 0 (by decide)
        have g1 : (u8s bb ++ km)[0 + (64 * (j : Int) + 4 * (i : Int) + 1).toNat * 1]? = some (.int .u8 (bk.getD (4 * i + 1) 0)) := by rw [show 0 + (64 * (j : Int) + 4 * (i : Int) + 1).toNat * 1 = 64 * j + (4 * i + 1) by omega]; exact hq 1 (by decide)
        have g2 : (u8s bb ++ km)[0 + (64 * (j : Int) + 4 * (i : Int) + 2).toNat * 1]? = some (.int .u8 (bk.getD (4 * i + 2) 0)) := by rw [show 0 + (64 * (j : Int) + 4 * (i : Int) + 2).toNat * 1 = 64 * j + (4 * i + 2) by omega]; exact hq 2 (by decide)
        have g3 : (u8s bb ++ km)[0 + (64 * (j : Int) + 4 * (i : Int) + 3).toNat * 1]? = some (.int .u8 (bk.getD (4 * i + 3) 0)) := by rw [show 0 + (64 * (j : Int) + 4 * (i : Int) + 3).toNat * 1 = 64 * j + (4 * i + 3) by omega]; exact hq 3 (by decide)
        have r0 := hr 0 (by decide)
        have r1 := hr 1 (by decide)
        have r2 := hr 2 (by decide)
        have r3 := hr 3 (by decide)
        rw [Nat.add_zero] at r0
        have hw4 := w4 r0 r1 r2 r3
        clear hq hr hgm
        generalize bk.getD (4 * i) 0 = c0 at *
        generalize bk.getD (4 * i + 1) 0 = c1 at *
        generalize bk.getD (4 * i + 2) 0 = c2 at *
        generalize bk.getD (4 * i + 3) 0 = c3 at *
        have hgx : ∀ x : Int, (u32s l ++ .int .u32 x :: List.replicate k (.int .u32 0))[0 + (i : Int).toNat * 1]? = some (.int .u32 x) := by
          intro x
          rw [List.getElem?_append_right (by rw [u32s_len]; omega)]
          rw [show 0 + (i : Int).toNat * 1 - (u32s l).length = 0 by rw [u32s_len]; omega]
          rfl
        have hpx : ∀ x y : Int, setE (u32s l ++ .int .u32 x :: List.replicate k (.int .u32 0)) (0 + (i : Int).toNat * 1) [.int .u32 y] = some (u32s l ++ .int .u32 y :: List.replicate k (.int .u32 0)) := by
          intro x y
          have := setE_mid (u32s l) (vs := [.int .u32 y]) (junk := .int .u32 x :: List.replicate k (.int .u32 0)) (by simp)
          rw [show 0 + (i : Int).toNat * 1 = (u32s l).length by rw [u32s_len]; omega, this]
          simp
        rw [List.replicate_succ]
        repeat' (first | (apply R.is1; first | (apply R.isBin; first | (apply R.pure; exact rfl; first | (apply Ok1.mul32; exact rfl; exact rfl) | (apply Ok1.add32; exact rfl; exact rfl) | (apply Ok1.add64; exact rfl; exact rfl; omega; omega) | (apply Ok1.sub64; exact rfl; exact rfl; omega; omega) | (apply Ok1.lss_t; exact rfl; exact rfl; omega) | (apply Ok1.lss_f; exact rfl; exact rfl; omega) | (apply Ok1.neq_t; exact rfl; exact rfl; omega) | (apply Ok1.neq_f; exact rfl; exact rfl; omega) | (apply Ok1.mul64; exact rfl; exact rfl; omega; omega) | (apply Ok1.shr; exact rfl; exact rfl; omega; exact Nat.le_of_ble_eq_true rfl; (first | exact pwE1 | exact pwE2 | exact pwE3 | exact pwE4 | exact pwE5 | exact pwE6 | exact pwE7 | exact pwE8 | exact pwE16 | exact pwE24 | exact pwE32 | exact rfl)) | (apply Ok1.quo64; exact rfl; exact rfl; omega; omega; omega) | (apply Ok1.remN; exact rfl; exact rfl; omega; omega) | (apply Ok1.neqP; (iterate 5 exact rfl)) | (apply Ok1.neqM; (iterate 5 exact rfl)) | (apply Ok1.neqS; (iterate 5 exact rfl))) | (apply R.lss rfl rfl rfl <;> intro) | (apply R.neq rfl rfl rfl <;> intro) | (apply R.neqF; (iterate 8 exact rfl); all_goals intro)) | (apply R.isCall; first | (apply R.pure; exact rfl; first | (apply Ok1.lenS; (iterate 3 exact rfl)) | (apply Ok1.lenStr; (iterate 3 exact rfl)) | (apply Ok1.lenMm; (iterate 3 exact rfl); (focus ((repeat' (first | exact At.head | apply At.tail | apply At.right)); done))) | (apply Ok1.lenM_nil; (iterate 3 exact rfl)))) | (apply R.pure; exact rfl; first | (apply Ok1.load; exact rfl; apply Ld.own1; exact rfl; exact rfl; (focus ((repeat' (first | exact At.head | apply At.tail | apply At.right)); done)); first | exact hgx _ | exact g0 | exact g1 | exact g2 | exact g3) | (apply Ok1.convU32; (iterate 5 exact rfl); omega; omega) | (apply Ok1.move; exact rfl) | (apply Ok1.fieldAddr; (iterate 5 exact rfl)) | (apply Ok1.load; exact rfl; first | (apply Ld.own1; exact rfl; exact rfl; (focus ((repeat' (first | exact At.head | apply At.tail | apply At.right)); done)); exact rfl) | (apply Ld.ownk; exact rfl; exact rfl; (focus ((repeat' (first | exact At.head | apply At.tail | apply At.right)); done)); exact rfl) | (apply Ld.old1; exact rfl; exact rfl; assumption; (first | exact List.not_mem_nil | assumption)) | (apply Ld.blk1; exact rfl; exact rfl; assumption; (first | exact List.not_mem_nil | assumption); exact rfl) | (apply Ld.blkk; exact rfl; exact rfl; assumption; (first | exact List.not_mem_nil | assumption); exact rfl)) | (apply Ok1.assign; exact rfl) | (apply Ok1.indexAddr; (iterate 5 exact rfl); omega; omega) | (apply Ok1.indexAddrA; (iterate 5 exact rfl); omega; omega) | (apply Ok1.build; (iterate 5 exact rfl)) | (apply Ok1.buildA; (iterate 6 exact rfl)) | (apply Ok1.convI64; (iterate 5 exact rfl); omega; omega) | (apply Ok1.convU64; (iterate 5 exact rfl); omega; omega) | (apply Ok1.convU32; (iterate 5 exact rfl); omega; omega) | (apply Ok1.convU8; (iterate 5 exact rfl); omega; omega) | (apply Ok1.conv; (iterate 5 exact rfl))) | (apply R.box; (iterate 3 exact rfl); intro) | (apply R.alloc; (iterate 3 exact rfl); intro) | (apply R.buildSlice; (iterate 12 exact rfl); intro)) | (apply R.is0; first | (apply R.store; (iterate 6 exact rfl); (focus ((repeat' (first | exact Upd.head | apply Upd.tail | apply Upd.right)); done)); exact hpx _ _) | (apply R.store; (iterate 6 exact rfl); (focus ((repeat' (first | exact Upd.head | apply Upd.tail | apply Upd.right)); done)); exact rfl) | fail) | (apply R.isG; first | (apply R.guard_run; exact rfl; exact rfl) | (apply R.guard_not; (iterate 3 exact rfl)) | (apply R.guard_not0; exact rfl; exact rfl) | (apply R.guard_un; (iterate 3 exact rfl)) | (apply R.guard_un0; exact rfl; exact rfl) | (apply R.guard rfl rfl ?_ (fun h => ⟨rfl, ?_⟩) <;> try intro)) | apply R.nil | (apply T.is; first | apply T.rounds 5 | (apply T.drawC (id := 21) [2] (by decide); ((apply A.take 0; exact rfl; exact rfl; kernel_rfl; kernel_rfl; kernel_rfl; first | (apply Ok1.move; exact rfl)) <;> (apply A.take 1; exact rfl; exact rfl; kernel_rfl; kernel_rfl; kernel_rfl; first | (apply Ok1.move; exact rfl)) <;> (apply A.take 2; exact rfl; exact rfl; kernel_rfl; kernel_rfl; kernel_rfl; first | (apply Ok1.indexAddr; (iterate 5 exact rfl); omega; omega) | (apply Ok1.indexAddrA; (iterate 5 exact rfl); omega; omega)) <;> (apply A.take 5; exact rfl; exact rfl; kernel_rfl; kernel_rfl; kernel_rfl; first | (apply Ok1.move; exact rfl)) <;> (apply A.take 6; exact rfl; exact rfl; kernel_rfl; kernel_rfl; kernel_rfl; first | (apply Ok1.move; exact rfl)) <;> (apply A.take 7; exact rfl; exact rfl; kernel_rfl; kernel_rfl; kernel_rfl; first | (apply Ok1.move; exact rfl)) <;> (apply A.take 8; exact rfl; exact rfl; kernel_rfl; kernel_rfl; kernel_rfl; first | (apply Ok1.mul32; exact rfl; exact rfl) | (apply Ok1.mul64; exact rfl; exact rfl; omega; omega)) <;> (apply A.take 9; exact rfl; exact rfl; kernel_rfl; kernel_rfl; kernel_rfl; first | (apply Ok1.add32; exact rfl; exact rfl) | (apply Ok1.add64; exact rfl; exact rfl; omega; omega)) <;> (apply A.take 10; exact rfl; exact rfl; kernel_rfl; kernel_rfl; kernel_rfl; first | (apply Ok1.move; exact rfl)) <;> (apply A.take 11; exact rfl; exact rfl; kernel_rfl; kernel_rfl; kernel_rfl; first | (apply Ok1.add32; exact rfl; exact rfl) | (apply Ok1.add64; exact rfl; exact rfl; omega; omega)) <;> (apply A.take 12; exact rfl; exact rfl; kernel_rfl; kernel_rfl; kernel_rfl; first | (apply Ok1.indexAddr; (iterate 5 exact rfl); omega; omega) | (apply Ok1.indexAddrA; (iterate 5 exact rfl); omega; omega)) <;> (apply A.take 13; exact rfl; exact rfl; kernel_rfl; kernel_rfl; kernel_rfl; first | (apply Ok1.load; exact rfl; apply Ld.own1; exact rfl; exact rfl; (focus ((repeat' (first | exact At.head | apply At.tail | apply At.right)); done)); first | exact hgx _ | exact g0 | exact g1 | exact g2 | exact g3) | (apply Ok1.load; exact rfl; first | (apply Ld.own1; exact rfl; exact rfl; (focus ((repeat' (first | exact At.head | apply At.tail | apply At.right)); done)); exact rfl) | (apply Ld.ownk; exact rfl; exact rfl; (focus ((repeat' (first | exact At.head | apply At.tail | apply At.right)); done)); exact rfl) | (apply Ld.old1; exact rfl; exact rfl; assumption; (first | exact List.not_mem_nil | assumption)) | (apply Ld.blk1; exact rfl; exact rfl; assumption; (first | exact List.not_mem_nil | assumption); exact rfl) | (apply Ld.blkk; exact rfl; exact rfl; assumption; (first | exact List.not_mem_nil | assumption); exact rfl))) <;> (apply A.take 14; exact rfl; exact rfl; kernel_rfl; kernel_rfl; kernel_rfl; first | (apply Ok1.convU32; (iterate 5 exact rfl); omega; omega) | (apply Ok1.convI64; (iterate 5 exact rfl); omega; omega) | (apply Ok1.convU64; (iterate 5 exact rfl); omega; omega) | (apply Ok1.convU32; (iterate 5 exact rfl); omega; omega) | (apply Ok1.convU8; (iterate 5 exact rfl); omega; omega) | (apply Ok1.conv; (iterate 5 exact rfl))) <;> (apply A.one 3; kernel_rfl; exact rfl; ((first | (apply R.pure; exact rfl; first | (apply Ok1.load; exact rfl; apply Ld.own1; exact rfl; exact rfl; (focus ((repeat' (first | exact At.head | apply At.tail | apply At.right)); done)); first | exact hgx _ | exact g0 | exact g1 | exact g2 | exact g3) | (apply Ok1.load; exact rfl; first | (apply Ld.own1; exact rfl; exact rfl; (focus ((repeat' (first | exact At.head | apply At.tail | apply At.right)); done)); exact rfl) | (apply Ld.ownk; exact rfl; exact rfl; (focus ((repeat' (first | exact At.head | apply At.tail | apply At.right)); done)); exact rfl) | (apply Ld.old1; exact rfl; exact rfl; assumption; (first | exact List.not_mem_nil | assumption)) | (apply Ld.blk1; exact rfl; exact rfl; assumption; (first | exact List.not_mem_nil | assumption); exact rfl) | (apply Ld.blkk; exact rfl; exact rfl; assumption; (first | exact List.not_mem_nil | assumption); exact rfl))) | fail)); apply R.nil; refine ⟨?_, ?_⟩; (focus ((repeat' (first | exact trivial | (refine ⟨?_, ?_⟩; (focus ((repeat' (first | exact At.head | apply At.tail | apply At.right)); done)))))))) <;> (apply A.take 4; exact rfl; exact rfl; kernel_rfl; kernel_rfl; kernel_rfl; first | (apply Ok1.mul32; exact rfl; exact rfl) | (apply Ok1.mul64; exact rfl; exact rfl; omega; omega)) <;> (apply A.take 15; exact rfl; exact rfl; kernel_rfl; kernel_rfl; kernel_rfl; first | (apply Ok1.add32; exact rfl; exact rfl) | (apply Ok1.add64; exact rfl; exact rfl; omega; omega)) <;> (apply A.take 16; exact rfl; exact rfl; kernel_rfl; kernel_rfl; kernel_rfl; first | (apply Ok1.indexAddr; (iterate 5 exact rfl); omega; omega) | (apply Ok1.indexAddrA; (iterate 5 exact rfl); omega; omega)) <;> (apply A.one 17; kernel_rfl; exact rfl; ((first | (apply R.store; (iterate 6 exact rfl); (focus ((repeat' (first | exact Upd.head | apply Upd.tail | apply Upd.right)); done)); exact hpx _ _) | (apply R.store; (iterate 6 exact rfl); (focus ((repeat' (first | exact Upd.head | apply Upd.tail | apply Upd.right)); done)); exact rfl) | fail)); apply R.nil; refine ⟨?_, ?_⟩; (focus ((repeat' (first | exact trivial | (refine ⟨?_, ?_⟩; (focus ((repeat' (first | exact At.head | apply At.tail | apply At.right)); done)))))))) <;> (apply A.done; kernel_rfl))) | apply T.seq | apply T.region | apply T.block | apply T.scope | apply T.label | apply T.skip | apply T.exit | apply T.ret | (apply T.cond_t; exact rfl) | (apply T.cond_f; exact rfl) | (apply T.cond_h; exact rfl; assumption) | (apply T.cond_n; exact rfl; assumption) | (apply T.cond rfl <;> intro)) | apply Rnd.step)
        refine ⟨i + 1, by omega, by omega, ⟨rfl, rfl, rfl, rfl, rfl, rfl, rfl, trivial⟩, ?_⟩
        have hfin : u32s (l ++ [nextI bk l]) ++ List.replicate k (.int .u32 0) = u32s l ++ .int .u32 (wr (wr (256 * wr (wr (256 * wr (wr (256 * wr (wr (256 * 0) + c0)) + c1)) + c2)) + c3)) :: List.replicate k (.int .u32 0) := by rw [hw4, hnx, u32s_app, List.append_assoc]; rfl
        rw [hnn, show 64 - (i + 1) = k by omega, hfin]
        (focus ((repeat' (first | exact Keep.nil _ | exact Ext.one _ _ | exact Ext.here _ _ | exact Ext.all _ | apply Keep.cons | apply Keep.app | apply Keep.last | apply Ext.cons | apply Ext.app)); done))
      · rw [if_neg (by omega), hsl] at hnx
        have hput := fun x => arr_put l x (.int .u32 0) (k := k)
        rw [hsl] at hput
        have e15 : ((i : Int) - 15).toNat = i - 15 := by omega
        have e2 : ((i : Int) - 2).toNat = i - 2 := by omega
        have e16 : ((i : Int) - 16).toNat = i - 16 := by omega
        have e7 : ((i : Int) - 7).toNat = i - 7 := by omega
        have g15 : (u32s l ++ List.replicate (k + 1) (.int .u32 0))[0 + ((i : Int) - 15).toNat * 1]? = some (.int .u32 (l.getD (i - 15) 0)) := by rw [e15]; exact arr_get (by omega)
        have g2 : (u32s l ++ List.replicate (k + 1) (.int .u32 0))[0 + ((i : Int) - 2).toNat * 1]? = some (.int .u32 (l.getD (i - 2) 0)) := by rw [e2]; exact arr_get (by omega)
        have g16 : (u32s l ++ List.replicate (k + 1) (.int .u32 0))[0 + ((i : Int) - 16).toNat * 1]? = some (.int .u32 (l.getD (i - 16) 0)) := by rw [e16]; exact arr_get (by omega)
        have g7 : (u32s l ++ List.replicate (k + 1) (.int .u32 0))[0 + ((i : Int) - 7).toNat * 1]? = some (.int .u32 (l.getD (i - 7) 0)) := by rw [e7]; exact arr_get (by omega)
        generalize l.getD (i - 15) 0 = x15 at *
        generalize l.getD (i - 2) 0 = x2 at *
        generalize l.getD (i - 16) 0 = x16 at *
        generalize l.getD (i - 7) 0 = x7 at *
        repeat' (first | (apply R.is1; first | (apply R.isBin; first | (apply R.pure; exact rfl; first | (apply Ok1.xorK; exact rfl; exact rfl) | (apply Ok1.add32; exact rfl; exact rfl) | (apply Ok1.add64; exact rfl; exact rfl; omega; omega) | (apply Ok1.sub64; exact rfl; exact rfl; omega; omega) | (apply Ok1.lss_t; exact rfl; exact rfl; omega) | (apply Ok1.lss_f; exact rfl; exact rfl; omega) | (apply Ok1.neq_t; exact rfl; exact rfl; omega) | (apply Ok1.neq_f; exact rfl; exact rfl; omega) | (apply Ok1.mul64; exact rfl; exact rfl; omega; omega) | (apply Ok1.shr; exact rfl; exact rfl; omega; exact Nat.le_of_ble_eq_true rfl; (first | exact pwE1 | exact pwE2 | exact pwE3 | exact pwE4 | exact pwE5 | exact pwE6 | exact pwE7 | exact pwE8 | exact pwE16 | exact pwE24 | exact pwE32 | exact rfl)) | (apply Ok1.quo64; exact rfl; exact rfl; omega; omega; omega) | (apply Ok1.remN; exact rfl; exact rfl; omega; omega) | (apply Ok1.neqP; (iterate 5 exact rfl)) | (apply Ok1.neqM; (iterate 5 exact rfl)) | (apply Ok1.neqS; (iterate 5 exact rfl))) | (apply R.lss rfl rfl rfl <;> intro) | (apply R.neq rfl rfl rfl <;> intro) | (apply R.neqF; (iterate 8 exact rfl); all_goals intro)) | (apply R.isCall; first | (apply R.pure; exact rfl; first | (apply Ok1.lenS; (iterate 3 exact rfl)) | (apply Ok1.lenStr; (iterate 3 exact rfl)) | (apply Ok1.lenMm; (iterate 3 exact rfl); (focus ((repeat' (first | exact At.head | apply At.tail | apply At.right)); done))) | (apply Ok1.lenM_nil; (iterate 3 exact rfl)))) | (apply R.pure; exact rfl; first | (apply Ok1.load; exact rfl; apply Ld.own1; exact rfl; exact rfl; (focus ((repeat' (first | exact At.head | apply At.tail | apply At.right)); done)); with_reducible (first | exact g15 | exact g2 | exact g16 | exact g7)) | (apply Ok1.move; exact rfl) | (apply Ok1.fieldAddr; (iterate 5 exact rfl)) | (apply Ok1.load; exact rfl; first | (apply Ld.own1; exact rfl; exact rfl; (focus ((repeat' (first | exact At.head | apply At.tail | apply At.right)); done)); exact rfl) | (apply Ld.ownk; exact rfl; exact rfl; (focus ((repeat' (first | exact At.head | apply At.tail | apply At.right)); done)); exact rfl) | (apply Ld.old1; exact rfl; exact rfl; assumption; (first | exact List.not_mem_nil | assumption)) | (apply Ld.blk1; exact rfl; exact rfl; assumption; (first | exact List.not_mem_nil | assumption); exact rfl) | (apply Ld.blkk; exact rfl; exact rfl; assumption; (first | exact List.not_mem_nil | assumption); exact rfl)) | (apply Ok1.assign; exact rfl) | (apply Ok1.indexAddr; (iterate 5 exact rfl); omega; omega) | (apply Ok1.indexAddrA; (iterate 5 exact rfl); omega; omega) | (apply Ok1.build; (iterate 5 exact rfl)) | (apply Ok1.buildA; (iterate 6 exact rfl)) | (apply Ok1.convI64; (iterate 5 exact rfl); omega; omega) | (apply Ok1.convU64; (iterate 5 exact rfl); omega; omega) | (apply Ok1.convU32; (iterate 5 exact rfl); omega; omega) | (apply Ok1.convU8; (iterate 5 exact rfl); omega; omega) | (apply Ok1.conv; (iterate 5 exact rfl))) | (apply R.box; (iterate 3 exact rfl); intro) | (apply R.alloc; (iterate 3 exact rfl); intro) | (apply R.buildSlice; (iterate 12 exact rfl); intro)) | (apply R.is0; first | (apply R.store; (iterate 6 exact rfl); (focus ((repeat' (first | exact Upd.head | apply Upd.tail | apply Upd.right)); done)); exact hput _) | (apply R.store; (iterate 6 exact rfl); (focus ((repeat' (first | exact Upd.head | apply Upd.tail | apply Upd.right)); done)); exact rfl) | fail) | (apply R.isG; first | (apply R.guard_run; exact rfl; exact rfl) | (apply R.guard_not; (iterate 3 exact rfl)) | (apply R.guard_not0; exact rfl; exact rfl) | (apply R.guard_un; (iterate 3 exact rfl)) | (apply R.guard_un0; exact rfl; exact rfl) | (apply R.guard rfl rfl ?_ (fun h => ⟨rfl, ?_⟩) <;> try intro)) | apply R.nil | (apply T.is; first | (apply T.drawC (id := 22) [0] (by decide); ((apply A.take 0; exact rfl; exact rfl; kernel_rfl; kernel_rfl; kernel_rfl; first | (apply Ok1.move; exact rfl)) <;> (apply A.take 1; exact rfl; exact rfl; kernel_rfl; kernel_rfl; kernel_rfl; first | (apply Ok1.sub64; exact rfl; exact rfl; omega; omega)) <;> (apply A.take 2; exact rfl; exact rfl; kernel_rfl; kernel_rfl; kernel_rfl; first | (apply Ok1.indexAddr; (iterate 5 exact rfl); omega; omega) | (apply Ok1.indexAddrA; (iterate 5 exact rfl); omega; omega)) <;> (apply A.take 3; exact rfl; exact rfl; kernel_rfl; kernel_rfl; kernel_rfl; first | (apply Ok1.load; exact rfl; apply Ld.own1; exact rfl; exact rfl; (focus ((repeat' (first | exact At.head | apply At.tail | apply At.right)); done)); with_reducible (first | exact g15 | exact g2 | exact g16 | exact g7)) | (apply Ok1.load; exact rfl; first | (apply Ld.own1; exact rfl; exact rfl; (focus ((repeat' (first | exact At.head | apply At.tail | apply At.right)); done)); exact rfl) | (apply Ld.ownk; exact rfl; exact rfl; (focus ((repeat' (first | exact At.head | apply At.tail | apply At.right)); done)); exact rfl) | (apply Ld.old1; exact rfl; exact rfl; assumption; (first | exact List.not_mem_nil | assumption)) | (apply Ld.blk1; exact rfl; exact rfl; assumption; (first | exact List.not_mem_nil | assumption); exact rfl) | (apply Ld.blkk; exact rfl; exact rfl; assumption; (first | exact List.not_mem_nil | assumption); exact rfl))) <;> (apply A.call 4; exact rfl; exact rfl; kernel_rfl; kernel_rfl; kernel_rfl; exact rfl; exact rfl; first | (exact fun w1 _ => (right1_ok x15 7 128 33554432 (by decide) (by decide) rfl rfl).w w1) | (exact fun w1 _ => (right1_ok x15 18 262144 16384 (by decide) (by decide) rfl rfl).w w1) | (exact fun w1 _ => (right1_ok x2 17 131072 32768 (by decide) (by decide) rfl rfl).w w1) | (exact fun w1 _ => (right1_ok x2 19 524288 8192 (by decide) (by decide) rfl rfl).w w1)) <;> (apply A.take 5; exact rfl; exact rfl; kernel_rfl; kernel_rfl; kernel_rfl; first | (apply Ok1.move; exact rfl)) <;> (apply A.take 6; exact rfl; exact rfl; kernel_rfl; kernel_rfl; kernel_rfl; first | (apply Ok1.sub64; exact rfl; exact rfl; omega; omega)) <;> (apply A.take 7; exact rfl; exact rfl; kernel_rfl; kernel_rfl; kernel_rfl; first | (apply Ok1.indexAddr; (iterate 5 exact rfl); omega; omega) | (apply Ok1.indexAddrA; (iterate 5 exact rfl); omega; omega)) <;> (apply A.take 8; exact rfl; exact rfl; kernel_rfl; kernel_rfl; kernel_rfl; first | (apply Ok1.load; exact rfl; apply Ld.own1; exact rfl; exact rfl; (focus ((repeat' (first | exact At.head | apply At.tail | apply At.right)); done)); with_reducible (first | exact g15 | exact g2 | exact g16 | exact g7)) | (apply Ok1.load; exact rfl; first | (apply Ld.own1; exact rfl; exact rfl; (focus ((repeat' (first | exact At.head | apply At.tail | apply At.right)); done)); exact rfl) | (apply Ld.ownk; exact rfl; exact rfl; (focus ((repeat' (first | exact At.head | apply At.tail | apply At.right)); done)); exact rfl) | (apply Ld.old1; exact rfl; exact rfl; assumption; (first | exact List.not_mem_nil | assumption)) | (apply Ld.blk1; exact rfl; exact rfl; assumption; (first | exact List.not_mem_nil | assumption); exact rfl) | (apply Ld.blkk; exact rfl; exact rfl; assumption; (first | exact List.not_mem_nil | assumption); exact rfl))) <;> (apply A.call 9; exact rfl; exact rfl; kernel_rfl; kernel_rfl; kernel_rfl; exact rfl; exact rfl; first | (exact fun w1 _ => (right1_ok x15 7 128 33554432 (by decide) (by decide) rfl rfl).w w1) | (exact fun w1 _ => (right1_ok x15 18 262144 16384 (by decide) (by decide) rfl rfl).w w1) | (exact fun w1 _ => (right1_ok x2 17 131072 32768 (by decide) (by decide) rfl rfl).w w1) | (exact fun w1 _ => (right1_ok x2 19 524288 8192 (by decide) (by decide) rfl rfl).w w1)) <;> (apply A.take 10; exact rfl; exact rfl; kernel_rfl; kernel_rfl; kernel_rfl; first | (apply Ok1.xorK; exact rfl; exact rfl)) <;> (apply A.take 11; exact rfl; exact rfl; kernel_rfl; kernel_rfl; kernel_rfl; first | (apply Ok1.move; exact rfl)) <;> (apply A.take 12; exact rfl; exact rfl; kernel_rfl; kernel_rfl; kernel_rfl; first | (apply Ok1.sub64; exact rfl; exact rfl; omega; omega)) <;> (apply A.take 13; exact rfl; exact rfl; kernel_rfl; kernel_rfl; kernel_rfl; first | (apply Ok1.indexAddr; (iterate 5 exact rfl); omega; omega) | (apply Ok1.indexAddrA; (iterate 5 exact rfl); omega; omega)) <;> (apply A.take 14; exact rfl; exact rfl; kernel_rfl; kernel_rfl; kernel_rfl; first | (apply Ok1.load; exact rfl; apply Ld.own1; exact rfl; exact rfl; (focus ((repeat' (first | exact At.head | apply At.tail | apply At.right)); done)); with_reducible (first | exact g15 | exact g2 | exact g16 | exact g7)) | (apply Ok1.load; exact rfl; first | (apply Ld.own1; exact rfl; exact rfl; (focus ((repeat' (first | exact At.head | apply At.tail | apply At.right)); done)); exact rfl) | (apply Ld.ownk; exact rfl; exact rfl; (focus ((repeat' (first | exact At.head | apply At.tail | apply At.right)); done)); exact rfl) | (apply Ld.old1; exact rfl; exact rfl; assumption; (first | exact List.not_mem_nil | assumption)) | (apply Ld.blk1; exact rfl; exact rfl; assumption; (first | exact List.not_mem_nil | assumption); exact rfl) | (apply Ld.blkk; exact rfl; exact rfl; assumption; (first | exact List.not_mem_nil | assumption); exact rfl))) <;> (apply A.take 15; exact rfl; exact rfl; kernel_rfl; kernel_rfl; kernel_rfl; first | (apply Ok1.shr; exact rfl; exact rfl; omega; exact Nat.le_of_ble_eq_true rfl; (first | exact pwE1 | exact pwE2 | exact pwE3 | exact pwE4 | exact pwE5 | exact pwE6 | exact pwE7 | exact pwE8 | exact pwE16 | exact pwE24 | exact pwE32 | exact rfl))) <;> (apply A.take 16; exact rfl; exact rfl; kernel_rfl; kernel_rfl; kernel_rfl; first | (apply Ok1.xorK; exact rfl; exact rfl)) <;> (apply A.take 17; exact rfl; exact rfl; kernel_rfl; kernel_rfl; kernel_rfl; first | (apply Ok1.assign; exact rfl)) <;> (apply A.done; kernel_rfl))) | (apply T.drawC (id := 23) [0] (by decide); ((apply A.take 0; exact rfl; exact rfl; kernel_rfl; kernel_rfl; kernel_rfl; first | (apply Ok1.move; exact rfl)) <;> (apply A.take 1; exact rfl; exact rfl; kernel_rfl; kernel_rfl; kernel_rfl; first | (apply Ok1.sub64; exact rfl; exact rfl; omega; omega)) <;> (apply A.take 2; exact rfl; exact rfl; kernel_rfl; kernel_rfl; kernel_rfl; first | (apply Ok1.indexAddr; (iterate 5 exact rfl); omega; omega) | (apply Ok1.indexAddrA; (iterate 5 exact rfl); omega; omega)) <;> (apply A.take 3; exact rfl; exact rfl; kernel_rfl; kernel_rfl; kernel_rfl; first | (apply Ok1.load; exact rfl; apply Ld.own1; exact rfl; exact rfl; (focus ((repeat' (first | exact At.head | apply At.tail | apply At.right)); done)); with_reducible (first | exact g15 | exact g2 | exact g16 | exact g7)) | (apply Ok1.load; exact rfl; first | (apply Ld.own1; exact rfl; exact rfl; (focus ((repeat' (first | exact At.head | apply At.tail | apply At.right)); done)); exact rfl) | (apply Ld.ownk; exact rfl; exact rfl; (focus ((repeat' (first | exact At.head | apply At.tail | apply At.right)); done)); exact rfl) | (apply Ld.old1; exact rfl; exact rfl; assumption; (first | exact List.not_mem_nil | assumption)) | (apply Ld.blk1; exact rfl; exact rfl; assumption; (first | exact List.not_mem_nil | assumption); exact rfl) | (apply Ld.blkk; exact rfl; exact rfl; assumption; (first | exact List.not_mem_nil | assumption); exact rfl))) <;> (apply A.call 4; exact rfl; exact rfl; kernel_rfl; kernel_rfl; kernel_rfl; exact rfl; exact rfl; first | (exact fun w1 _ => (right1_ok x15 7 128 33554432 (by decide) (by decide) rfl rfl).w w1) | (exact fun w1 _ => (right1_ok x15 18 262144 16384 (by decide) (by decide) rfl rfl).w w1) | (exact fun w1 _ => (right1_ok x2 17 131072 32768 (by decide) (by decide) rfl rfl).w w1) | (exact fun w1 _ => (right1_ok x2 19 524288 8192 (by decide) (by decide) rfl rfl).w w1)) <;> (apply A.take 5; exact rfl; exact rfl; kernel_rfl; kernel_rfl; kernel_rfl; first | (apply Ok1.move; exact rfl)) <;> (apply A.take 6; exact rfl; exact rfl; kernel_rfl; kernel_rfl; kernel_rfl; first | (apply Ok1.sub64; exact rfl; exact rfl; omega; omega)) <;> (apply A.take 7; exact rfl; exact rfl; kernel_rfl; kernel_rfl; kernel_rfl; first | (apply Ok1.indexAddr; (iterate 5 exact rfl); omega; omega) | (apply Ok1.indexAddrA; (iterate 5 exact rfl); omega; omega)) <;> (apply A.take 8; exact rfl; exact rfl; kernel_rfl; kernel_rfl; kernel_rfl; first | (apply Ok1.load; exact rfl; apply Ld.own1; exact rfl; exact rfl; (focus ((repeat' (first | exact At.head | apply At.tail | apply At.right)); done)); with_reducible (first | exact g15 | exact g2 | exact g16 | exact g7)) | (apply Ok1.load; exact rfl; first | (apply Ld.own1; exact rfl; exact rfl; (focus ((repeat' (first | exact At.head | apply At.tail | apply At.right)); done)); exact rfl) | (apply Ld.ownk; exact rfl; exact rfl; (focus ((repeat' (first | exact At.head | apply At.tail | apply At.right)); done)); exact rfl) | (apply Ld.old1; exact rfl; exact rfl; assumption; (first | exact List.not_mem_nil | assumption)) | (apply Ld.blk1; exact rfl; exact rfl; assumption; (first | exact List.not_mem_nil | assumption); exact rfl) | (apply Ld.blkk; exact rfl; exact rfl; assumption; (first | exact List.not_mem_nil | assumption); exact rfl))) <;> (apply A.call 9; exact rfl; exact rfl; kernel_rfl; kernel_rfl; kernel_rfl; exact rfl; exact rfl; first | (exact fun w1 _ => (right1_ok x15 7 128 33554432 (by decide) (by decide) rfl rfl).w w1) | (exact fun w1 _ => (right1_ok x15 18 262144 16384 (by decide) (by decide) rfl rfl).w w1) | (exact fun w1 _ => (right1_ok x2 17 131072 32768 (by decide) (by decide) rfl rfl).w w1) | (exact fun w1 _ => (right1_ok x2 19 524288 8192 (by decide) (by decide) rfl rfl).w w1)) <;> (apply A.take 10; exact rfl; exact rfl; kernel_rfl; kernel_rfl; kernel_rfl; first | (apply Ok1.xorK; exact rfl; exact rfl)) <;> (apply A.take 11; exact rfl; exact rfl; kernel_rfl; kernel_rfl; kernel_rfl; first | (apply Ok1.move; exact rfl)) <;> (apply A.take 12; exact rfl; exact rfl; kernel_rfl; kernel_rfl; kernel_rfl; first | (apply Ok1.sub64; exact rfl; exact rfl; omega; omega)) <;> (apply A.take 13; exact rfl; exact rfl; kernel_rfl; kernel_rfl; kernel_rfl; first | (apply Ok1.indexAddr; (iterate 5 exact rfl); omega; omega) | (apply Ok1.indexAddrA; (iterate 5 exact rfl); omega; omega)) <;> (apply A.take 14; exact rfl; exact rfl; kernel_rfl; kernel_rfl; kernel_rfl; first | (apply Ok1.load; exact rfl; apply Ld.own1; exact rfl; exact rfl; (focus ((repeat' (first | exact At.head | apply At.tail | apply At.right)); done)); with_reducible (first | exact g15 | exact g2 | exact g16 | exact g7)) | (apply Ok1.load; exact rfl; first | (apply Ld.own1; exact rfl; exact rfl; (focus ((repeat' (first | exact At.head | apply At.tail | apply At.right)); done)); exact rfl) | (apply Ld.ownk; exact rfl; exact rfl; (focus ((repeat' (first | exact At.head | apply At.tail | apply At.right)); done)); exact rfl) | (apply Ld.old1; exact rfl; exact rfl; assumption; (first | exact List.not_mem_nil | assumption)) | (apply Ld.blk1; exact rfl; exact rfl; assumption; (first | exact List.not_mem_nil | assumption); exact rfl) | (apply Ld.blkk; exact rfl; exact rfl; assumption; (first | exact List.not_mem_nil | assumption); exact rfl))) <;> (apply A.take 15; exact rfl; exact rfl; kernel_rfl; kernel_rfl; kernel_rfl; first | (apply Ok1.shr; exact rfl; exact rfl; omega; exact Nat.le_of_ble_eq_true rfl; (first | exact pwE1 | exact pwE2 | exact pwE3 | exact pwE4 | exact pwE5 | exact pwE6 | exact pwE7 | exact pwE8 | exact pwE16 | exact pwE24 | exact pwE32 | exact rfl))) <;> (apply A.take 16; exact rfl; exact rfl; kernel_rfl; kernel_rfl; kernel_rfl; first | (apply Ok1.xorK; exact rfl; exact rfl)) <;> (apply A.take 17; exact rfl; exact rfl; kernel_rfl; kernel_rfl; kernel_rfl; first | (apply Ok1.assign; exact rfl)) <;> (apply A.done; kernel_rfl))) | (apply T.drawC (id := 24) [] (by decide); ((apply A.take 0; exact rfl; exact rfl; kernel_rfl; kernel_rfl; kernel_rfl; first | (apply Ok1.move; exact rfl)) <;> (apply A.take 1; exact rfl; exact rfl; kernel_rfl; kernel_rfl; kernel_rfl; first | (apply Ok1.move; exact rfl)) <;> (apply A.take 2; exact rfl; exact rfl; kernel_rfl; kernel_rfl; kernel_rfl; first | (apply Ok1.sub64; exact rfl; exact rfl; omega; omega)) <;> (apply A.take 3; exact rfl; exact rfl; kernel_rfl; kernel_rfl; kernel_rfl; first | (apply Ok1.indexAddr; (iterate 5 exact rfl); omega; omega) | (apply Ok1.indexAddrA; (iterate 5 exact rfl); omega; omega)) <;> (apply A.take 5; exact rfl; exact rfl; kernel_rfl; kernel_rfl; kernel_rfl; first | (apply Ok1.move; exact rfl)) <;> (apply A.take 7; exact rfl; exact rfl; kernel_rfl; kernel_rfl; kernel_rfl; first | (apply Ok1.move; exact rfl)) <;> (apply A.take 8; exact rfl; exact rfl; kernel_rfl; kernel_rfl; kernel_rfl; first | (apply Ok1.sub64; exact rfl; exact rfl; omega; omega)) <;> (apply A.take 9; exact rfl; exact rfl; kernel_rfl; kernel_rfl; kernel_rfl; first | (apply Ok1.indexAddr; (iterate 5 exact rfl); omega; omega) | (apply Ok1.indexAddrA; (iterate 5 exact rfl); omega; omega)) <;> (apply A.take 12; exact rfl; exact rfl; kernel_rfl; kernel_rfl; kernel_rfl; first | (apply Ok1.move; exact rfl)) <;> (apply A.two 4 10; kernel_rfl; exact rfl; exact rfl; rotate_left 1; (focus ((((first | (apply R.pure; exact rfl; first | (apply Ok1.load; exact rfl; apply Ld.own1; exact rfl; exact rfl; (focus ((repeat' (first | exact At.head | apply At.tail | apply At.right)); done)); with_reducible (first | exact g15 | exact g2 | exact g16 | exact g7)) | (apply Ok1.load; exact rfl; first | (apply Ld.own1; exact rfl; exact rfl; (focus ((repeat' (first | exact At.head | apply At.tail | apply At.right)); done)); exact rfl) | (apply Ld.ownk; exact rfl; exact rfl; (focus ((repeat' (first | exact At.head | apply At.tail | apply At.right)); done)); exact rfl) | (apply Ld.old1; exact rfl; exact rfl; assumption; (first | exact List.not_mem_nil | assumption)) | (apply Ld.blk1; exact rfl; exact rfl; assumption; (first | exact List.not_mem_nil | assumption); exact rfl) | (apply Ld.blkk; exact rfl; exact rfl; assumption; (first | exact List.not_mem_nil | assumption); exact rfl))) | fail)); apply R.nil; refine ⟨?_, ?_⟩; (focus ((repeat' (first | exact trivial | (refine ⟨?_, ?_⟩; (focus ((repeat' (first | exact At.head | apply At.tail | apply At.right)); done)))))))) <;> (apply A.one 4; kernel_rfl; exact rfl; ((first | (apply R.pure; exact rfl; first | (apply Ok1.load; exact rfl; apply Ld.own1; exact rfl; exact rfl; (focus ((repeat' (first | exact At.head | apply At.tail | apply At.right)); done)); with_reducible (first | exact g15 | exact g2 | exact g16 | exact g7)) | (apply Ok1.load; exact rfl; first | (apply Ld.own1; exact rfl; exact rfl; (focus ((repeat' (first | exact At.head | apply At.tail | apply At.right)); done)); exact rfl) | (apply Ld.ownk; exact rfl; exact rfl; (focus ((repeat' (first | exact At.head | apply At.tail | apply At.right)); done)); exact rfl) | (apply Ld.old1; exact rfl; exact rfl; assumption; (first | exact List.not_mem_nil | assumption)) | (apply Ld.blk1; exact rfl; exact rfl; assumption; (first | exact List.not_mem_nil | assumption); exact rfl) | (apply Ld.blkk; exact rfl; exact rfl; assumption; (first | exact List.not_mem_nil | assumption); exact rfl))) | fail)); apply R.nil; refine ⟨?_, ?_⟩; (focus ((repeat' (first | exact trivial | (refine ⟨?_, ?_⟩; (focus ((repeat' (first | exact At.head | apply At.tail | apply At.right)); done)))))))) <;> (apply A.take 6; exact rfl; exact rfl; kernel_rfl; kernel_rfl; kernel_rfl; first | (apply Ok1.add32; exact rfl; exact rfl) | (apply Ok1.add64; exact rfl; exact rfl; omega; omega)) <;> (apply A.take 11; exact rfl; exact rfl; kernel_rfl; kernel_rfl; kernel_rfl; first | (apply Ok1.add32; exact rfl; exact rfl) | (apply Ok1.add64; exact rfl; exact rfl; omega; omega)) <;> (apply A.take 13; exact rfl; exact rfl; kernel_rfl; kernel_rfl; kernel_rfl; first | (apply Ok1.add32; exact rfl; exact rfl) | (apply Ok1.add64; exact rfl; exact rfl; omega; omega)) <;> (apply A.take 14; exact rfl; exact rfl; kernel_rfl; kernel_rfl; kernel_rfl; first | (apply Ok1.indexAddr; (iterate 5 exact rfl); omega; omega) | (apply Ok1.indexAddrA; (iterate 5 exact rfl); omega; omega)) <;> (apply A.one 15; kernel_rfl; exact rfl; ((first | (apply R.store; (iterate 6 exact rfl); (focus ((repeat' (first | exact Upd.head | apply Upd.tail | apply Upd.right)); done)); exact hput _) | (apply R.store; (iterate 6 exact rfl); (focus ((repeat' (first | exact Upd.head | apply Upd.tail | apply Upd.right)); done)); exact rfl) | fail)); apply R.nil; refine ⟨?_, ?_⟩; (focus ((repeat' (first | exact trivial | (refine ⟨?_, ?_⟩; (focus ((repeat' (first | exact At.head | apply At.tail | apply At.right)); done)))))))) <;> (apply A.done; kernel_rfl))); rotate_right 1; (focus ((((first | (apply R.pure; exact rfl; first | (apply Ok1.load; exact rfl; apply Ld.own1; exact rfl; exact rfl; (focus ((repeat' (first | exact At.head | apply At.tail | apply At.right)); done)); with_reducible (first | exact g15 | exact g2 | exact g16 | exact g7)) | (apply Ok1.load; exact rfl; first | (apply Ld.own1; exact rfl; exact rfl; (focus ((repeat' (first | exact At.head | apply At.tail | apply At.right)); done)); exact rfl) | (apply Ld.ownk; exact rfl; exact rfl; (focus ((repeat' (first | exact At.head | apply At.tail | apply At.right)); done)); exact rfl) | (apply Ld.old1; exact rfl; exact rfl; assumption; (first | exact List.not_mem_nil | assumption)) | (apply Ld.blk1; exact rfl; exact rfl; assumption; (first | exact List.not_mem_nil | assumption); exact rfl) | (apply Ld.blkk; exact rfl; exact rfl; assumption; (first | exact List.not_mem_nil | assumption); exact rfl))) | fail)); apply R.nil; refine ⟨?_, ?_⟩; (focus ((repeat' (first | exact trivial | (refine ⟨?_, ?_⟩; (focus ((repeat' (first | exact At.head | apply At.tail | apply At.right)); done)))))))) <;> (apply A.take 6; exact rfl; exact rfl; kernel_rfl; kernel_rfl; kernel_rfl; first | (apply Ok1.add32; exact rfl; exact rfl) | (apply Ok1.add64; exact rfl; exact rfl; omega; omega)) <;> (apply A.one 10; kernel_rfl; exact rfl; ((first | (apply R.pure; exact rfl; first | (apply Ok1.load; exact rfl; apply Ld.own1; exact rfl; exact rfl; (focus ((repeat' (first | exact At.head | apply At.tail | apply At.right)); done)); with_reducible (first | exact g15 | exact g2 | exact g16 | exact g7)) | (apply Ok1.load; exact rfl; first | (apply Ld.own1; exact rfl; exact rfl; (focus ((repeat' (first | exact At.head | apply At.tail | apply At.right)); done)); exact rfl) | (apply Ld.ownk; exact rfl; exact rfl; (focus ((repeat' (first | exact At.head | apply At.tail | apply At.right)); done)); exact rfl) | (apply Ld.old1; exact rfl; exact rfl; assumption; (first | exact List.not_mem_nil | assumption)) | (apply Ld.blk1; exact rfl; exact rfl; assumption; (first | exact List.not_mem_nil | assumption); exact rfl) | (apply Ld.blkk; exact rfl; exact rfl; assumption; (first | exact List.not_mem_nil | assumption); exact rfl))) | fail)); apply R.nil; refine ⟨?_, ?_⟩; (focus ((repeat' (first | exact trivial | (refine ⟨?_, ?_⟩; (focus ((repeat' (first | exact At.head | apply At.tail | apply At.right)); done)))))))) <;> (apply A.take 11; exact rfl; exact rfl; kernel_rfl; kernel_rfl; kernel_rfl; first | (apply Ok1.add32; exact rfl; exact rfl) | (apply Ok1.add64; exact rfl; exact rfl; omega; omega)) <;> (apply A.take 13; exact rfl; exact rfl; kernel_rfl; kernel_rfl; kernel_rfl; first | (apply Ok1.add32; exact rfl; exact rfl) | (apply Ok1.add64; exact rfl; exact rfl; omega; omega)) <;> (apply A.take 14; exact rfl; exact rfl; kernel_rfl; kernel_rfl; kernel_rfl; first | (apply Ok1.indexAddr; (iterate 5 exact rfl); omega; omega) | (apply Ok1.indexAddrA; (iterate 5 exact rfl); omega; omega)) <;> (apply A.one 15; kernel_rfl; exact rfl; ((first | (apply R.store; (iterate 6 exact rfl); (focus ((repeat' (first | exact Upd.head | apply Upd.tail | apply Upd.right)); done)); exact hput _) | (apply R.store; (iterate 6 exact rfl); (focus ((repeat' (first | exact Upd.head | apply Upd.tail | apply Upd.right)); done)); exact rfl) | fail)); apply R.nil; refine ⟨?_, ?_⟩; (focus ((repeat' (first | exact trivial | (refine ⟨?_, ?_⟩; (focus ((repeat' (first | exact At.head | apply At.tail | apply At.right)); done)))))))) <;> (apply A.done; kernel_rfl)))))) | apply T.seq | apply T.region | apply T.block | apply T.scope | apply T.label | apply T.skip | apply T.exit | apply T.ret | (apply T.cond_t; exact rfl) | (apply T.cond_f; exact rfl) | (apply T.cond_h; exact rfl; assumption) | (apply T.cond_n; exact rfl; assumption) | (apply T.cond rfl <;> intro)) | apply Rnd.step)
        all_goals refine ⟨i + 1, by omega, by omega, ⟨rfl, rfl, rfl, rfl, rfl, rfl, rfl, trivial⟩, ?_⟩
        all_goals rw [hnn, hnx, show 64 - (i + 1) = k by omega]
        all_goals (focus ((repeat' (first | exact Keep.nil _ | exact Ext.one _ _ | exact Ext.here _ _ | exact Ext.all _ | apply Keep.cons | apply Keep.app | apply Keep.last | apply Ext.cons | apply Ext.app)); done))
    · have him : i = 64 := by omega
      subst him
      rw [Nat.sub_self, List.replicate_zero, List.append_nil]
      repeat' (first | (apply R.is1; first | (apply R.isBin; first | (apply R.pure; exact rfl; first | (apply Ok1.add64; exact rfl; exact rfl; omega; omega) | (apply Ok1.sub64; exact rfl; exact rfl; omega; omega) | (apply Ok1.lss_t; exact rfl; exact rfl; omega) | (apply Ok1.lss_f; exact rfl; exact rfl; omega) | (apply Ok1.neq_t; exact rfl; exact rfl; omega) | (apply Ok1.neq_f; exact rfl; exact rfl; omega) | (apply Ok1.mul64; exact rfl; exact rfl; omega; omega) | (apply Ok1.shr; exact rfl; exact rfl; omega; exact Nat.le_of_ble_eq_true rfl; (first | exact pwE1 | exact pwE2 | exact pwE3 | exact pwE4 | exact pwE5 | exact pwE6 | exact pwE7 | exact pwE8 | exact pwE16 | exact pwE24 | exact pwE32 | exact rfl)) | (apply Ok1.quo64; exact rfl; exact rfl; omega; omega; omega) | (apply Ok1.remN; exact rfl; exact rfl; omega; omega) | (apply Ok1.neqP; (iterate 5 exact rfl)) | (apply Ok1.neqM; (iterate 5 exact rfl)) | (apply Ok1.neqS; (iterate 5 exact rfl))) | (apply R.lss rfl rfl rfl <;> intro) | (apply R.neq rfl rfl rfl <;> intro) | (apply R.neqF; (iterate 8 exact rfl); all_goals intro)) | (apply R.isCall; first | (apply R.pure; exact rfl; first | (apply Ok1.lenS; (iterate 3 exact rfl)) | (apply Ok1.lenStr; (iterate 3 exact rfl)) | (apply Ok1.lenMm; (iterate 3 exact rfl); (focus ((repeat' (first | exact At.head | apply At.tail | apply At.right)); done))) | (apply Ok1.lenM_nil; (iterate 3 exact rfl)))) | (apply R.pure; exact rfl; first | (apply Ok1.move; exact rfl) | (apply Ok1.fieldAddr; (iterate 5 exact rfl)) | (apply Ok1.load; exact rfl; first | (apply Ld.own1; exact rfl; exact rfl; (focus ((repeat' (first | exact At.head | apply At.tail | apply At.right)); done)); exact rfl) | (apply Ld.ownk; exact rfl; exact rfl; (focus ((repeat' (first | exact At.head | apply At.tail | apply At.right)); done)); exact rfl) | (apply Ld.old1; exact rfl; exact rfl; assumption; (first | exact List.not_mem_nil | assumption)) | (apply Ld.blk1; exact rfl; exact rfl; assumption; (first | exact List.not_mem_nil | assumption); exact rfl) | (apply Ld.blkk; exact rfl; exact rfl; assumption; (first | exact List.not_mem_nil | assumption); exact rfl)) | (apply Ok1.assign; exact rfl) | (apply Ok1.indexAddr; (iterate 5 exact rfl); omega; omega) | (apply Ok1.indexAddrA; (iterate 5 exact rfl); omega; omega) | (apply Ok1.build; (iterate 5 exact rfl)) | (apply Ok1.buildA; (iterate 6 exact rfl)) | (apply Ok1.convI64; (iterate 5 exact rfl); omega; omega) | (apply Ok1.convU64; (iterate 5 exact rfl); omega; omega) | (apply Ok1.convU32; (iterate 5 exact rfl); omega; omega) | (apply Ok1.convU8; (iterate 5 exact rfl); omega; omega) | (apply Ok1.conv; (iterate 5 exact rfl))) | (apply R.box; (iterate 3 exact rfl); intro) | (apply R.alloc; (iterate 3 exact rfl); intro) | (apply R.buildSlice; (iterate 12 exact rfl); intro)) | (apply R.is0; first | (apply R.store; (iterate 6 exact rfl); (focus ((repeat' (first | exact Upd.head | apply Upd.tail | apply Upd.right)); done)); exact rfl) | fail) | (apply R.isG; first | (apply R.guard_run; exact rfl; exact rfl) | (apply R.guard_not; (iterate 3 exact rfl)) | (apply R.guard_not0; exact rfl; exact rfl) | (apply R.guard_un; (iterate 3 exact rfl)) | (apply R.guard_un0; exact rfl; exact rfl) | (apply R.guard rfl rfl ?_ (fun h => ⟨rfl, ?_⟩) <;> try intro)) | apply R.nil | (apply T.is; first | apply T.seq | apply T.region | apply T.block | apply T.scope | apply T.label | apply T.skip | apply T.exit | apply T.ret | (apply T.cond_t; exact rfl) | (apply T.cond_f; exact rfl) | (apply T.cond_h; exact rfl; assumption) | (apply T.cond_n; exact rfl; assumption) | (apply T.cond rfl <;> intro)) | apply Rnd.step)
      exact hQ _ _ ⟨rfl, rfl, rfl, rfl, rfl, rfl, trivial⟩ (by (focus ((repeat' (first | exact Keep.nil _ | exact Ext.one _ _ | exact Ext.here _ _ | exact Ext.all _ | apply Keep.cons | apply Keep.app | apply Keep.last | apply Ext.cons | apply Ext.app)); done)))
end Go.Proofs.YtligngjcnlbgmaaGreat
set_option linter.unusedSimpArgs false
set_option linter.unusedVariables false
namespace Go.Proofs.YtligngjcnlbgmaaGreat
open Go.RowKit Go.Shelf
set_option maxRecDepth 100000
theorem sum_loop6 (w : World) (bT bO bm bh bw bv M jm j : Nat) (km tv us : List Value) (bb W : List Int) (st : H8) (rs : Nat → H8)
    (hgk : ∀ i, i < 64 → tv[0 + i * 1]? = some (.int .u32 (kI.getD i 0))) (hgw : ∀ i, i < 64 → us[0 + i * 1]? = some (.int .u32 (W.getD i 0))) (hr0 : rs 0 = st) (hrs : ∀ i, rs (i + 1) = stepI (rs i) (kI.getD i 0) (W.getD i 0)) {Q : Post} {σ : Env} {L : Lst}
    (hs : Sub ([(2, .pointer (some ⟨bT, 0, none⟩)), (4, .pointer (some ⟨bO, 0, none⟩)), (5, .slice (some ⟨bm, 0, none⟩) (64 * M) (64 * M + jm)), (8, .pointer (some ⟨bh, 0, none⟩)), (9, .int .i64 (64 * (j : Int))), (10, .pointer (some ⟨bw, 0, none⟩)), (15, .pointer (some ⟨bv, 0, none⟩)), (16, .int .i64 0)] : Env) σ) (hL : Keep L [(bv, .cells ⟨st.v⟩ 32 (0, 0)), (bw, .cells ⟨us⟩ 31 (0, 0)), (bh, .cells ⟨st.v⟩ 32 (0, 0)), (bm, .cells ⟨u8s bb ++ km⟩ 5 (0, 0)), (bT, .cells ⟨tv⟩ 34 (0, 0)), (bO, .cells ⟨List.replicate 32 (.int .u8 0)⟩ 123 (0, 0))])
    (hQ : ∀ σ' L', Sub ([(2, .pointer (some ⟨bT, 0, none⟩)), (4, .pointer (some ⟨bO, 0, none⟩)), (5, .slice (some ⟨bm, 0, none⟩) (64 * M) (64 * M + jm)), (8, .pointer (some ⟨bh, 0, none⟩)), (9, .int .i64 (64 * (j : Int))), (10, .pointer (some ⟨bw, 0, none⟩)), (15, .pointer (some ⟨bv, 0, none⟩))] : Env) σ' → Keep L' [(bv, .cells ⟨(rs 64).v⟩ 32 (0, 0)), (bh, .cells ⟨st.v⟩ 32 (0, 0)), (bm, .cells ⟨u8s bb ++ km⟩ 5 (0, 0)), (bT, .cells ⟨tv⟩ 34 (0, 0)), (bO, .cells ⟨List.replicate 32 (.int .u8 0)⟩ 123 (0, 0))] → Q (.exit 10) σ' L') :
    T ⟨Tryz.prog, tb, 266, w, []⟩ (atL6 (codeOf Tryz.f136)) Q σ L := by
  apply T.loopK (α := Nat) (I := fun i => i ≤ 64) (σi := fun i => [(2, .pointer (some ⟨bT, 0, none⟩)), (4, .pointer (some ⟨bO, 0, none⟩)), (5, .slice (some ⟨bm, 0, none⟩) (64 * M) (64 * M + jm)), (8, .pointer (some ⟨bh, 0, none⟩)), (9, .int .i64 (64 * (j : Int))), (10, .pointer (some ⟨bw, 0, none⟩)), (15, .pointer (some ⟨bv, 0, none⟩)), (16, .int .i64 i)])
    (Li := fun i => [(bv, .cells ⟨(rs i).v⟩ 32 (0, 0)), (bw, .cells ⟨us⟩ 31 (0, 0)), (bh, .cells ⟨st.v⟩ 32 (0, 0)), (bm, .cells ⟨u8s bb ++ km⟩ 5 (0, 0)), (bT, .cells ⟨tv⟩ 34 (0, 0)), (bO, .cells ⟨List.replicate 32 (.int .u8 0)⟩ 123 (0, 0))]) (μ := fun i => 64 - i) (i0 := 0)
  · exact Nat.zero_le _
  · exact hs
  · rw [hr0]; exact hL
  · intro i hi
    rcases Nat.lt_or_ge i 64 with hlt3 | hge3
    · have g1 := hgk i hlt3
      have g2 := hgw i hlt3
      have hst := hrs i
      generalize kI.getD i 0 = ki at *
      generalize W.getD i 0 = wi at *
      generalize rs i = s1 at *
      simp only [H8.v, H8.l, u32s, List.map_cons, List.map_nil]
      repeat' (first | (apply R.is1; first | (apply R.isBin; (apply R.pure; exact rfl; first | (apply Ok1.orCh; exact rfl; exact rfl) | (apply Ok1.orMaj; exact rfl; exact rfl) | (apply Ok1.xorK; exact rfl; exact rfl) | (apply Ok1.andK; exact rfl; exact rfl) | (apply Ok1.orK; exact rfl; exact rfl) | (apply Ok1.add32; exact rfl; exact rfl) | (apply Ok1.add64; exact rfl; exact rfl; omega; omega) | (apply Ok1.lss_t; exact rfl; exact rfl; omega))) | (apply R.pure; exact rfl; first | (apply Ok1.move; exact rfl) | (apply Ok1.load; exact rfl; (apply Ld.own1; exact rfl; exact rfl; exact At.head; exact rfl)) | (apply Ok1.assign; exact rfl) | (apply Ok1.indexAddrA; (iterate 5 exact rfl); omega; omega) | (apply Ok1.buildA; (iterate 6 exact rfl)))) | (apply R.is0; (apply R.store; (iterate 6 exact rfl); exact Upd.head; exact setE_all rfl)) | apply R.nil | (apply T.is; first | (apply T.drawC (id := 29) [0] (by decide); ((apply A.take 0; exact rfl; exact rfl; kernel_rfl; kernel_rfl; kernel_rfl; (apply Ok1.indexAddrA; (iterate 5 exact rfl); omega; omega)) <;> (apply A.take 1; exact rfl; exact rfl; kernel_rfl; kernel_rfl; kernel_rfl; (apply Ok1.load; exact rfl; (apply Ld.own1; exact rfl; exact rfl; exact At.head; exact rfl))) <;> (apply A.call 2; exact rfl; exact rfl; kernel_rfl; kernel_rfl; kernel_rfl; exact rfl; exact rfl; (exact fun w1 _ => (right1_ok s1.e 6 64 67108864 (by decide) (by decide) rfl rfl).w w1)) <;> (apply A.take 3; exact rfl; exact rfl; kernel_rfl; kernel_rfl; kernel_rfl; (apply Ok1.indexAddrA; (iterate 5 exact rfl); omega; omega)) <;> (apply A.take 4; exact rfl; exact rfl; kernel_rfl; kernel_rfl; kernel_rfl; (apply Ok1.load; exact rfl; (apply Ld.own1; exact rfl; exact rfl; exact At.head; exact rfl))) <;> (apply A.call 5; exact rfl; exact rfl; kernel_rfl; kernel_rfl; kernel_rfl; exact rfl; exact rfl; (exact fun w1 _ => (right1_ok s1.e 11 2048 2097152 (by decide) (by decide) rfl rfl).w w1)) <;> (apply A.take 6; exact rfl; exact rfl; kernel_rfl; kernel_rfl; kernel_rfl; (apply Ok1.xorK; exact rfl; exact rfl)) <;> (apply A.take 7; exact rfl; exact rfl; kernel_rfl; kernel_rfl; kernel_rfl; (apply Ok1.indexAddrA; (iterate 5 exact rfl); omega; omega)) <;> (apply A.take 8; exact rfl; exact rfl; kernel_rfl; kernel_rfl; kernel_rfl; (apply Ok1.load; exact rfl; (apply Ld.own1; exact rfl; exact rfl; exact At.head; exact rfl))) <;> (apply A.call 9; exact rfl; exact rfl; kernel_rfl; kernel_rfl; kernel_rfl; exact rfl; exact rfl; (exact fun w1 _ => (right1_ok s1.e 25 33554432 128 (by decide) (by decide) rfl rfl).w w1)) <;> (apply A.take 10; exact rfl; exact rfl; kernel_rfl; kernel_rfl; kernel_rfl; (apply Ok1.xorK; exact rfl; exact rfl)) <;> (apply A.take 11; exact rfl; exact rfl; kernel_rfl; kernel_rfl; kernel_rfl; (apply Ok1.assign; exact rfl)) <;> (apply A.done; kernel_rfl))) | (apply T.drawC (id := 31) [0,1,4] (by decide); ((apply A.take 0; exact rfl; exact rfl; kernel_rfl; kernel_rfl; kernel_rfl; (apply Ok1.indexAddrA; (iterate 5 exact rfl); omega; omega)) <;> (apply A.take 1; exact rfl; exact rfl; kernel_rfl; kernel_rfl; kernel_rfl; (apply Ok1.load; exact rfl; (apply Ld.own1; exact rfl; exact rfl; exact At.head; exact rfl))) <;> (apply A.take 2; exact rfl; exact rfl; kernel_rfl; kernel_rfl; kernel_rfl; (apply Ok1.move; exact rfl)) <;> (apply A.take 3; exact rfl; exact rfl; kernel_rfl; kernel_rfl; kernel_rfl; (apply Ok1.add32; exact rfl; exact rfl)) <;> (apply A.take 4; exact rfl; exact rfl; kernel_rfl; kernel_rfl; kernel_rfl; (apply Ok1.move; exact rfl)) <;> (apply A.take 5; exact rfl; exact rfl; kernel_rfl; kernel_rfl; kernel_rfl; (apply Ok1.add32; exact rfl; exact rfl)) <;> (apply A.take 6; exact rfl; exact rfl; kernel_rfl; kernel_rfl; kernel_rfl; (apply Ok1.move; exact rfl)) <;> (apply A.take 7; exact rfl; exact rfl; kernel_rfl; kernel_rfl; kernel_rfl; (apply Ok1.fieldAddr; (iterate 5 exact rfl))) <;> (apply A.take 8; exact rfl; exact rfl; kernel_rfl; kernel_rfl; kernel_rfl; (apply Ok1.indexAddrA; (iterate 5 exact rfl); omega; omega)) <;> (apply A.take 9; exact rfl; exact rfl; kernel_rfl; kernel_rfl; kernel_rfl; (apply Ok1.load; exact rfl; apply Ld.own1; exact rfl; exact rfl; (focus ((repeat' (first | exact At.head | apply At.tail)); done)); exact g1)) <;> (apply A.take 10; exact rfl; exact rfl; kernel_rfl; kernel_rfl; kernel_rfl; (apply Ok1.add32; exact rfl; exact rfl)) <;> (apply A.take 11; exact rfl; exact rfl; kernel_rfl; kernel_rfl; kernel_rfl; (apply Ok1.move; exact rfl)) <;> (apply A.take 12; exact rfl; exact rfl; kernel_rfl; kernel_rfl; kernel_rfl; (apply Ok1.indexAddrA; (iterate 5 exact rfl); omega; omega)) <;> (apply A.take 13; exact rfl; exact rfl; kernel_rfl; kernel_rfl; kernel_rfl; (apply Ok1.load; exact rfl; apply Ld.own1; exact rfl; exact rfl; (focus ((repeat' (first | exact At.head | apply At.tail)); done)); exact g2)) <;> (apply A.take 14; exact rfl; exact rfl; kernel_rfl; kernel_rfl; kernel_rfl; (apply Ok1.add32; exact rfl; exact rfl)) <;> (apply A.take 15; exact rfl; exact rfl; kernel_rfl; kernel_rfl; kernel_rfl; (apply Ok1.assign; exact rfl)) <;> (apply A.done; kernel_rfl))) | (apply T.drawC (id := 32) [0] (by decide); ((apply A.take 0; exact rfl; exact rfl; kernel_rfl; kernel_rfl; kernel_rfl; (apply Ok1.indexAddrA; (iterate 5 exact rfl); omega; omega)) <;> (apply A.take 1; exact rfl; exact rfl; kernel_rfl; kernel_rfl; kernel_rfl; (apply Ok1.load; exact rfl; (apply Ld.own1; exact rfl; exact rfl; exact At.head; exact rfl))) <;> (apply A.call 2; exact rfl; exact rfl; kernel_rfl; kernel_rfl; kernel_rfl; exact rfl; exact rfl; (exact fun w1 _ => (right1_ok s1.a 2 4 1073741824 (by decide) (by decide) rfl rfl).w w1)) <;> (apply A.take 3; exact rfl; exact rfl; kernel_rfl; kernel_rfl; kernel_rfl; (apply Ok1.indexAddrA; (iterate 5 exact rfl); omega; omega)) <;> (apply A.take 4; exact rfl; exact rfl; kernel_rfl; kernel_rfl; kernel_rfl; (apply Ok1.load; exact rfl; (apply Ld.own1; exact rfl; exact rfl; exact At.head; exact rfl))) <;> (apply A.call 5; exact rfl; exact rfl; kernel_rfl; kernel_rfl; kernel_rfl; exact rfl; exact rfl; (exact fun w1 _ => (right1_ok s1.a 13 8192 524288 (by decide) (by decide) rfl rfl).w w1)) <;> (apply A.take 6; exact rfl; exact rfl; kernel_rfl; kernel_rfl; kernel_rfl; (apply Ok1.xorK; exact rfl; exact rfl)) <;> (apply A.take 7; exact rfl; exact rfl; kernel_rfl; kernel_rfl; kernel_rfl; (apply Ok1.indexAddrA; (iterate 5 exact rfl); omega; omega)) <;> (apply A.take 8; exact rfl; exact rfl; kernel_rfl; kernel_rfl; kernel_rfl; (apply Ok1.load; exact rfl; (apply Ld.own1; exact rfl; exact rfl; exact At.head; exact rfl))) <;> (apply A.call 9; exact rfl; exact rfl; kernel_rfl; kernel_rfl; kernel_rfl; exact rfl; exact rfl; (exact fun w1 _ => (right1_ok s1.a 22 4194304 1024 (by decide) (by decide) rfl rfl).w w1)) <;> (apply A.take 10; exact rfl; exact rfl; kernel_rfl; kernel_rfl; kernel_rfl; (apply Ok1.xorK; exact rfl; exact rfl)) <;> (apply A.take 11; exact rfl; exact rfl; kernel_rfl; kernel_rfl; kernel_rfl; (apply Ok1.assign; exact rfl)) <;> (apply A.done; kernel_rfl))) | apply T.seq | apply T.region | apply T.block | apply T.skip | (apply T.cond_t; exact rfl)))
      refine ⟨i + 1, by omega, by omega, ⟨rfl, rfl, rfl, rfl, rfl, rfl, rfl, rfl, trivial⟩, ?_⟩
      rw [hst]
      (focus ((repeat' (first | exact Keep.nil _ | exact Ext.one _ _ | apply Keep.cons)); done))
    · have him : i = 64 := by omega
      subst him
      generalize rs 64 = t at *
      repeat' (first | (apply R.is1; first | (apply R.isBin; (apply R.pure; exact rfl; (apply Ok1.lss_f; exact rfl; exact rfl; omega))) | (apply R.pure; exact rfl; (apply Ok1.move; exact rfl))) | apply R.nil | (apply T.is; first | apply T.seq | apply T.region | apply T.exit | (apply T.cond_f; exact rfl)))
      exact hQ _ _ ⟨rfl, rfl, rfl, rfl, rfl, rfl, rfl, trivial⟩ (by (focus ((repeat' (first | exact Keep.nil _ | exact Ext.one _ _ | apply Keep.cons | apply Ext.cons)); done)))
theorem sum_loop8 (w : World) (bO bh bo : Nat) (st : H8) {Q : Post} {σ : Env} {L : Lst}
    (hs : Sub ([(4, .pointer (some ⟨bO, 0, none⟩)), (8, .pointer (some ⟨bh, 0, none⟩)), (24, .pointer (some ⟨bo, 0, none⟩)), (25, .int .i64 0)] : Env) σ) (hL : Keep L [(bo, .cells ⟨List.replicate 32 (.int .u8 0)⟩ 123 (0, 0)), (bh, .cells ⟨st.v⟩ 32 (0, 0)), (bO, .cells ⟨List.replicate 32 (.int .u8 0)⟩ 123 (0, 0))])
    (hQ : ∀ σ' L', Sub ([(4, .pointer (some ⟨bO, 0, none⟩)), (24, .pointer (some ⟨bo, 0, none⟩))] : Env) σ' → Keep L' [(bo, .cells ⟨u8s (outI st)⟩ 123 (0, 0)), (bO, .cells ⟨List.replicate 32 (.int .u8 0)⟩ 123 (0, 0))] → Q (.exit 14) σ' L') :
    T ⟨Tryz.prog, tb, 266, w, []⟩ (atL8 (codeOf Tryz.f136)) Q σ L := by
  refine T.weakK ?_ hL hs
  simp only [H8.v, H8.l, u32s, List.map_cons, List.map_nil]
  repeat' (first | (apply R.is1; first | (apply R.isBin; (apply R.pure; exact rfl; first | (apply Ok1.add64; exact rfl; exact rfl; omega; omega) | (apply Ok1.sub64; exact rfl; exact rfl; omega; omega) | (apply Ok1.lss_t; exact rfl; exact rfl; omega) | (apply Ok1.lss_f; exact rfl; exact rfl; omega) | (apply Ok1.mul64; exact rfl; exact rfl; omega; omega) | (apply Ok1.shr; exact rfl; exact rfl; omega; exact Nat.le_of_ble_eq_true rfl; (first | exact pwE8 | exact pwE16 | exact pwE24 | exact rfl)) | (apply Ok1.quo64; exact rfl; exact rfl; omega; omega; omega) | (apply Ok1.remN; exact rfl; exact rfl; omega; omega))) | (apply R.pure; exact rfl; first | (apply Ok1.move; exact rfl) | (apply Ok1.load; exact rfl; (apply Ld.own1; exact rfl; exact rfl; (focus ((repeat' (first | exact At.head | apply At.tail)); done)); exact rfl)) | (apply Ok1.assign; exact rfl) | (apply Ok1.indexAddrA; (iterate 5 exact rfl); omega; omega) | (apply Ok1.conv; (iterate 5 exact rfl)))) | (apply R.is0; (apply R.store; (iterate 6 exact rfl); exact Upd.head; exact rfl)) | apply R.nil | (apply T.is; first | apply T.rounds 33 | apply T.seq | apply T.region | apply T.block | apply T.skip | apply T.exit | (apply T.cond_t; exact rfl) | (apply T.cond_f; exact rfl)))
  refine hQ _ _ ⟨rfl, rfl, trivial⟩ ?_
  have p0 : pw 0 = 1 := rfl
  simp only [Int.reduceAdd, Int.reduceMul, Int.reduceSub, Int.reduceMod, Int.reduceToNat, p0, u8_mod, Int.ediv_one, outI, H8.l, u8s, List.flatMap_cons, List.flatMap_nil, List.map_cons, List.map_nil, List.cons_append, List.nil_append, List.append_nil]
  (focus ((repeat' (first | exact Keep.nil _ | exact Ext.one _ _ | apply Keep.cons | apply Ext.cons)); done))
theorem sum_ok (p : Option Addr) (n cap : Nat) (b : List Int) (hn : n = b.length) (hbig : n ≤ 999999000) (hb : Byt b) (w : World) (hp : RdSl w p u8V b) :
    CallW Tryz.prog 136 [.agg ⟨tabV⟩, .slice p n cap] w fun v _ => v = .agg ⟨u8s (shaI b)⟩ := by
  subst hn
  have hgk : ∀ i, i < 64 → tabV[0 + i * 1]? = some (.int .u32 (kI.getD i 0)) := fun i hi => arr_get (l := kI) (zs := h0I.v) (by rw [kI_len]; exact hi)
  have hgh : subE tabV 64 8 = some h0I.v := rfl
  have htl : tabV.length = 72 := rfl
  have hto : tabV.all Value.oneCell' = true := rfl
  have hx0 : OvOk 1 (none : Ov) 0 [] := OvOk.start 1
  generalize tabV = tv at *
  refine enterW (tb := tb) Tryz.func136 rfl Tryz.ntmps136 rfl ?_
  repeat' (first | (apply R.is1; first | (apply R.buildSlice0; (iterate 4 exact rfl); intro b0) | (apply R.isCall; first | (apply R.appendRd (xs := b) (v := u8V) (sz := 1) (ov := some (b0, 0, [])) (n := 0) (old := []); (iterate 12 exact rfl); exact ⟨rfl, rfl⟩; (focus ((repeat' (exact Ext.one _ _)); done)); exact rfl; exact u8V_len; exact rfl; (intro w1 hw1; exact hp.chg hw1.chg (Off.nil _)); (focus (rw [fl_u8]; exact u8s_one b)); omega; intro ov1 hov1 hsome; rw [fl_u8, List.nil_append, Nat.zero_add] at hov1; rw [fl_u8, List.nil_append, Nat.zero_add]) | (apply R.append1; (iterate 12 exact rfl); (focus ((repeat' (first | exact OwnAt.mid hov1 | apply OwnAt.tail)); done)); exact At.head; exact rfl; exact rfl; omega; omega; intro b2 j2 k2 hj2)) | (apply R.pure; exact rfl; first | (apply Ok1.move; exact rfl) | (apply Ok1.assign; exact rfl)) | (apply R.box; (iterate 3 exact rfl); intro) | (apply R.alloc; (iterate 3 exact rfl); intro) | (apply R.buildSlice; (iterate 12 exact rfl); intro)) | apply R.nil | (apply T.is; first | apply T.seq | apply T.region | apply T.block))
  rename_i bT bO bS
  have hovm := hov1.some (b := b2) (ys := [.int .u8 128]) (m := 1) rfl hj2
  obtain ⟨Z, hZ⟩ : ∃ Z, Z = (119 - b.length % 64) % 64 := ⟨_, rfl⟩
  apply T.loopK (α := Nat × Ov) (I := fun x => x.1 ≤ Z ∧ OvOk 1 x.2 (b.length + 1 + x.1) (u8s (b ++ 128 :: List.replicate x.1 0))) (σi := fun x => [(1, .slice p b.length cap), (2, .pointer (some ⟨bT, 0, none⟩)), (4, .pointer (some ⟨bO, 0, none⟩)), (5, slV x.2 (b.length + 1 + x.1))])
    (Li := fun x => (bT, .cells ⟨tv⟩ 34 (0, 0)) :: (bO, .cells ⟨List.replicate 32 (.int .u8 0)⟩ 123 (0, 0)) :: blkL 5 x.2 (u8s (b ++ 128 :: List.replicate x.1 0))) (μ := fun x => Z - x.1) (i0 := (0, some (b2, j2, k2)))
  · refine ⟨Nat.zero_le _, ?_⟩
    simp only [List.replicate_zero, u8s_app]
    exact hovm
  · exact ⟨rfl, rfl, rfl, rfl, trivial⟩
  · simp only [blkL, List.replicate_zero, u8s_app]
    (focus ((repeat' (first | exact Keep.nil _ | exact Ext.one _ _ | apply Keep.cons | apply Ext.cons)); done))
  · clear hov1 hovm hj2
    rintro ⟨j, ov⟩ ⟨hj, hov⟩
    simp only at hj hov ⊢
    rcases Nat.lt_or_ge j Z with hlt | hge
    · have hne : ((b.length + 1 + j : Nat) : Int) % 64 ≠ 56 := by omega
      repeat' (first | (apply R.is1; first | (apply R.isBin; (apply R.pure; exact rfl; first | (apply Ok1.neq_t; exact rfl; exact rfl; omega) | (apply Ok1.remN; exact rfl; exact rfl; omega; omega))) | (apply R.isCall; first | (apply R.pure; exact rfl; apply Ok1.lenOv; (iterate 3 exact rfl); exact hov) | (apply R.append1; (iterate 12 exact rfl); (focus ((repeat' (first | exact OwnAt.base hov | apply OwnAt.tail)); done)); exact At.head; exact rfl; exact rfl; omega; omega; intro b2 j2 k2 hj2)) | (apply R.pure; exact rfl; first | (apply Ok1.move; exact rfl) | (apply Ok1.assign; exact rfl)) | (apply R.buildSlice; (iterate 12 exact rfl); intro)) | apply R.nil | (apply T.is; first | apply T.seq | apply T.region | apply T.block | apply T.skip | (apply T.cond_t; exact rfl)))
      have hov' := hov.some (b := b2) (ys := [.int .u8 0]) (m := 1) rfl hj2
      have hu : u8s (b ++ 128 :: List.replicate (j + 1) 0) = u8s (b ++ 128 :: List.replicate j 0) ++ [.int .u8 0] := by rw [List.replicate_succ']; simp [u8s]
      refine ⟨(j + 1, some (b2, j2, k2)), ⟨by simp only; omega, by simp only [hu]; exact hov'⟩, by simp only; omega, ⟨rfl, rfl, rfl, rfl, trivial⟩, ?_⟩
      simp only [hu, blkL, List.cons_append, List.nil_append]
      (focus ((repeat' (first | exact Keep.nil _ | exact Ext.one _ _ | apply Keep.cons | apply Ext.cons)); done))
    · have hjZ : j = Z := by omega
      subst j
      have hne : ((b.length + 1 + Z : Nat) : Int) % 64 = 56 := by omega
      repeat' (first | (apply R.is1; first | (apply R.isBin; (apply R.pure; exact rfl; first | (apply Ok1.mulU; exact rfl; exact rfl; omega; omega) | (apply Ok1.neq_f; exact rfl; exact rfl; omega) | (apply Ok1.remN; exact rfl; exact rfl; omega; omega))) | (apply R.isCall; first | (apply R.pure; exact rfl; apply Ok1.lenOv; (iterate 3 exact rfl); exact hov) | (apply R.pure; exact rfl; (apply Ok1.lenS; (iterate 3 exact rfl)))) | (apply R.pure; exact rfl; first | (apply Ok1.convU64; (iterate 5 exact rfl); omega; omega) | (apply Ok1.move; exact rfl) | (apply Ok1.assign; exact rfl))) | apply R.nil | (apply T.is; first | apply T.seq | apply T.region | apply T.block | apply T.exit | (apply T.cond_f; exact rfl)))
      apply T.loopK (α := Nat × Ov) (I := fun x => x.1 ≤ 8 ∧ OvOk 1 x.2 (b.length + 1 + Z + x.1) (u8s (b ++ 128 :: (List.replicate Z 0 ++ (lenI (8 * (b.length : Int))).take x.1)))) (σi := fun x => [(2, .pointer (some ⟨bT, 0, none⟩)), (4, .pointer (some ⟨bO, 0, none⟩)), (5, slV x.2 (b.length + 1 + Z + x.1)), (6, .int .u64 (8 * (b.length : Int))), (7, .int .i64 x.1)])
        (Li := fun x => (bT, .cells ⟨tv⟩ 34 (0, 0)) :: (bO, .cells ⟨List.replicate 32 (.int .u8 0)⟩ 123 (0, 0)) :: blkL 5 x.2 (u8s (b ++ 128 :: (List.replicate Z 0 ++ (lenI (8 * (b.length : Int))).take x.1)))) (μ := fun x => 8 - x.1) (i0 := (0, ov))
      · exact ⟨Nat.zero_le _, by simpa using hov⟩
      · exact ⟨rfl, rfl, rfl, rfl, rfl, trivial⟩
      · simp only [List.take_zero, List.append_nil]
        (focus ((repeat' (first | exact Ext.one _ _ | exact Ext.all _ | apply Keep.cons | apply Keep.last)); done))
      · clear hov
        rintro ⟨m, ov⟩ ⟨hm, hov⟩
        simp only at hm hov ⊢
        rcases Nat.lt_or_ge m 8 with hlt | hge
        · have hmz : m = 0 ∨ m = 1 ∨ m = 2 ∨ m = 3 ∨ m = 4 ∨ m = 5 ∨ m = 6 ∨ m = 7 := by omega
          have hu : u8s (b ++ 128 :: (List.replicate Z 0 ++ (lenI (8 * (b.length : Int))).take (m + 1))) = u8s (b ++ 128 :: (List.replicate Z 0 ++ (lenI (8 * (b.length : Int))).take m)) ++ [.int .u8 ((lenI (8 * (b.length : Int))).getD m 0)] := by
            rcases hmz with rfl | rfl | rfl | rfl | rfl | rfl | rfl | rfl <;> simp [lenI, u8s]
          obtain ⟨sh, hsh⟩ : ∃ sh : Int, sh = pw (8 * (7 - m)) := ⟨_, rfl⟩
          have hval : IntKind.u8.wrap (8 * (b.length : Int) / sh) = (lenI (8 * (b.length : Int))).getD m 0 := by
            rw [u8_mod]
            subst hsh
            rcases hmz with rfl | rfl | rfl | rfl | rfl | rfl | rfl | rfl <;> first | rfl | (simp [lenI, pw])
          have hj8 : (56 - 8 * (m : Int)).toNat = 8 * (7 - m) := by omega
          have hsh2 : pw (56 - 8 * (m : Int)).toNat = sh := by rw [hj8]; exact hsh.symm
          have hb64 : (56 - 8 * (m : Int)).toNat ≤ IntKind.u64.bits := by rw [hj8]; show 8 * (7 - m) ≤ 64; omega
          have hsh3 : IntKind.u64.wrap (1 * sh) = sh ∧ 0 < sh := by
            subst hsh
            rcases hmz with rfl | rfl | rfl | rfl | rfl | rfl | rfl | rfl <;> exact ⟨rfl, by decide⟩
          clear hsh
          repeat' (first | (apply R.is1; first | (apply R.isBin; (apply R.pure; exact rfl; first | (apply Ok1.shlE; exact rfl; exact rfl; omega; exact hb64; exact hsh2; exact hsh3.1) | (apply Ok1.quoU; exact rfl; exact rfl; omega; exact hsh3.2; omega) | (apply Ok1.add64; exact rfl; exact rfl; omega; omega) | (apply Ok1.sub64; exact rfl; exact rfl; omega; omega) | (apply Ok1.lss_t; exact rfl; exact rfl; omega) | (apply Ok1.mul64; exact rfl; exact rfl; omega; omega))) | (apply R.isCall; (apply R.append1; (iterate 12 exact rfl); (focus ((repeat' (first | exact OwnAt.base hov | apply OwnAt.tail)); done)); exact At.head; exact rfl; exact rfl; omega; omega; intro b2 j2 k2 hj2)) | (apply R.pure; exact rfl; first | (apply Ok1.move; exact rfl) | (apply Ok1.assign; exact rfl) | (apply Ok1.conv; (iterate 5 exact rfl))) | (apply R.buildSlice; (iterate 12 exact rfl); intro)) | apply R.nil | (apply T.is; first | apply T.seq | apply T.region | apply T.block | apply T.skip | (apply T.cond_t; exact rfl)))
          have hov' := hov.some (b := b2) (ys := [.int .u8 (IntKind.u8.wrap (8 * (b.length : Int) / sh))]) (m := 1) rfl hj2
          rw [hval, ← hu] at hov'
          rw [hval, ← hu]
          refine ⟨(m + 1, some (b2, j2, k2)), ⟨by simp only; omega, hov'⟩, by simp only; omega, ⟨rfl, rfl, rfl, rfl, rfl, trivial⟩, ?_⟩
          simp only [blkL, List.cons_append, List.nil_append]
          (focus ((repeat' (first | exact Keep.nil _ | exact Ext.one _ _ | apply Keep.cons | apply Ext.cons)); done))
        · have hm8 : m = 8 := by omega
          subst hm8
          have hpad : b ++ (128 :: (List.replicate Z 0 ++ (lenI (8 * (b.length : Int))).take 8)) = b ++ padI b.length := by subst hZ; rfl
          rw [hpad] at hov ⊢
          have hpl : b.length + 1 + Z + 8 = (b ++ padI b.length).length := by rw [List.length_append, pad_len]; omega
          have hbp : Byt (b ++ padI b.length) := hb.app (pad_byt _)
          have hpb : (b ++ padI b.length).length ≤ 999999100 := by omega
          have hmod : (b ++ padI b.length).length % 64 = 0 := by rw [List.length_append, pad_len]; omega
          rw [hpl] at hov ⊢
          obtain ⟨M, hM⟩ : ∃ M, M = (b ++ padI b.length).length / 64 := ⟨_, rfl⟩
          have hsha : shaI b = outI (allI kI M (b ++ padI b.length) h0I) := by rw [hM]; rfl
          rw [hsha]
          have hlen : (b ++ padI b.length).length = 64 * M := by omega
          rw [hlen] at hov ⊢
          generalize b ++ padI b.length = bb at *
          obtain ⟨bm, jm, km, rfl⟩ := ovsome hov (by omega)
          simp only [slV, blkL]
          repeat' (first | (apply R.is1; first | (apply R.isBin; (apply R.pure; exact rfl; (apply Ok1.lss_f; exact rfl; exact rfl; omega))) | (apply R.pure; exact rfl; first | (apply Ok1.load; exact rfl; apply Ld.ownk; exact rfl; exact rfl; exact At.head; exact hgh) | (apply Ok1.move; exact rfl) | (apply Ok1.fieldAddr; (iterate 5 exact rfl)) | (apply Ok1.assign; exact rfl)) | (apply R.alloc; (iterate 3 exact rfl); intro)) | (apply R.is0; (apply R.store; (iterate 6 exact rfl); exact Upd.head; exact setE_all rfl)) | apply R.nil | (apply T.is; first | apply T.seq | apply T.region | apply T.block | apply T.exit | (apply T.cond_f; exact rfl)))
          repeat' (fail)
          rename_i bh
          apply T.loopK (α := Nat) (I := fun j => j ≤ M) (σi := fun j => [(2, .pointer (some ⟨bT, 0, none⟩)), (4, .pointer (some ⟨bO, 0, none⟩)), (5, .slice (some ⟨bm, 0, none⟩) (64 * M) (64 * M + jm)), (8, .pointer (some ⟨bh, 0, none⟩)), (9, .int .i64 (64 * (j : Int)))])
            (Li := fun j => [(bh, .cells ⟨(allI kI j bb h0I).v⟩ 32 (0, 0)), (bm, .cells ⟨u8s bb ++ km⟩ 5 (0, 0)), (bT, .cells ⟨tv⟩ 34 (0, 0)), (bO, .cells ⟨List.replicate 32 (.int .u8 0)⟩ 123 (0, 0))]) (μ := fun j => M - j) (i0 := 0)
          · exact Nat.zero_le _
          · exact ⟨rfl, rfl, rfl, rfl, rfl, trivial⟩
          · (focus ((repeat' (first | exact Keep.nil _ | exact Ext.one _ _ | apply Keep.cons | apply Ext.cons)); done))
          · intro j hj
            have hsn := all_snoc kI j bb h0I
            generalize hst0 : allI kI j bb h0I = st at *
            rcases Nat.lt_or_ge j M with hlt | hge
            · repeat' (first | (apply R.is1; first | (apply R.isBin; (apply R.pure; exact rfl; (apply Ok1.lss_t; exact rfl; exact rfl; omega))) | (apply R.isCall; (apply R.pure; exact rfl; (apply Ok1.lenS; (iterate 3 exact rfl)))) | (apply R.pure; exact rfl; first | (apply Ok1.move; exact rfl) | (apply Ok1.assign; exact rfl) | (apply Ok1.buildA; (iterate 6 exact rfl))) | (apply R.alloc; (iterate 3 exact rfl); intro)) | (apply R.is0; (apply R.store; (iterate 6 exact rfl); exact Upd.head; exact rfl)) | apply R.nil | (apply T.is; first | apply T.seq | apply T.region | apply T.block | apply T.skip | (apply T.cond_t; exact rfl)))
              rename_i bw
              obtain ⟨bk, hbk⟩ : ∃ bk, bk = (bb.drop (64 * j)).take 64 := ⟨_, rfl⟩
              have hbl : bk.length = 64 := by rw [hbk, List.length_take, List.length_drop]; omega
              have hbb : Byt bk := by rw [hbk]; exact (hbp.drop _).take _
              rw [← hbk] at hsn
              have hgm : ∀ k, k < 64 → (u8s bb ++ km)[64 * j + k]? = some (.int .u8 (bk.getD k 0)) := by
                intro k hk
                rw [List.getElem?_append_left (by rw [u8s_len]; omega)]
                simp only [u8s, List.getElem?_map, hbk, List.getD_eq_getElem?_getD, List.getElem?_take, List.getElem?_drop, hk, if_true]
                rw [List.getElem?_eq_getElem (by omega)]
                rfl
              clear hbk
              have hM8 : M ≤ 100000000 := by omega
              repeat' ((apply T.is; (refine sum_loop4 w bT bO bm bh bw M jm j km tv bb bk st hlen hM8 hlt hbl hbb hgm ?_ ?_ ?_)))
              · exact ⟨rfl, rfl, rfl, rfl, rfl, rfl, rfl, trivial⟩
              · (focus ((repeat' (first | exact Keep.nil _ | exact Ext.one _ _ | apply Keep.cons)); done))
              · intro σ' L' hs hk
                refine T.weakK (σ' := [(2, .pointer (some ⟨bT, 0, none⟩)), (4, .pointer (some ⟨bO, 0, none⟩)), (5, .slice (some ⟨bm, 0, none⟩) (64 * M) (64 * M + jm)), (8, .pointer (some ⟨bh, 0, none⟩)), (9, .int .i64 (64 * (j : Int))), (10, .pointer (some ⟨bw, 0, none⟩))]) ?_ hk hs
                have hsl := sched_len bk 64
                have hgw : ∀ i, i < 64 → (u32s (schedI bk 64))[0 + i * 1]? = some (.int .u32 ((schedI bk 64).getD i 0)) := fun i hi => by have := arr_get (l := schedI bk 64) (zs := []) (k := i) (by omega); rwa [List.append_nil] at this
                have hmix : mixI kI bk st = addH st (roundsI kI (schedI bk 64) st 64) := rfl
                have hr0 : roundsI kI (schedI bk 64) st 0 = st := rfl
                have hrs : ∀ i, roundsI kI (schedI bk 64) st (i + 1) = stepI (roundsI kI (schedI bk 64) st i) (kI.getD i 0) ((schedI bk 64).getD i 0) := fun _ => rfl
                have hsv : subE st.v 0 8 = some st.v := subE_all rfl
                clear hgm
                generalize roundsI kI (schedI bk 64) st = rs at *
                generalize hW : u32s (schedI bk 64) = us at *
                repeat' (first | (apply R.is1; first | (apply R.pure; exact rfl; first | (apply Ok1.load; exact rfl; apply Ld.ownk; exact rfl; exact rfl; (focus ((repeat' (first | exact At.head | apply At.tail)); done)); exact hsv) | (apply Ok1.assign; exact rfl)) | (apply R.alloc; (iterate 3 exact rfl); intro)) | (apply R.is0; (apply R.store; (iterate 6 exact rfl); exact Upd.head; exact setE_all rfl)) | apply R.nil | (apply T.is; first | apply T.seq | apply T.region | apply T.block))
                rename_i bv
                repeat' ((apply T.is; (refine sum_loop6 w bT bO bm bh bw bv M jm j km tv us bb (schedI bk 64) st rs hgk hgw hr0 hrs ?_ ?_ ?_)))
                · exact ⟨rfl, rfl, rfl, rfl, rfl, rfl, rfl, rfl, trivial⟩
                · (focus ((repeat' (first | exact Keep.nil _ | exact Ext.one _ _ | apply Keep.cons)); done))
                · intro σ' L' hs hk
                  refine T.weakK (σ' := [(2, .pointer (some ⟨bT, 0, none⟩)), (4, .pointer (some ⟨bO, 0, none⟩)), (5, .slice (some ⟨bm, 0, none⟩) (64 * M) (64 * M + jm)), (8, .pointer (some ⟨bh, 0, none⟩)), (9, .int .i64 (64 * (j : Int))), (10, .pointer (some ⟨bw, 0, none⟩)), (15, .pointer (some ⟨bv, 0, none⟩))]) ?_ hk hs
                  rw [hmix] at hsn
                  generalize rs 64 = t at *
                  clear hgk hgw hrs
                  simp only [H8.v, H8.l, u32s, List.map_cons, List.map_nil]
                  repeat' (first | (apply R.is1; first | (apply R.isBin; (apply R.pure; exact rfl; first | (apply Ok1.add64; exact rfl; exact rfl; omega; omega) | (apply Ok1.lss_t; exact rfl; exact rfl; omega) | (apply Ok1.lss_f; exact rfl; exact rfl; omega))) | (apply R.pure; exact rfl; first | (apply Ok1.move; exact rfl) | (apply Ok1.assign; exact rfl))) | apply R.nil | (apply T.is; first | apply T.rounds 9 | (apply T.drawC (id := 39) [0] (by decide); ((apply A.take 0; exact rfl; exact rfl; kernel_rfl; kernel_rfl; kernel_rfl; (apply Ok1.move; exact rfl)) <;> (apply A.take 1; exact rfl; exact rfl; kernel_rfl; kernel_rfl; kernel_rfl; (apply Ok1.move; exact rfl)) <;> (apply A.take 2; exact rfl; exact rfl; kernel_rfl; kernel_rfl; kernel_rfl; (apply Ok1.indexAddrA; (iterate 5 exact rfl); omega; omega)) <;> (apply A.take 4; exact rfl; exact rfl; kernel_rfl; kernel_rfl; kernel_rfl; (apply Ok1.move; exact rfl)) <;> (apply A.take 5; exact rfl; exact rfl; kernel_rfl; kernel_rfl; kernel_rfl; (apply Ok1.indexAddrA; (iterate 5 exact rfl); omega; omega)) <;> (apply A.take 6; exact rfl; exact rfl; kernel_rfl; kernel_rfl; kernel_rfl; (apply Ok1.load; exact rfl; (apply Ld.own1; exact rfl; exact rfl; exact At.head; exact rfl))) <;> (apply A.one 3; kernel_rfl; exact rfl; (((apply R.pure; exact rfl; (apply Ok1.load; exact rfl; (apply Ld.own1; exact rfl; exact rfl; (focus ((repeat' (first | exact At.head | apply At.tail)); done)); exact rfl))))); apply R.nil; refine ⟨?_, ?_⟩; (focus ((repeat' (first | exact trivial | (refine ⟨?_, ?_⟩; exact At.head)))))) <;> (apply A.take 7; exact rfl; exact rfl; kernel_rfl; kernel_rfl; kernel_rfl; (apply Ok1.add32; exact rfl; exact rfl)) <;> (apply A.take 8; exact rfl; exact rfl; kernel_rfl; kernel_rfl; kernel_rfl; (apply Ok1.indexAddrA; (iterate 5 exact rfl); omega; omega)) <;> (apply A.one 9; kernel_rfl; exact rfl; (((apply R.store; (iterate 6 exact rfl); (focus ((repeat' (first | exact Upd.head | apply Upd.tail)); done)); exact rfl))); apply R.nil; refine ⟨?_, ?_⟩; (focus ((repeat' (first | exact trivial | (refine ⟨?_, ?_⟩; exact At.head)))))) <;> (apply A.done; kernel_rfl))) | apply T.seq | apply T.region | apply T.block | apply T.skip | apply T.exit | (apply T.cond_t; exact rfl) | (apply T.cond_f; exact rfl)))
                  refine ⟨j + 1, by omega, by omega, ⟨rfl, rfl, rfl, rfl, ?_, trivial⟩, ?_⟩
                  · rw [show (64 : Int) * ((j + 1 : Nat) : Int) = 64 * (j : Int) + 64 by omega]; rfl
                  · rw [hsn]; (focus ((repeat' (first | exact Keep.nil _ | exact Ext.one _ _ | apply Keep.cons | apply Ext.cons)); done))
            · have hjM : j = M := by omega
              subst hjM
              rw [hst0]
              clear hgk hgh hsn
              have hol : (u8s (outI st)).length = 32 := by rw [u8s_len, out_len]
              have hoo := u8s_one (outI st)
              repeat' (first | (apply R.is1; first | (apply R.isBin; (apply R.pure; exact rfl; (apply Ok1.lss_f; exact rfl; exact rfl; omega))) | (apply R.isCall; (apply R.pure; exact rfl; (apply Ok1.lenS; (iterate 3 exact rfl)))) | (apply R.pure; exact rfl; first | (apply Ok1.move; exact rfl) | (apply Ok1.assign; exact rfl) | (apply Ok1.buildA; (iterate 6 exact rfl))) | (apply R.alloc; (iterate 3 exact rfl); intro)) | (apply R.is0; (apply R.store; (iterate 6 exact rfl); exact Upd.head; exact rfl)) | apply R.nil | (apply T.is; first | apply T.seq | apply T.region | apply T.block | apply T.exit | (apply T.cond_f; exact rfl)))
              rename_i bo
              refine sum_loop8 w bO bh bo st ?_ ?_ ?_
              · exact ⟨rfl, rfl, rfl, rfl, trivial⟩
              · (focus ((repeat' (first | exact Keep.nil _ | exact Ext.one _ _ | apply Keep.cons | apply Ext.cons)); done))
              · intro σ' L' hs hk
                refine T.weakK (σ' := [(4, .pointer (some ⟨bO, 0, none⟩)), (24, .pointer (some ⟨bo, 0, none⟩))]) ?_ hk hs
                repeat' (first | (apply R.is1; (apply R.pure; exact rfl; (apply Ok1.load; exact rfl; apply Ld.ownk; exact rfl; exact rfl; exact At.head; exact subE_all hol))) | (apply R.is0; (apply R.store; (iterate 4 exact rfl); exact hol; exact hoo; (focus ((repeat' (first | exact Upd.head | apply Upd.tail)); done)); exact setE_all hol)) | apply R.nil | (apply T.is; first | apply T.seq | apply T.region | apply T.ret))
                apply RetOk.c
                exact rfl
                apply Ld.ownk
                exact rfl
                exact rfl
                (focus ((repeat' (first | exact At.head | apply At.tail)); done))
                exact subE_all hol
                rfl
end Go.Proofs.YtligngjcnlbgmaaGreat
set_option linter.unusedSimpArgs false
set_option linter.unusedVariables false
namespace Go.Proofs.YtligngjcnlbgmaaGreat
open Go.RowKit Go.Shelf
set_option maxRecDepth 100000
theorem tab_len : tabV.length = 72 := rfl
theorem at_get {a : List Int} {v : Int} {r : List Value} {i : Nat} {j : Int} (hl : a.length = i) (hj : j = i) : (u8s a ++ .int .u8 v :: r)[0 + j.toNat * 1]? = some (.int .u8 v) := by
  subst hl hj
  rw [show 0 + ((a.length : Nat) : Int).toNat * 1 = (u8s a).length by rw [u8s_len]; omega, List.getElem?_append_right (Nat.le_refl _), Nat.sub_self]
  rfl
theorem at_put {a : List Int} {v x : Int} {r : List Value} {i : Nat} {j : Int} (hl : a.length = i) (hj : j = i) : setE (u8s a ++ .int .u8 v :: r) (0 + j.toNat * 1) [.int .u8 x] = some (u8s a ++ .int .u8 x :: r) := by
  subst hl hj
  rw [show 0 + ((a.length : Nat) : Int).toNat * 1 = (u8s a).length by rw [u8s_len]; omega, setE_mid _ (by simp)]
  simp
/-- Bytes that can be read in each world in which the blocks ex are as they are told. -/
def RdX (w : World) (p : Option Addr) (ex : Lst) (k : List Int) : Prop := k = [] ∨ ∃ b o, p = some ⟨b, o, none⟩ ∧ ∀ w1 L1, Hp w [] L1 w1 → (∀ z ∈ ex, z ∈ L1) → ∀ (i : Nat) v, k[i]? = some v → w1.cell? ⟨b, o + (i : Int).toNat * 1, none⟩ = some (.int .u8 v)
theorem RdX.of {w : World} {p : Option Addr} {k : List Int} (h : RdSl w p u8V k) : RdX w p [] k := by
  rcases h with h | ⟨b, o, hp, h⟩
  · exact .inl h
  · refine .inr ⟨b, o, hp, fun w1 L1 hw1 _ i v hv => ?_⟩
    obtain ⟨hi, rfl⟩ := List.getElem?_eq_some_iff.1 hv
    rw [fl_u8] at h
    rw [show o + (i : Int).toNat * 1 = o + i by omega]
    refine hw1.old ((h i (by rw [u8s_len]; exact hi)).trans ?_) List.not_mem_nil
    simp [u8s, hi]
theorem RdX.own {w : World} {b : Nat} {e : TypeId} {fz : Nat × Nat} {k : List Int} : RdX w (some ⟨b, 0, none⟩) [(b, .cells ⟨u8s k⟩ e fz)] k := by
  refine .inr ⟨b, 0, rfl, fun w1 L1 hw1 hin i v hv => ?_⟩
  obtain ⟨hi, rfl⟩ := List.getElem?_eq_some_iff.1 hv
  have h1 := hw1.get b _ (hin _ List.mem_cons_self)
  rw [show 0 + (i : Int).toNat * 1 = i by omega]
  simp [World.cell?, h1, u8s, hi]
theorem vfilled_ok (p : Option Addr) (n cap : Nat) (k : List Int) (x : Int) (hn : n = k.length) (hbig : n ≤ 999999000) (hb : Byt k) (w : World) (hp : RdSl w p u8V k) :
    CallM Tryz.prog 137 [.agg ⟨tabV⟩, .slice p n cap, .int .u8 x] [] w fun v L => ∃ b0, v = slV (some (b0, 0, [])) 64 ∧ L = blkL 5 (some (b0, 0, [])) (u8s (filledI k x)) := by
  subst hn
  have hsum := fun w1 (hc : Chg [] w w1) => sum_ok p k.length cap k rfl hbig hb w1 (hp.chg' hc (fun _ => Off.nil _))
  have htl := tab_len
  have hF : filledI k x = (padKey k ++ List.replicate (64 - (padKey k).length) 0).map fun y => xorI .u8 y x := rfl
  have hFl := filled_len k x
  have hkl := padKey_len k
  generalize tabV = tv at *
  refine enterK (tb := tb) Tryz.func137 rfl Tryz.ntmps137 rfl ?_
  repeat' (first | (apply R.is1; first | (apply R.isBin; (apply R.gtr rfl rfl rfl <;> intro)) | (apply R.isCall; (apply R.pure; exact rfl; (apply Ok1.lenS; (iterate 3 exact rfl)))) | (apply R.pure; exact rfl; first | (apply Ok1.move; exact rfl) | (apply Ok1.assign; exact rfl)) | (apply R.box; (iterate 3 exact rfl); intro)) | apply R.nil | (apply T.is; first | (refine T.meetK (x := .seq (.region 1 _ _) _) (α := Option Addr × Nat × Lst) (I := fun y => RdX w y.1 y.2.2 (padKey k)) (σi := fun y => [(1, .slice y.1 (padKey k).length y.2.1), (2, .int .u8 x)]) (Li := fun y => y.2.2) ?_ ?_) | apply T.seq | apply T.region | apply T.skip | (apply T.cond_t; exact rfl) | (apply T.cond_f; exact rfl)))
  · have hk : 64 < k.length := by omega
    have hpk : padKey k = shaI k := if_pos hk
    have hsl := sha_len k
    have hls : (u8s (shaI k)).length = 32 := by rw [u8s_len, hsl]
    have hone := u8s_one (shaI k)
    repeat' (first | (apply R.is1; first | (apply R.isCall; (apply R.callV (vs := [.agg ⟨tv⟩, .slice p k.length cap]); (iterate 3 exact rfl); intro w1 hw1; exact hsum w1 hw1.chg)) | (apply R.pure; exact rfl; first | (apply Ok1.load; exact rfl; apply Ld.ownk; exact rfl; exact rfl; exact At.head; exact subE_all htl) | (apply Ok1.sliceArr; (iterate 4 exact rfl)) | (apply Ok1.move; exact rfl) | (apply Ok1.assign; exact rfl)) | (apply R.alloc; (iterate 3 exact rfl); intro)) | (apply R.is0; (apply R.store; (iterate 4 exact rfl); exact hls; exact hone; exact Upd.head; exact setE_all hls)) | apply R.nil | (apply T.is; apply T.region))
    rename_i bx b7
    refine ⟨(some ⟨b7, 0, none⟩, 32, [(b7, .cells ⟨u8s (shaI k)⟩ 123 (0, 0))]), ?_, ⟨?_, rfl, trivial⟩, ?_⟩
    · rw [hpk]; exact RdX.own
    · rw [hpk, hsl]; rfl
    · (focus ((repeat' (first | exact Keep.nil _ | exact Ext.one _ _ | apply Keep.cons)); done))
  · have hk : ¬ 64 < k.length := by omega
    have hpk : padKey k = k := if_neg hk
    repeat' (fail)
    refine ⟨(p, cap, []), ?_, ⟨?_, rfl, trivial⟩, ?_⟩
    · rw [hpk]; exact RdX.of hp
    · rw [hpk]; rfl
    · (focus ((repeat' (exact Keep.nil _)); done))
  · rintro ⟨p1, c1, ex⟩ hrd
    simp only at hrd ⊢
    generalize padKey k = pk at *
    generalize hFF : filledI k x = Fi at *
    repeat' (first | (apply R.is1; first | (apply R.make1 (n := 64); (iterate 9 exact rfl); omega; intro b8) | (apply R.pure; exact rfl; (apply Ok1.assign; exact rfl))) | apply R.nil | (apply T.is; first | apply T.seq | apply T.region | apply T.block))
    apply T.loopK (α := Nat) (I := fun i => i ≤ 64) (σi := fun i => [(1, .slice p1 pk.length c1), (2, .int .u8 x), (8, .slice (some ⟨b8, 0, none⟩) 64 64), (9, .int .i64 i)])
      (Li := fun i => (b8, .cells ⟨u8s (Fi.take i) ++ List.replicate (64 - i) (.int .u8 0)⟩ 5 (0, 0)) :: ex) (μ := fun i => 64 - i) (i0 := 0)
    · exact Nat.zero_le _
    · exact ⟨rfl, rfl, rfl, rfl, trivial⟩
    · (focus ((repeat' (first | exact Ext.one _ _ | exact Ext.all _ | apply Keep.cons | apply Keep.last)); done))
    · intro i hi
      rcases Nat.lt_or_ge i 64 with hlt | hge
      · obtain ⟨m, hm⟩ : ∃ m, 64 - i = m + 1 := ⟨63 - i, by omega⟩
        have htk : (Fi.take i).length = i := by rw [List.length_take]; omega
        rw [hm, List.replicate_succ]
        have hgt := fun v => at_get (v := v) (r := List.replicate m (.int .u8 0)) htk (j := (i : Int)) rfl
        have hpt := fun v y => at_put (v := v) (x := y) (r := List.replicate m (.int .u8 0)) htk (j := (i : Int)) rfl
        have hsnoc : ∀ v, Fi[i]? = some v → u8s (Fi.take (i + 1)) ++ List.replicate (64 - (i + 1)) (.int .u8 0) = u8s (Fi.take i) ++ .int .u8 v :: List.replicate m (.int .u8 0) := by
          intro v hv
          rw [List.take_add_one, hv, u8s_app, List.append_assoc, show 64 - (i + 1) = m by omega]
          rfl
        rcases Nat.lt_or_ge i pk.length with hk | hk
        · obtain ⟨y, hy⟩ : ∃ y, pk[i]? = some y := ⟨_, List.getElem?_eq_getElem (by omega)⟩
          have hv : Fi[i]? = some (xorI .u8 y x) := by rw [hF, List.getElem?_map, List.getElem?_append_left hk, hy]; rfl
          rcases hrd with h0 | ⟨bp, op, rfl, hrd⟩
          · subst h0; simp at hk
          · repeat' (first | (apply R.is1; first | (apply R.isBin; (apply R.pure; exact rfl; first | (apply Ok1.xorK; exact rfl; exact rfl) | (apply Ok1.add64; exact rfl; exact rfl; omega; omega) | (apply Ok1.lss_t; exact rfl; exact rfl; omega))) | (apply R.isCall; (apply R.pure; exact rfl; (apply Ok1.lenS; (iterate 3 exact rfl)))) | (apply R.pure; exact rfl; first | (apply Ok1.indexAddrP; (iterate 6 exact rfl); omega; omega) | (apply Ok1.load; exact rfl; first | (apply Ld.own1; exact rfl; exact rfl; (focus ((repeat' (first | exact At.head | apply At.tail)); done)); exact hgt _) | (apply Ld.of1; exact rfl; exact rfl; (intro w1 hw1; exact hrd w1 _ hw1 (fun z hz => List.mem_cons_of_mem _ hz) i y hy))) | (apply Ok1.move; exact rfl) | (apply Ok1.assign; exact rfl))) | (apply R.is0; (apply R.store; (iterate 6 exact rfl); exact Upd.head; exact hpt _ _)) | apply R.nil | (apply T.is; first | apply T.seq | apply T.region | apply T.block | apply T.skip | (apply T.cond_t; exact rfl)))
            refine ⟨i + 1, by omega, by omega, ⟨rfl, rfl, rfl, rfl, trivial⟩, ?_⟩
            rw [hsnoc _ hv]
            (focus ((repeat' (first | exact Ext.one _ _ | exact Ext.all _ | apply Keep.cons | apply Keep.last)); done))
        · have hv : Fi[i]? = some (xorI .u8 0 x) := by rw [hF, List.getElem?_map, List.getElem?_append_right hk, List.getElem?_replicate, if_pos (by omega)]; rfl
          repeat' (first | (apply R.is1; first | (apply R.isBin; (apply R.pure; exact rfl; first | (apply Ok1.xorK; exact rfl; exact rfl) | (apply Ok1.add64; exact rfl; exact rfl; omega; omega) | (apply Ok1.lss_t; exact rfl; exact rfl; omega) | (apply Ok1.lss_f; exact rfl; exact rfl; omega))) | (apply R.isCall; (apply R.pure; exact rfl; (apply Ok1.lenS; (iterate 3 exact rfl)))) | (apply R.pure; exact rfl; first | (apply Ok1.load; exact rfl; apply Ld.own1; exact rfl; exact rfl; exact At.head; exact hgt _) | (apply Ok1.move; exact rfl) | (apply Ok1.assign; exact rfl) | (apply Ok1.indexAddr; (iterate 5 exact rfl); omega; omega))) | (apply R.is0; (apply R.store; (iterate 6 exact rfl); exact Upd.head; exact hpt _ _)) | apply R.nil | (apply T.is; first | apply T.seq | apply T.region | apply T.block | apply T.skip | (apply T.cond_t; exact rfl) | (apply T.cond_f; exact rfl)))
          refine ⟨i + 1, by omega, by omega, ⟨rfl, rfl, rfl, rfl, trivial⟩, ?_⟩
          rw [hsnoc _ hv]
          (focus ((repeat' (first | exact Ext.one _ _ | exact Ext.all _ | apply Keep.cons | apply Keep.last)); done))
      · have he : i = 64 := by omega
        subst he
        rw [List.take_of_length_le (by omega), Nat.sub_self, List.replicate_zero]
        repeat' (first | (apply R.is1; first | (apply R.isBin; (apply R.pure; exact rfl; (apply Ok1.lss_f; exact rfl; exact rfl; omega))) | (apply R.pure; exact rfl; first | (apply Ok1.move; exact rfl) | (apply Ok1.assign; exact rfl))) | apply R.nil | (apply T.is; first | apply T.seq | apply T.region | apply T.exit | apply T.ret | (apply T.cond_f; exact rfl)))
        (apply RetOk.t; exact rfl)
        exact ⟨_, by (focus ((repeat' (first | exact Keep.nil _ | exact Ext.one _ _ | apply Keep.cons)); done)), b8, rfl, rfl⟩
theorem vtag_ok (p : Option Addr) (n cap : Nat) (k : List Int) (hn : n = k.length) (hbig : n ≤ 999999000) (hkb : Byt k) (pb : Option Addr) (m cb : Nat) (b : List Int) (hm : m = b.length) (hbb : Byt b) (hbig2 : m ≤ 999998000) (w : World) (hp : RdSl w p u8V k) (hpb : RdSl w pb u8V b) :
    CallW Tryz.prog 118 [.agg ⟨tabV⟩, .slice p n cap, .slice pb m cb] w fun v _ => v = .agg ⟨u8s (hmacI k b)⟩ := by
  subst hn hm
  have hfil1 := fun w1 (hc : Chg [] w w1) => vfilled_ok p k.length cap k 54 rfl hbig hkb w1 (hp.chg' hc (fun _ => Off.nil _))
  have hfil2 := fun w1 (hc : Chg [] w w1) => vfilled_ok p k.length cap k 92 rfl hbig hkb w1 (hp.chg' hc (fun _ => Off.nil _))
  have hsum := fun p n c b h1 h2 h3 w1 hp => sum_ok p n c b h1 h2 h3 w1 hp
  have htl := tab_len
  have hto : tabV.all Value.oneCell' = true := rfl
  have hl1 := filled_len k 54
  have hl2 := filled_len k 92
  have hb1 := filled_byt k 54
  have hb2 := filled_byt k 92
  obtain ⟨d, hd⟩ : ∃ d, d = shaI (filledI k 54 ++ b) := ⟨_, rfl⟩
  have hdl : d.length = 32 := by rw [hd]; exact sha_len _
  have hdb : Byt d := by rw [hd]; exact sha_byt _
  have hh : hmacI k b = shaI (filledI k 92 ++ d) := by rw [hd]; rfl
  have hhl : (u8s (hmacI k b)).length = 32 := by rw [u8s_len, hh, sha_len]
  have hho := u8s_one (hmacI k b)
  generalize hmacI k b = hm at *
  have hdls : (u8s d).length = 32 := by rw [u8s_len, hdl]
  have hdo := u8s_one d
  generalize filledI k 54 = f1 at *
  generalize filledI k 92 = f2 at *
  have hF1 : ∀ b0, OvOk 1 (some (b0, 0, [])) 64 (u8s f1) := fun b0 => ⟨by rw [u8s_len, hl1], rfl⟩
  have hF2 : ∀ b0, OvOk 1 (some (b0, 0, [])) 64 (u8s f2) := fun b0 => ⟨by rw [u8s_len, hl2], rfl⟩
  have hs1 : ∀ {ov : Ov}, OvOk 1 ov (64 + b.length) (u8s (f1 ++ b)) → ∀ {w1 : World} {S : List Nat} {L : Lst}, Hp w S L w1 → (∀ z ∈ blkL 5 ov (u8s (f1 ++ b)), z ∈ L) → CallW Tryz.prog 136 [.agg ⟨tabV⟩, .slice (ovp ov) (64 + b.length) (ovc ov (64 + b.length))] w1 fun v _ => v = .agg ⟨u8s d⟩ := by
    intro ov hov w1 S L hw1 hin
    have he : 64 + b.length = (f1 ++ b).length := by rw [List.length_append, hl1]
    rw [hd]
    exact hsum _ _ _ (f1 ++ b) he (by omega) (hb1.app hbb) w1 (rdown (by rw [← he]; exact hov) hw1 hin)
  have hs2 : ∀ {ov : Ov}, OvOk 1 ov (64 + 32) (u8s (f2 ++ d)) → ∀ {w1 : World} {S : List Nat} {L : Lst}, Hp w S L w1 → (∀ z ∈ blkL 5 ov (u8s (f2 ++ d)), z ∈ L) → CallW Tryz.prog 136 [.agg ⟨tabV⟩, .slice (ovp ov) (64 + 32) (ovc ov (64 + 32))] w1 fun v _ => v = .agg ⟨u8s hm⟩ := by
    intro ov hov w1 S L hw1 hin
    have he : 64 + 32 = (f2 ++ d).length := by rw [List.length_append, hl2, hdl]
    rw [hh]
    exact hsum _ _ _ (f2 ++ d) he (by omega) (hb2.app hdb) w1 (rdown (by rw [← he]; exact hov) hw1 hin)
  clear hsum hd hh
  generalize tabV = tv at *
  refine enterW (tb := tb) Tryz.func118 rfl Tryz.ntmps118 rfl ?_
  repeat' (first | (apply R.is1; first | (apply R.box; (iterate 3 exact rfl); intro) | (apply R.alloc; (iterate 3 exact rfl); intro)) | apply R.nil | (apply T.is; first | (refine T.meetK (x := .region 1 _ _) (α := Nat × Nat × Nat) (I := fun _ => True) (σi := fun y => [(1, .slice p k.length cap), (3, .pointer (some ⟨y.2.1, 0, none⟩)), (6, .pointer (some ⟨y.2.2, 0, none⟩)), (7, .pointer (some ⟨y.1, 0, none⟩))]) (Li := fun y => [(y.1, .cells ⟨u8s d⟩ 123 (0, 0)), (y.2.2, .cells ⟨List.replicate 32 (.int .u8 0)⟩ 123 (0, 0)), (y.2.1, .cells ⟨tv⟩ 34 (0, 0))]) ?_ ?_) | apply T.seq | apply T.region))
  · repeat' ((apply T.is; (apply T.drawC (id := 1) [1] (by decide); ((apply A.take 0; exact rfl; exact rfl; kernel_rfl; kernel_rfl; kernel_rfl; (apply Ok1.load; exact rfl; apply Ld.ownk; exact rfl; exact rfl; exact At.head; exact subE_all htl)) <;> (apply A.take 1; exact rfl; exact rfl; kernel_rfl; kernel_rfl; kernel_rfl; (apply Ok1.load; exact rfl; apply Ld.ownk; exact rfl; exact rfl; exact At.head; exact subE_all htl)) <;> (apply A.take 2; exact rfl; exact rfl; kernel_rfl; kernel_rfl; kernel_rfl; (apply Ok1.move; exact rfl)) <;> (apply A.take 4; exact rfl; exact rfl; kernel_rfl; kernel_rfl; kernel_rfl; (apply Ok1.move; exact rfl)) <;> (apply A.two 3 7; kernel_rfl; exact rfl; exact rfl; rotate_left 1; (focus (((((apply R.alloc; (iterate 3 exact rfl); intro))); apply R.nil; refine ⟨?_, ?_⟩; (focus ((repeat' (first | exact trivial | (refine ⟨?_, ?_⟩; (focus ((repeat' (first | exact At.head | apply At.tail)); done)))))))) <;> (apply A.one 3; kernel_rfl; exact rfl; (((apply R.callE (vs := [.agg ⟨tv⟩, .slice p k.length cap, .int .u8 54]); (iterate 3 exact rfl); exact Ext.none _; intro w1 hw1; exact hfil1 w1 hw1.chg; rintro v Lo ⟨b0, rfl, rfl⟩))); apply R.nil; refine ⟨?_, ?_⟩; (focus ((repeat' (first | exact trivial | (refine ⟨?_, ?_⟩; (focus ((repeat' (first | exact At.head | apply At.tail)); done)))))))) <;> (apply A.one 5; kernel_rfl; exact rfl; (((apply R.appendRd (xs := b) (v := u8V) (sz := 1) (ov := some (b0, 0, [])) (n := 64) (old := u8s f1); (iterate 12 exact rfl); exact hF1 b0; (focus ((repeat' (exact Ext.one _ _)); done)); exact rfl; exact u8V_len; exact rfl; (intro w1 hw1; exact hpb.chg' hw1.chg (fun _ => Off.nil _)); (focus (rw [fl_u8]; exact u8s_one b)); omega; intro ov1 hov1 hsome; rw [fl_u8, ← u8s_app] at hov1; rw [fl_u8, ← u8s_app, slV_eq hov1]))); apply R.nil; refine ⟨?_, ?_⟩; (focus ((repeat' (first | exact trivial | (refine ⟨?_, ?_⟩; (focus ((repeat' (first | exact At.head | apply At.tail | apply At.right)); done)))))))) <;> (apply A.one 6; kernel_rfl; exact rfl; (((apply R.callV (vs := [.agg ⟨tv⟩, .slice (ovp ov1) _ _]); (iterate 3 exact rfl); intro w1 hw1; exact hs1 hov1 hw1 (Ext.mem (by (focus ((repeat' (exact Ext.here _ _)); done))))))); apply R.nil; refine ⟨?_, ?_⟩; (focus ((repeat' (first | exact trivial | (refine ⟨?_, ?_⟩; (focus ((repeat' (first | exact At.head | apply At.tail | apply At.right)); done)))))))) <;> (apply A.one 8; kernel_rfl; exact rfl; (((apply R.store; (iterate 4 exact rfl); exact hdls; exact hdo; (focus ((repeat' (first | exact Upd.head | apply Upd.right)); done)); exact setE_all hdls))); apply R.nil; refine ⟨?_, ?_⟩; (focus ((repeat' (first | exact trivial | (refine ⟨?_, ?_⟩; (focus ((repeat' (first | exact At.head | apply At.tail | apply At.right)); done)))))))) <;> (apply A.done; kernel_rfl))); rotate_right 1; (focus (((((apply R.callE (vs := [.agg ⟨tv⟩, .slice p k.length cap, .int .u8 54]); (iterate 3 exact rfl); exact Ext.none _; intro w1 hw1; exact hfil1 w1 hw1.chg; rintro v Lo ⟨b0, rfl, rfl⟩))); apply R.nil; refine ⟨?_, ?_⟩; (focus ((repeat' (first | exact trivial | (refine ⟨?_, ?_⟩; (focus ((repeat' (first | exact At.head | apply At.tail)); done)))))))) <;> (apply A.two 5 7; kernel_rfl; exact rfl; exact rfl; rotate_left 1; (focus (((((apply R.alloc; (iterate 3 exact rfl); intro))); apply R.nil; refine ⟨?_, ?_⟩; (focus ((repeat' (first | exact trivial | (refine ⟨?_, ?_⟩; (focus ((repeat' (first | exact At.head | apply At.tail)); done)))))))) <;> (apply A.one 5; kernel_rfl; exact rfl; (((apply R.appendRd (xs := b) (v := u8V) (sz := 1) (ov := some (b0, 0, [])) (n := 64) (old := u8s f1); (iterate 12 exact rfl); exact hF1 b0; (focus ((repeat' (first | exact Ext.one _ _ | apply Ext.cons)); done)); exact rfl; exact u8V_len; exact rfl; (intro w1 hw1; exact hpb.chg' hw1.chg (fun _ => Off.nil _)); (focus (rw [fl_u8]; exact u8s_one b)); omega; intro ov1 hov1 hsome; rw [fl_u8, ← u8s_app] at hov1; rw [fl_u8, ← u8s_app, slV_eq hov1]))); apply R.nil; refine ⟨?_, ?_⟩; (focus ((repeat' (first | exact trivial | (refine ⟨?_, ?_⟩; (focus ((repeat' (first | exact At.head | apply At.tail | apply At.right)); done)))))))) <;> (apply A.one 6; kernel_rfl; exact rfl; (((apply R.callV (vs := [.agg ⟨tv⟩, .slice (ovp ov1) _ _]); (iterate 3 exact rfl); intro w1 hw1; exact hs1 hov1 hw1 (Ext.mem (by (focus ((repeat' (exact Ext.here _ _)); done))))))); apply R.nil; refine ⟨?_, ?_⟩; (focus ((repeat' (first | exact trivial | (refine ⟨?_, ?_⟩; (focus ((repeat' (first | exact At.head | apply At.tail | apply At.right)); done)))))))) <;> (apply A.one 8; kernel_rfl; exact rfl; (((apply R.store; (iterate 4 exact rfl); exact hdls; exact hdo; (focus ((repeat' (first | exact Upd.head | apply Upd.right)); done)); exact setE_all hdls))); apply R.nil; refine ⟨?_, ?_⟩; (focus ((repeat' (first | exact trivial | (refine ⟨?_, ?_⟩; (focus ((repeat' (first | exact At.head | apply At.tail | apply At.right)); done)))))))) <;> (apply A.done; kernel_rfl))); rotate_right 1; (focus (((((apply R.appendRd (xs := b) (v := u8V) (sz := 1) (ov := some (b0, 0, [])) (n := 64) (old := u8s f1); (iterate 12 exact rfl); exact hF1 b0; (focus ((repeat' (exact Ext.one _ _)); done)); exact rfl; exact u8V_len; exact rfl; (intro w1 hw1; exact hpb.chg' hw1.chg (fun _ => Off.nil _)); (focus (rw [fl_u8]; exact u8s_one b)); omega; intro ov1 hov1 hsome; rw [fl_u8, ← u8s_app] at hov1; rw [fl_u8, ← u8s_app, slV_eq hov1]))); apply R.nil; refine ⟨?_, ?_⟩; (focus ((repeat' (first | exact trivial | (refine ⟨?_, ?_⟩; (focus ((repeat' (first | exact At.head | apply At.tail | apply At.right)); done)))))))) <;> (apply A.two 6 7; kernel_rfl; exact rfl; exact rfl; rotate_left 1; (focus (((((apply R.alloc; (iterate 3 exact rfl); intro))); apply R.nil; refine ⟨?_, ?_⟩; (focus ((repeat' (first | exact trivial | (refine ⟨?_, ?_⟩; (focus ((repeat' (first | exact At.head | apply At.tail | apply At.right)); done)))))))) <;> (apply A.one 6; kernel_rfl; exact rfl; (((apply R.callV (vs := [.agg ⟨tv⟩, .slice (ovp ov1) _ _]); (iterate 3 exact rfl); intro w1 hw1; exact hs1 hov1 hw1 (Ext.mem (by (focus ((repeat' (first | exact Ext.here _ _ | apply Ext.cons)); done))))))); apply R.nil; refine ⟨?_, ?_⟩; (focus ((repeat' (first | exact trivial | (refine ⟨?_, ?_⟩; (focus ((repeat' (first | exact At.head | apply At.tail | apply At.right)); done)))))))) <;> (apply A.one 8; kernel_rfl; exact rfl; (((apply R.store; (iterate 4 exact rfl); exact hdls; exact hdo; exact Upd.head; exact setE_all hdls))); apply R.nil; refine ⟨?_, ?_⟩; (focus ((repeat' (first | exact trivial | (refine ⟨?_, ?_⟩; (focus ((repeat' (first | exact At.head | apply At.tail | apply At.right)); done)))))))) <;> (apply A.done; kernel_rfl))); rotate_right 1; (focus (((((apply R.callV (vs := [.agg ⟨tv⟩, .slice (ovp ov1) _ _]); (iterate 3 exact rfl); intro w1 hw1; exact hs1 hov1 hw1 (Ext.mem (by (focus ((repeat' (exact Ext.here _ _)); done))))))); apply R.nil; refine ⟨?_, ?_⟩; (focus ((repeat' (first | exact trivial | (refine ⟨?_, ?_⟩; (focus ((repeat' (first | exact At.head | apply At.tail | apply At.right)); done)))))))) <;> (apply A.one 7; kernel_rfl; exact rfl; (((apply R.alloc; (iterate 3 exact rfl); intro))); apply R.nil; refine ⟨?_, ?_⟩; (focus ((repeat' (first | exact trivial | (refine ⟨?_, ?_⟩; (focus ((repeat' (first | exact At.head | apply At.tail | apply At.right)); done)))))))) <;> (apply A.one 8; kernel_rfl; exact rfl; (((apply R.store; (iterate 4 exact rfl); exact hdls; exact hdo; exact Upd.head; exact setE_all hdls))); apply R.nil; refine ⟨?_, ?_⟩; (focus ((repeat' (first | exact trivial | (refine ⟨?_, ?_⟩; (focus ((repeat' (first | exact At.head | apply At.tail | apply At.right)); done)))))))) <;> (apply A.done; kernel_rfl))))))))))))))
    all_goals exact ⟨(_, _, _), trivial, ⟨rfl, rfl, rfl, rfl, trivial⟩, by (focus ((repeat' (first | exact Keep.nil _ | exact Ext.one _ _ | apply Keep.cons | apply Ext.app)); done))⟩
  · rintro ⟨b7, bT, bO⟩ _
    repeat' ((apply T.is; first | (apply T.drawC (id := 2) [2] (by decide); ((apply A.take 0; exact rfl; exact rfl; kernel_rfl; kernel_rfl; kernel_rfl; (apply Ok1.load; exact rfl; apply Ld.ownk; exact rfl; exact rfl; exact At.head; exact subE_all htl)) <;> (apply A.take 1; exact rfl; exact rfl; kernel_rfl; kernel_rfl; kernel_rfl; (apply Ok1.load; exact rfl; apply Ld.ownk; exact rfl; exact rfl; exact At.head; exact subE_all htl)) <;> (apply A.take 2; exact rfl; exact rfl; kernel_rfl; kernel_rfl; kernel_rfl; (apply Ok1.move; exact rfl)) <;> (apply A.take 4; exact rfl; exact rfl; kernel_rfl; kernel_rfl; kernel_rfl; (apply Ok1.sliceArr; (iterate 4 exact rfl))) <;> (apply A.one 3; kernel_rfl; exact rfl; (((apply R.callE (vs := [.agg ⟨tv⟩, .slice p k.length cap, .int .u8 92]); (iterate 3 exact rfl); exact Ext.none _; intro w1 hw1; exact hfil2 w1 hw1.chg; rintro v Lo ⟨b0, rfl, rfl⟩))); apply R.nil; refine ⟨?_, ?_⟩; (focus ((repeat' (first | exact trivial | (refine ⟨?_, ?_⟩; (focus ((repeat' (first | exact At.head | apply At.tail)); done)))))))) <;> (apply A.one 5; kernel_rfl; exact rfl; (((apply R.appendRd (xs := d) (v := u8V) (sz := 1) (ov := some (b0, 0, [])) (n := 64) (old := u8s f2); (iterate 12 exact rfl); exact hF2 b0; (focus ((repeat' (exact Ext.one _ _)); done)); exact hdl.symm; exact u8V_len; exact rfl; (intro w1 hw1; exact RdSl.of (junk := []) hw1 (by (focus ((repeat' (first | exact At.head | apply At.tail)); done))) (by rw [fl_u8, List.append_nil])); (focus (rw [fl_u8]; exact u8s_one d)); omega; intro ov1 hov1 hsome; rw [fl_u8, ← u8s_app] at hov1; rw [fl_u8, ← u8s_app, slV_eq hov1]))); apply R.nil; refine ⟨?_, ?_⟩; (focus ((repeat' (first | exact trivial | (refine ⟨?_, ?_⟩; (focus ((repeat' (first | exact At.head | apply At.tail | apply At.right)); done)))))))) <;> (apply A.one 6; kernel_rfl; exact rfl; (((apply R.callV (vs := [.agg ⟨tv⟩, .slice (ovp ov1) _ _]); (iterate 3 exact rfl); intro w1 hw1; exact hs2 hov1 hw1 (Ext.mem (by (focus ((repeat' (exact Ext.here _ _)); done))))))); apply R.nil; refine ⟨?_, ?_⟩; (focus ((repeat' (first | exact trivial | (refine ⟨?_, ?_⟩; (focus ((repeat' (first | exact At.head | apply At.tail | apply At.right)); done)))))))) <;> (apply A.one 7; kernel_rfl; exact rfl; (((apply R.store; (iterate 4 exact rfl); exact hhl; exact hho; (focus ((repeat' (first | exact Upd.head | apply Upd.tail | apply Upd.right)); done)); exact setE_all hhl))); apply R.nil; refine ⟨?_, ?_⟩; (focus ((repeat' (first | exact trivial | (refine ⟨?_, ?_⟩; (focus ((repeat' (first | exact At.head | apply At.tail | apply At.right)); done)))))))) <;> (apply A.done; kernel_rfl))) | apply T.seq | apply T.ret))
    all_goals apply RetOk.c
    all_goals first | exact rfl | skip
    all_goals (apply Ld.ownk; exact rfl; exact rfl; (focus ((repeat' (first | exact At.head | apply At.tail | apply At.right)); done)); exact subE_all hhl)
end Go.Proofs.YtligngjcnlbgmaaGreat
set_option linter.unusedSimpArgs false
set_option linter.unusedVariables false
namespace Go.Proofs.YtligngjcnlbgmaaGreat
open Go.RowKit Go.Shelf
set_option maxRecDepth 100000
def fr (ps : List Pt) : List Int := frameI (ps.map (·.xs))
theorem fr_snoc {ps : List Pt} {i : Nat} {x : Pt} (h : ps[i]? = some x) : fr (ps.take (i + 1)) = (fr (ps.take i) ++ len4 x.xs.length) ++ x.xs := by
  unfold fr
  rw [List.take_add_one, h, List.map_append, frame_app]
  simp [frame_one]
theorem fr_le (ps : List Pt) (i : Nat) : (fr (ps.take i)).length ≤ (fr ps).length := by
  conv => rhs; rw [← List.take_append_drop i ps]
  unfold fr
  rw [List.map_append, frame_app, List.length_append]
  omega
theorem vframe_ok (pp : Option Addr) (m cap : Nat) (ps : List Pt) (hm : m = ps.length) (hm2 : m ≤ 100000) (hbig : (fr ps).length ≤ 1000000000) (hbig1 : ∀ x ∈ ps, x.xs.length ≤ 1000000000) (w : World) (hp : RdSl w pp Pt.v ps) (hall : ∀ x ∈ ps, RdSl w x.p u8V x.xs) :
    CallM Tryz.prog 119 [.slice pp m cap] [] w fun v L => ∃ ov, OvOk 1 ov (fr ps).length (u8s (fr ps)) ∧ v = slV ov (fr ps).length ∧ L = blkL 5 ov (u8s (fr ps)) := by
  subst hm
  refine enterK (tb := tb) Tryz.func119 rfl Tryz.ntmps119 rfl ?_
  repeat' (first | (apply R.is1; (apply R.pure; exact rfl; (apply Ok1.assign; exact rfl))) | apply R.nil | (apply T.is; first | apply T.seq | apply T.region | apply T.block))
  apply T.loopK (α := Nat × Ov) (I := fun y => y.1 ≤ ps.length ∧ OvOk 1 y.2 (fr (ps.take y.1)).length (u8s (fr (ps.take y.1)))) (σi := fun y => [(0, .slice pp ps.length cap), (3, slV y.2 (fr (ps.take y.1)).length), (4, .int .i64 y.1)]) (Li := fun y => blkL 5 y.2 (u8s (fr (ps.take y.1)))) (μ := fun y => ps.length - y.1) (i0 := (0, none))
  · exact ⟨Nat.zero_le _, OvOk.start 1⟩
  · exact ⟨rfl, rfl, rfl, trivial⟩
  · (focus ((repeat' (exact Keep.nil _)); done))
  · rintro ⟨i, ov⟩ ⟨hi, hov⟩
    simp only at hi hov ⊢
    rcases Nat.lt_or_ge i ps.length with hlt | hge
    · obtain ⟨x, hx⟩ : ∃ x, ps[i]? = some x := ⟨_, List.getElem?_eq_getElem (by omega)⟩
      obtain ⟨b, o, hpe, H⟩ := hp.at hx
      replace H := H 1 Pt.v_len
      have hs := fr_snoc hx
      have hle := fr_le ps (i + 1)
      have hrd := hall x (List.mem_of_getElem? hx)
      have hxb := hbig1 x (List.mem_of_getElem? hx)
      have h4 : (len4 (x.xs.length : Int)).length = 4 := rfl
      have hl := congrArg List.length hs
      rw [List.length_append, List.length_append, h4] at hl
      rw [hs] at hle
      rw [List.length_append, List.length_append, h4] at hle
      generalize fr (ps.take i) = a at *
      have hc4 : u8s (len4 x.xs.length) = [.int .u8 (IntKind.u8.wrap ((x.xs.length : Int) / 16777216)), .int .u8 (IntKind.u8.wrap ((x.xs.length : Int) / 65536 % 256)), .int .u8 (IntKind.u8.wrap ((x.xs.length : Int) / 256 % 256)), .int .u8 (IntKind.u8.wrap ((x.xs.length : Int) % 256))] := by
        simp only [u8_mod, Int.emod_emod_of_dvd _ (Int.dvd_refl 256)]
        rfl
      have hc5 : u8s (len4 x.xs.length) = [.int .u8 ((x.xs.length : Int) / 16777216), .int .u8 ((x.xs.length : Int) / 65536 % 256), .int .u8 ((x.xs.length : Int) / 256 % 256), .int .u8 ((x.xs.length : Int) % 256)] := by
        have : (x.xs.length : Int) / 16777216 % 256 = (x.xs.length : Int) / 16777216 := by omega
        simp only [len4, u8s, List.map_cons, List.map_nil, this]
      generalize len4 x.xs.length = l4 at *
      repeat' (first | (apply R.is1; first | (apply R.isBin; (apply R.pure; exact rfl; first | (apply Ok1.add64; exact rfl; exact rfl; omega; omega) | (apply Ok1.lss_t; exact rfl; exact rfl; omega) | (apply Ok1.quo64; exact rfl; exact rfl; omega; omega; omega) | (apply Ok1.remN; exact rfl; exact rfl; omega; omega))) | (apply R.isCall; first | (apply R.appendRd (xs := l4) (v := u8V) (sz := 1) (ov := ov) (n := a.length) (old := u8s a); (iterate 12 exact rfl); exact hov; (focus ((repeat' (first | exact Ext.all _ | apply Ext.cons)); done)); exact h4.symm; exact u8V_len; exact rfl; (intro w1 hw1; exact RdSl.of (junk := []) hw1 (by exact At.head) (by rw [fl_u8, List.append_nil]; exact hc5.symm)); (focus (rw [fl_u8]; exact u8s_one l4)); omega; intro ov1 hov1 hsome; rw [fl_u8, ← u8s_app] at hov1; rw [fl_u8, ← u8s_app]) | (apply R.appendRd (xs := x.xs) (v := u8V) (sz := 1) (ov := ov1) (n := a.length + 4) (old := u8s (a ++ l4)); (iterate 12 exact rfl); exact hov1; (focus ((repeat' (exact Ext.here _ _)); done)); exact rfl; exact u8V_len; exact rfl; (intro w1 hw1; exact hrd.chg' hw1.chg (fun _ => Off.nil _)); (focus (rw [fl_u8]; exact u8s_one x.xs)); omega; intro ov2 hov2 hsome2; rw [fl_u8, ← u8s_app] at hov2; rw [fl_u8, ← u8s_app]) | (apply R.pure; exact rfl; (apply Ok1.lenS; (iterate 3 exact rfl)))) | (apply R.pure; exact rfl; first | (apply Ok1.indexAddrP; (iterate 4 exact rfl); exact hpe; exact rfl; omega; omega) | (apply Ok1.load; exact rfl; apply Ld.row0 H; exact rfl; exact List.not_mem_nil; (iterate 3 exact rfl)) | (apply Ok1.move; exact rfl) | (apply Ok1.assign; exact rfl) | (apply Ok1.convU8; (iterate 5 exact rfl); omega; omega)) | (apply R.buildSlice; (iterate 12 exact rfl); intro)) | apply R.nil | (apply T.is; first | apply T.seq | apply T.region | apply T.block | apply T.skip | (apply T.cond_t; exact rfl)))
      refine ⟨(i + 1, ov2), ⟨by simp only; omega, ?_⟩, by simp only; omega, ⟨rfl, ?_, rfl, trivial⟩, ?_⟩
      · simp only [hs]; rw [← hs, hl, hs]; exact hov2
      · simp only [hl]; rfl
      · simp only [hs]; (focus ((repeat' (first | exact Ext.here _ _ | apply Keep.last)); done))
    · have him : i = ps.length := by omega
      subst him
      rw [List.take_length] at hov ⊢
      repeat' (first | (apply R.is1; first | (apply R.isBin; (apply R.pure; exact rfl; (apply Ok1.lss_f; exact rfl; exact rfl; omega))) | (apply R.isCall; (apply R.pure; exact rfl; (apply Ok1.lenS; (iterate 3 exact rfl)))) | (apply R.pure; exact rfl; first | (apply Ok1.move; exact rfl) | (apply Ok1.assign; exact rfl))) | apply R.nil | (apply T.is; first | apply T.seq | apply T.region | apply T.exit | apply T.ret | (apply T.cond_f; exact rfl)))
      (apply RetOk.t; exact rfl)
      exact ⟨_, by (focus ((repeat' (first | exact Ext.all _ | apply Keep.last)); done)), ov, hov, rfl, rfl⟩
theorem vderive_ok (p : Option Addr) (n cap : Nat) (k : List Int) (hn : n = k.length) (hkl : n ≤ 999999000) (hkb : Byt k) (name : ByteArray) (hname : name.size ≤ 1000000) (pp : Option Addr) (m cp : Nat) (ps : List Pt) (hm : m = ps.length) (hm2 : m ≤ 10000) (hpb : ∀ x ∈ ps, Byt x.xs) (hbig : (frameI (strI name :: ps.map (·.xs))).length ≤ 999998000) (hbig1 : ∀ x ∈ ps, x.xs.length ≤ 1000000000) (w : World) (hpk : RdSl w p u8V k) (hp : RdSl w pp Pt.v ps) (hall : ∀ x ∈ ps, RdSl w x.p u8V x.xs) :
    CallW Tryz.prog 117 [.agg ⟨tabV⟩, .slice p n cap, .string name, .slice pp m cp] w fun v _ => v = .agg ⟨u8s (deriveI k name (ps.map (·.xs)))⟩ := by
  subst hn hm
  have htl := tab_len
  have hto : tabV.all Value.oneCell' = true := rfl
  have hnl : (strI name).length = name.size := by simp [strI]
  have hfb : Byt (frameI (strI name :: ps.map (·.xs))) := frame_byt fun l hl => by
    rcases List.mem_cons.1 hl with rfl | hl
    · exact str_byt _
    · obtain ⟨x, hx, rfl⟩ := List.mem_map.1 hl
      exact hpb x hx
  have hdl := derive_len k name (ps.map (·.xs))
  have hdd : deriveI k name (ps.map (·.xs)) = hmacI k (frameI (strI name :: ps.map (·.xs))) := rfl
  have hpt : ∀ bn jn : Nat, [Value.slice (some ⟨bn, 0, none⟩) name.size (name.size + jn)] = fl Pt.v [⟨some ⟨bn, 0, none⟩, name.size + jn, strI name⟩] := by intro bn jn; simp [fl, Pt.v, hnl]
  have hfr : ∀ (bn jn : Nat) w1 pl cl, Chg [] w w1 → RdSl w1 pl Pt.v (⟨some ⟨bn, 0, none⟩, name.size + jn, strI name⟩ :: ps) → RdSl w1 (some ⟨bn, 0, none⟩) u8V (strI name) → CallM Tryz.prog 119 [.slice pl (1 + ps.length) cl] [] w1 fun v L => ∃ ov, OvOk 1 ov (frameI (strI name :: ps.map (·.xs))).length (u8s (frameI (strI name :: ps.map (·.xs)))) ∧ v = slV ov (frameI (strI name :: ps.map (·.xs))).length ∧ L = blkL 5 ov (u8s (frameI (strI name :: ps.map (·.xs)))) := by
    intro bn jn w1 pl cl hc h1 h2
    refine vframe_ok pl (1 + ps.length) cl (⟨some ⟨bn, 0, none⟩, name.size + jn, strI name⟩ :: ps) (by rw [List.length_cons]; omega) (by omega) (Nat.le_trans hbig (by decide)) ?_ w1 h1 ?_
    · intro x hx
      rcases List.mem_cons.1 hx with rfl | hx
      · simp only [hnl]; omega
      · exact hbig1 x hx
    · intro x hx
      rcases List.mem_cons.1 hx with rfl | hx
      · exact h2
      · exact (hall x hx).chg' hc (fun _ => Off.nil _)
  have htg := fun pb cb w1 (hc : Chg [] w w1) hb => vtag_ok p k.length cap k rfl hkl hkb pb _ cb (frameI (strI name :: ps.map (·.xs))) rfl hfb hbig w1 (hpk.chg' hc (fun _ => Off.nil _)) hb
  rw [← hdd] at htg
  generalize frameI (strI name :: ps.map (·.xs)) = fr0 at *
  generalize deriveI k name (ps.map (·.xs)) = d0 at *
  have hls : (u8s d0).length = 32 := by rw [u8s_len, hdl]
  have hone := u8s_one d0
  have hpo : (fl Pt.v ps).all Value.oneCell' = true := by rw [List.all_eq_true]; intro x hx; unfold fl at hx; simp only [List.mem_flatten, List.mem_map] at hx; obtain ⟨_, ⟨y, _, rfl⟩, hx⟩ := hx; rw [List.mem_singleton.1 hx]; rfl
  generalize tabV = tv at *
  refine enterW (tb := tb) Tryz.func117 rfl Tryz.ntmps117 rfl ?_
  repeat' (first | (apply R.is1; first | (apply R.box; (iterate 3 exact rfl); intro) | (apply R.alloc; (iterate 3 exact rfl); intro)) | apply R.nil | (apply T.is; first | (apply T.drawC (id := 1) [1] (by decide); ((apply A.take 0; exact rfl; exact rfl; kernel_rfl; kernel_rfl; kernel_rfl; (apply Ok1.load; exact rfl; apply Ld.ownk; exact rfl; exact rfl; exact At.head; exact subE_all htl)) <;> (apply A.take 1; exact rfl; exact rfl; kernel_rfl; kernel_rfl; kernel_rfl; (apply Ok1.move; exact rfl)) <;> (apply A.take 2; exact rfl; exact rfl; kernel_rfl; kernel_rfl; kernel_rfl; (apply Ok1.move; exact rfl)) <;> (apply A.take 5; exact rfl; exact rfl; kernel_rfl; kernel_rfl; kernel_rfl; (apply Ok1.move; exact rfl)) <;> (apply A.one 3; kernel_rfl; exact rfl; (((apply R.convBytes; (iterate 8 exact rfl); intro bn jn kn))); apply R.nil; refine ⟨?_, ?_⟩; (focus ((repeat' (first | exact trivial | (refine ⟨?_, ?_⟩; (focus ((repeat' (first | exact At.head | apply At.tail)); done)))))))) <;> (apply A.one 4; kernel_rfl; exact rfl; (((apply R.buildSlice; (iterate 12 exact rfl); intro))); apply R.nil; refine ⟨?_, ?_⟩; (focus ((repeat' (first | exact trivial | (refine ⟨?_, ?_⟩; (focus ((repeat' (first | exact At.head | apply At.tail)); done)))))))) <;> (apply A.one 6; kernel_rfl; exact rfl; (((apply R.appendRd (xs := ps) (v := Pt.v) (sz := 1) (ov := some (_, 0, [])) (n := 1) (old := [.slice (some ⟨bn, 0, none⟩) name.size (name.size + jn)]); (iterate 12 exact rfl); exact ⟨rfl, rfl⟩; (focus ((repeat' (exact Ext.one _ _)); done)); exact rfl; exact Pt.v_len; exact rfl; (intro w1 hw1; exact hp.chg' hw1.chg (fun _ => Off.nil _)); exact hpo; omega; intro ov1 hov1 hsome; rw [hpt bn jn, ← fl_app] at hov1; rw [hpt bn jn, ← fl_app, slV_eq hov1]))); apply R.nil; refine ⟨?_, ?_⟩; (focus ((repeat' (first | exact trivial | (refine ⟨?_, ?_⟩; (focus ((repeat' (first | exact At.head | apply At.tail | apply At.right)); done)))))))) <;> (apply A.one 7; kernel_rfl; exact rfl; (((apply R.callE (vs := [.slice (ovp ov1) (1 + ps.length) _]); (iterate 3 exact rfl); exact Ext.none _; intro w1 hw1; exact hfr bn jn w1 _ _ hw1.chg (RdSl.own' (sz := 1) hw1 (Ext.mem (by (focus ((repeat' (exact Ext.here _ _)); done)))) (by show OvOk 1 ov1 (ps.length + 1) _; rw [Nat.add_comm ps.length 1]; exact hov1) Pt.v_len) (RdSl.of (junk := kn) hw1 (by (focus ((repeat' (first | exact At.head | apply At.right)); done))) (by rw [fl_u8]; rfl)); rintro v Lo ⟨ov2, hov2, rfl, rfl⟩; rw [slV_eq hov2]))); apply R.nil; refine ⟨?_, ?_⟩; (focus ((repeat' (first | exact trivial | (refine ⟨?_, ?_⟩; (focus ((repeat' (first | exact At.head | apply At.tail | apply At.right)); done)))))))) <;> (apply A.one 8; kernel_rfl; exact rfl; (((apply R.callV (vs := [.agg ⟨tv⟩, .slice p k.length cap, .slice (ovp ov2) fr0.length _]); (iterate 3 exact rfl); intro w1 hw1; exact htg _ _ w1 hw1.chg (rdown hov2 hw1 (Ext.mem (by (focus ((repeat' (exact Ext.here _ _)); done)))))))); apply R.nil; refine ⟨?_, ?_⟩; (focus ((repeat' (first | exact trivial | (refine ⟨?_, ?_⟩; (focus ((repeat' (first | exact At.head | apply At.tail | apply At.right)); done)))))))) <;> (apply A.one 9; kernel_rfl; exact rfl; (((apply R.store; (iterate 4 exact rfl); exact hls; exact hone; (focus ((repeat' (first | exact Upd.head | apply Upd.tail | apply Upd.right)); done)); exact setE_all hls))); apply R.nil; refine ⟨?_, ?_⟩; (focus ((repeat' (first | exact trivial | (refine ⟨?_, ?_⟩; (focus ((repeat' (first | exact At.head | apply At.tail | apply At.right)); done)))))))) <;> (apply A.done; kernel_rfl))) | apply T.seq | apply T.region | apply T.ret))
  all_goals apply RetOk.c
  all_goals first | exact rfl | skip
  all_goals (apply Ld.ownk; exact rfl; exact rfl; (focus ((repeat' (first | exact At.head | apply At.tail | apply At.right)); done)); exact subE_all hls)
end Go.Proofs.YtligngjcnlbgmaaGreat
set_option linter.unusedSimpArgs false
set_option linter.unusedVariables false
namespace Go.Proofs.YtligngjcnlbgmaaGreat
open Go.RowKit Go.Shelf
set_option maxRecDepth 100000
structure Cl where
  id : Int
  roles : Int
  exp : Int
  ser : Int
  deriving DecidableEq
instance : Inhabited Cl := ⟨⟨0, 0, 0, 0⟩⟩
def Cl.v (c : Cl) : List Value := [.int .i64 c.id, .int .i64 c.roles, .int .i64 c.exp, .int .i64 c.ser]
def kvC (c : Cl) : Value := .agg ⟨[.int .i64 c.id, .int .i64 c.roles, .int .i64 c.exp, .int .i64 c.ser]⟩
def Cl.right (c : Cl) : Prop := 1 ≤ c.id ∧ c.id ≤ 65535 ∧ 0 ≤ c.roles ∧ c.roles ≤ 255 ∧ 0 ≤ c.exp ∧ c.exp ≤ 1073741824 ∧ 1 ≤ c.ser ∧ c.ser ≤ 65535
instance (c : Cl) : Decidable c.right := by unfold Cl.right; infer_instance

theorem spans_ok (a b c d : Int) : CallP Tryz.prog 120 [.agg ⟨[.int .i64 a, .int .i64 b, .int .i64 c, .int .i64 d]⟩]
    (.agg ⟨[.int .i64 a, .int .i64 1, .int .i64 65535, .int .i64 b, .int .i64 0, .int .i64 255, .int .i64 c, .int .i64 0, .int .i64 1073741824, .int .i64 d, .int .i64 1, .int .i64 65535]⟩) := by
  refine enterP (tb := tb) Tryz.func120 rfl Tryz.ntmps120 rfl fun w => ?_
  repeat' (first | (apply R.is1; first | (apply R.pure; exact rfl; first | (apply Ok1.fieldAddr; (iterate 5 exact rfl)) | (apply Ok1.load; exact rfl; first | (apply Ld.own1; exact rfl; exact rfl; (focus ((repeat' (first | exact At.head | apply At.tail | apply At.right)); done)); exact rfl) | (apply Ld.ownk; exact rfl; exact rfl; (focus ((repeat' (first | exact At.head | apply At.tail | apply At.right)); done)); exact rfl) | (apply Ld.old1; exact rfl; exact rfl; assumption; (first | exact List.not_mem_nil | assumption)) | (apply Ld.blk1; exact rfl; exact rfl; assumption; (first | exact List.not_mem_nil | assumption); exact rfl) | (apply Ld.blkk; exact rfl; exact rfl; assumption; (first | exact List.not_mem_nil | assumption); exact rfl)) | (apply Ok1.build; (iterate 5 exact rfl)) | (apply Ok1.buildA; (iterate 6 exact rfl))) | (apply R.box; (iterate 3 exact rfl); intro) | (apply R.alloc; (iterate 3 exact rfl); intro)) | (apply R.is0; first | (apply R.store; (iterate 6 exact rfl); (focus ((repeat' (first | exact Upd.head | apply Upd.tail | apply Upd.right)); done)); exact rfl) | fail) | (apply R.isG; first | (apply R.guard_run; exact rfl; exact rfl) | (apply R.guard_not; (iterate 3 exact rfl)) | (apply R.guard_not0; exact rfl; exact rfl) | (apply R.guard_un; (iterate 3 exact rfl)) | (apply R.guard_un0; exact rfl; exact rfl) | (apply R.guard rfl rfl ?_ (fun h => ⟨rfl, ?_⟩) <;> try intro)) | apply R.nil | (apply T.is; first | apply T.seq | apply T.region | apply T.block | apply T.scope | apply T.label | apply T.skip | apply T.exit | apply T.ret | (apply T.cond_t; exact rfl) | (apply T.cond_f; exact rfl) | (apply T.cond_h; exact rfl; assumption) | (apply T.cond_n; exact rfl; assumption) | (apply T.cond rfl <;> intro)) | apply Rnd.step)
  (apply RetOk.c; exact rfl; (first | (apply Ld.ownk; exact rfl; exact rfl; (focus ((repeat' (first | exact At.head | apply At.tail | apply At.right)); done)); exact rfl) | (apply Ld.own1; exact rfl; exact rfl; (focus ((repeat' (first | exact At.head | apply At.tail | apply At.right)); done)); exact rfl)))
  rfl
theorem check_ok (a b c d : Int) : CallP Tryz.prog 81 [.agg ⟨[.int .i64 a, .int .i64 b, .int .i64 c, .int .i64 d]⟩] (.int .i64 (if Cl.right ⟨a, b, c, d⟩ then 0 else 10)) := by
  refine enterP (tb := tb) Tryz.func81 rfl Tryz.ntmps81 rfl fun w => ?_
  repeat' (first | (apply R.is1; first | (apply R.isBin; first | (apply R.pure; exact rfl; first | (apply Ok1.add64; exact rfl; exact rfl; omega; omega) | (apply Ok1.lss_t; exact rfl; exact rfl; omega) | (apply Ok1.lss_f; exact rfl; exact rfl; omega) | (apply Ok1.leq_t; exact rfl; exact rfl; omega) | (apply Ok1.leq_f; exact rfl; exact rfl; omega) | (apply Ok1.geq_t; exact rfl; exact rfl; omega) | (apply Ok1.geq_f; exact rfl; exact rfl; omega)) | (apply R.lss rfl rfl rfl <;> intro) | (apply R.leq rfl rfl rfl <;> intro) | (apply R.geq rfl rfl rfl <;> intro)) | (apply R.isCall; first | apply R.callP rfl rfl rfl (spans_ok _ _ _ _)) | (apply R.pure; exact rfl; first | (apply Ok1.move; exact rfl) | (apply Ok1.fieldAddr; (iterate 5 exact rfl)) | (apply Ok1.load; exact rfl; first | (apply Ld.own1; exact rfl; exact rfl; (focus ((repeat' (first | exact At.head | apply At.tail | apply At.right)); done)); exact rfl) | (apply Ld.ownk; exact rfl; exact rfl; (focus ((repeat' (first | exact At.head | apply At.tail | apply At.right)); done)); exact rfl) | (apply Ld.old1; exact rfl; exact rfl; assumption; (first | exact List.not_mem_nil | assumption)) | (apply Ld.blk1; exact rfl; exact rfl; assumption; (first | exact List.not_mem_nil | assumption); exact rfl) | (apply Ld.blkk; exact rfl; exact rfl; assumption; (first | exact List.not_mem_nil | assumption); exact rfl)) | (apply Ok1.assign; exact rfl) | (apply Ok1.pick_t; exact rfl; exact rfl) | (apply Ok1.pick_f; exact rfl; exact rfl) | (apply Ok1.pick_h; exact rfl; assumption; exact rfl) | (apply Ok1.pick_n; exact rfl; assumption; exact rfl) | (apply Ok1.index1; (iterate 6 exact rfl); omega; omega; exact rfl) | (apply Ok1.indexk; (iterate 6 exact rfl); omega; omega; exact rfl)) | (apply R.box; (iterate 3 exact rfl); intro) | (apply R.alloc; (iterate 3 exact rfl); intro)) | (apply R.is0; first | (apply R.store; (iterate 6 exact rfl); (focus ((repeat' (first | exact Upd.head | apply Upd.tail | apply Upd.right)); done)); exact rfl) | fail) | (apply R.isG; first | (apply R.guard_run; exact rfl; exact rfl) | (apply R.guard_not; (iterate 3 exact rfl)) | (apply R.guard_not0; exact rfl; exact rfl) | (apply R.guard_un; (iterate 3 exact rfl)) | (apply R.guard_un0; exact rfl; exact rfl) | (apply R.guard rfl rfl ?_ (fun h => ⟨rfl, ?_⟩) <;> try intro)) | apply R.nil | (apply T.is; first | apply T.rounds 5 | apply T.seq | apply T.region | apply T.block | apply T.scope | apply T.label | apply T.skip | apply T.exit | apply T.ret | (apply T.cond_t; exact rfl) | (apply T.cond_f; exact rfl) | (apply T.cond_h; exact rfl; assumption) | (apply T.cond_n; exact rfl; assumption) | (apply T.cond rfl <;> intro)) | apply Rnd.step)
  all_goals (apply RetOk.t; exact rfl)
  all_goals first | rw [if_pos (by simp only [Cl.right]; omega)] | rw [if_neg (by simp only [Cl.right]; omega)]

def cmpI (x y : Int) : Int := if x < y then -1 else if y < x then 1 else 0
theorem isNaN_ok (x : Int) : CallP Tryz.prog 132 [.int .i64 x] (.bool false) := by
  refine enterP (tb := tb) Tryz.func132 rfl Tryz.ntmps132 rfl fun w => ?_
  repeat' (first | (apply R.is1; first | (apply R.isBin; first | (apply R.pure; exact rfl; first | (apply Ok1.neq_t; exact rfl; exact rfl; omega) | (apply Ok1.neq_f; exact rfl; exact rfl; omega) | (apply Ok1.neqP; (iterate 5 exact rfl)) | (apply Ok1.neqM; (iterate 5 exact rfl)) | (apply Ok1.neqS; (iterate 5 exact rfl))) | (apply R.neq rfl rfl rfl <;> intro) | (apply R.neqF; (iterate 8 exact rfl); all_goals intro)) | (apply R.pure; exact rfl; first | (apply Ok1.move; exact rfl) | (apply Ok1.assign; exact rfl))) | (apply R.is0; first | fail) | (apply R.isG; first | (apply R.guard_run; exact rfl; exact rfl) | (apply R.guard_not; (iterate 3 exact rfl)) | (apply R.guard_not0; exact rfl; exact rfl) | (apply R.guard_un; (iterate 3 exact rfl)) | (apply R.guard_un0; exact rfl; exact rfl) | (apply R.guard rfl rfl ?_ (fun h => ⟨rfl, ?_⟩) <;> try intro)) | apply R.nil | (apply T.is; first | apply T.seq | apply T.region | apply T.block | apply T.scope | apply T.label | apply T.skip | apply T.exit | apply T.ret | (apply T.cond_t; exact rfl) | (apply T.cond_f; exact rfl) | (apply T.cond_h; exact rfl; assumption) | (apply T.cond_n; exact rfl; assumption) | (apply T.cond rfl <;> intro)) | apply Rnd.step)
  (apply RetOk.t; exact rfl)
  rfl
theorem cmp_ok (x y : Int) : CallP Tryz.prog 109 [.int .i64 x, .int .i64 y] (.int .i64 (cmpI x y)) := by
  refine enterP (tb := tb) Tryz.func109 rfl Tryz.ntmps109 rfl fun w => ?_
  repeat' (first | (apply R.is1; first | (apply R.isBin; first | (apply R.pure; exact rfl; first | (apply Ok1.lss_t; exact rfl; exact rfl; omega) | (apply Ok1.lss_f; exact rfl; exact rfl; omega) | (apply Ok1.gtr_t; exact rfl; exact rfl; omega) | (apply Ok1.gtr_f; exact rfl; exact rfl; omega)) | (apply R.lss rfl rfl rfl <;> intro) | (apply R.gtr rfl rfl rfl <;> intro)) | (apply R.isCall; first | apply R.callP rfl rfl rfl (isNaN_ok _)) | (apply R.pure; exact rfl; first | (apply Ok1.move; exact rfl) | (apply Ok1.assign; exact rfl))) | (apply R.is0; first | fail) | (apply R.isG; first | (apply R.guard_run; exact rfl; exact rfl) | (apply R.guard_not; (iterate 3 exact rfl)) | (apply R.guard_not0; exact rfl; exact rfl) | (apply R.guard_un; (iterate 3 exact rfl)) | (apply R.guard_un0; exact rfl; exact rfl) | (apply R.guard rfl rfl ?_ (fun h => ⟨rfl, ?_⟩) <;> try intro)) | apply R.nil | (apply T.is; first | apply T.seq | apply T.region | apply T.block | apply T.scope | apply T.label | apply T.skip | apply T.exit | apply T.ret | (apply T.cond_t; exact rfl) | (apply T.cond_f; exact rfl) | (apply T.cond_h; exact rfl; assumption) | (apply T.cond_n; exact rfl; assumption) | (apply T.cond rfl <;> intro)) | apply Rnd.step)
  all_goals (apply RetOk.t; exact rfl)
  all_goals simp only [cmpI]
  all_goals first | rw [if_pos (by omega)] | (rw [if_neg (by omega), if_pos (by omega)]) | (rw [if_neg (by omega), if_neg (by omega)])
end Go.Proofs.YtligngjcnlbgmaaGreat
set_option linter.unusedSimpArgs false
set_option linter.unusedVariables false
namespace Go.Proofs.YtligngjcnlbgmaaGreat
open Go.RowKit Go.Shelf
set_option maxRecDepth 100000
theorem vwidth_ok (s : Nat) (h : s ≤ 2) : CallP Tryz.prog 116 [.int .i64 s] (.int .i64 ((2 ^ s : Nat) : Int)) := by
  have hs : s = 0 ∨ s = 1 ∨ s = 2 := by omega
  refine enterP (tb := tb) Tryz.func116 rfl Tryz.ntmps116 rfl fun w => ?_
  rcases hs with rfl | rfl | rfl
  all_goals repeat' (first | (apply R.is1; (apply R.pure; exact rfl; first | (apply Ok1.move; exact rfl) | (apply Ok1.assign; exact rfl) | (apply Ok1.index1; (iterate 6 exact rfl); omega; omega; exact rfl) | (apply Ok1.buildA; (iterate 6 exact rfl)))) | apply R.nil | (apply T.is; first | apply T.seq | apply T.region | apply T.ret))
  all_goals (apply RetOk.t; exact rfl)
  all_goals rfl
def beI : Nat → Int → List Int → List Int
  | 0, _, a => a
  | w + 1, n, a => beI w (n / 256) (n % 256 :: a)
theorem beI_len : ∀ (w : Nat) (n : Int) (a : List Int), (beI w n a).length = w + a.length
  | 0, _, a => by simp [beI]
  | w + 1, n, a => by rw [beI, beI_len w]; simp; omega
theorem vout_ok (s : Nat) (hs : s ≤ 2) (n : Int) (h0 : 0 ≤ n) (h1 : n ≤ 1099511627776) (w : World) : CallM Tryz.prog 75 [.agg ⟨[.int .i64 s, .int .i64 n, .slice none 0 0]⟩] [] w fun v L => ∃ ov, OvOk 1 ov (2 ^ s) (u8s (beI (2 ^ s) n [])) ∧ v = slV ov (2 ^ s) ∧ L = blkL 5 ov (u8s (beI (2 ^ s) n [])) := by
  have hw := vwidth_ok s hs
  have hs4 : (s : Int) ≠ 4 := by omega
  have hpw : 2 ^ s ≤ 4 := by
    have : s = 0 ∨ s = 1 ∨ s = 2 := by omega
    rcases this with rfl | rfl | rfl <;> decide
  have hbl := beI_len (2 ^ s) n []
  generalize hW : 2 ^ s = W at *
  rw [List.length_nil, Nat.add_zero] at hbl
  obtain ⟨V, hV⟩ : ∃ V, V = beI W n [] := ⟨_, rfl⟩
  rw [← hV] at hbl ⊢
  refine enterK (tb := tb) Tryz.func75 rfl Tryz.ntmps75 rfl ?_
  repeat' (first | (apply R.is1; first | (apply R.isBin; (apply R.pure; exact rfl; (apply Ok1.eql_f; exact rfl; exact rfl; omega))) | (apply R.pure; exact rfl; first | (apply Ok1.fieldAddr; (iterate 5 exact rfl)) | (apply Ok1.load; exact rfl; (apply Ld.own1; exact rfl; exact rfl; exact At.head; exact rfl)) | (apply Ok1.assign; exact rfl)) | (apply R.box; (iterate 3 exact rfl); intro)) | apply R.nil | (apply T.is; first | apply T.seq | apply T.region | apply T.block | apply T.skip | (apply T.cond_f; exact rfl)))
  rename_i bF
  apply T.loopK (α := Nat × Ov × List Int × Int) (I := fun y => y.1 ≤ W ∧ y.2.2.1.length = y.1 ∧ OvOk 1 y.2.1 y.2.2.1.length (u8s y.2.2.1) ∧ 0 ≤ y.2.2.2 ∧ y.2.2.2 ≤ 1099511627776 ∧ beI (W - y.1) y.2.2.2 y.2.2.1 = V) (σi := fun y => [(1, .pointer (some ⟨bF, 0, none⟩)), (3, .slice (ovp y.2.1) y.2.2.1.length (ovc y.2.1 y.2.2.1.length)), (4, .int .i64 y.2.2.2), (5, .int .i64 y.1)]) (Li := fun y => (bF, .cells ⟨[.int .i64 s, .int .i64 n, .slice none 0 0]⟩ 160 (0, 0)) :: blkL 5 y.2.1 (u8s y.2.2.1)) (μ := fun y => W - y.1) (i0 := (0, none, [], n))
  · exact ⟨Nat.zero_le _, rfl, OvOk.start 1, h0, h1, hV.symm⟩
  · exact ⟨rfl, rfl, rfl, rfl, trivial⟩
  · (focus ((repeat' (first | exact Keep.nil _ | exact Ext.one _ _ | apply Keep.cons)); done))
  · rintro ⟨i, ov, bs, m⟩ ⟨hi, hl, hov, hm0, hm1, hbe⟩
    simp only at hi hl hov hm0 hm1 hbe ⊢
    rcases Nat.lt_or_ge i W with hlt | hge
    · have hb2 : beI (W - (i + 1)) (m / 256) (m % 256 :: bs) = V := by
        rw [show W - i = (W - (i + 1)) + 1 by omega] at hbe; exact hbe
      repeat' (first | (apply R.is1; first | (apply R.isBin; (apply R.pure; exact rfl; first | (apply Ok1.add64; exact rfl; exact rfl; omega; omega) | (apply Ok1.lss_t; exact rfl; exact rfl; omega) | (apply Ok1.quo64; exact rfl; exact rfl; omega; omega; omega) | (apply Ok1.remN; exact rfl; exact rfl; omega; omega))) | (apply R.isCall; first | apply R.callP rfl rfl rfl hw | (apply R.appendRd (xs := bs) (v := u8V) (sz := 1) (ov := some (_, 0, [])) (n := 1) (old := [.int .u8 (m % 256)]); (iterate 12 exact rfl); exact ⟨rfl, rfl⟩; (focus ((repeat' (exact Ext.one _ _)); done)); exact rfl; exact u8V_len; exact rfl; (intro w1 hw1; exact rdown hov hw1 (Ext.mem (by (focus ((repeat' (first | exact Ext.all _ | apply Ext.cons)); done))))); (focus (rw [fl_u8]; exact u8s_one bs)); omega; intro ov1 hov1 hsome; rw [fl_u8, Nat.add_comm] at hov1; change OvOk 1 ov1 (m % 256 :: bs).length (u8s (m % 256 :: bs)) at hov1; rw [fl_u8])) | (apply R.pure; exact rfl; first | (apply Ok1.move; exact rfl) | (apply Ok1.fieldAddr; (iterate 5 exact rfl)) | (apply Ok1.load; exact rfl; (apply Ld.own1; exact rfl; exact rfl; exact At.head; exact rfl)) | (apply Ok1.assign; exact rfl) | (apply Ok1.convU8; (iterate 5 exact rfl); omega; omega)) | (apply R.buildSlice; (iterate 12 exact rfl); intro)) | apply R.nil | (apply T.is; first | apply T.seq | apply T.region | apply T.block | apply T.skip | (apply T.cond_t; exact rfl)))
      exact ⟨(i + 1, ov1, m % 256 :: bs, m / 256), ⟨by simp only; omega, by simp only [List.length_cons, hl], hov1, by simp only; omega, by simp only; omega, hb2⟩, by simp only; omega, ⟨rfl, by simp only; rw [← slV_eq hov1, List.length_cons, Nat.add_comm]; rfl, rfl, rfl, trivial⟩, by (focus ((repeat' (first | exact Ext.one _ _ | exact Ext.here _ _ | apply Keep.cons | apply Keep.last | apply Ext.app)); done))⟩
    · have he : i = W := by omega
      subst he
      rw [Nat.sub_self] at hbe
      have hbv : bs = V := hbe
      subst hbv
      rw [← slV_eq hov]
      repeat' (first | (apply R.is1; first | (apply R.isBin; (apply R.pure; exact rfl; (apply Ok1.lss_f; exact rfl; exact rfl; omega))) | (apply R.isCall; apply R.callP rfl rfl rfl hw) | (apply R.pure; exact rfl; first | (apply Ok1.move; exact rfl) | (apply Ok1.fieldAddr; (iterate 5 exact rfl)) | (apply Ok1.load; exact rfl; (apply Ld.own1; exact rfl; exact rfl; exact At.head; exact rfl)) | (apply Ok1.assign; exact rfl))) | apply R.nil | (apply T.is; first | apply T.seq | apply T.region | apply T.exit | apply T.ret | (apply T.cond_f; exact rfl)))
      (apply RetOk.t; exact rfl)
      rw [hl] at hov ⊢
      exact ⟨_, by (focus ((repeat' (first | exact Ext.all _ | apply Keep.last | apply Ext.cons)); done)), ov, hov, rfl, rfl⟩
theorem be4 (n : Int) : beI 4 n [] = len4 n := by
  have h2 : n / 256 / 256 = n / 65536 := by omega
  have h3 : n / 65536 / 256 = n / 16777216 := by omega
  simp only [beI, len4, h2, h3]
end Go.Proofs.YtligngjcnlbgmaaGreat
set_option linter.unusedSimpArgs false
set_option linter.unusedVariables false
namespace Go.Proofs.YtligngjcnlbgmaaGreat
open Go.RowKit Go.Shelf
set_option maxRecDepth 100000
theorem RdSl.mid {w0 w : World} {S : List Nat} {L : Lst} {b : Nat} {e : TypeId} {fz : Nat × Nat} {pre junk : List Value} {xs : List Int} (hw : Hp w0 S L w) (hat : At L b (.cells ⟨pre ++ u8s xs ++ junk⟩ e fz)) {o : Nat} (ho : o = pre.length) : RdSl w (some ⟨b, o, none⟩) u8V xs := by
  subst ho
  right
  refine ⟨b, pre.length, rfl, fun k hk => ?_⟩
  have h1 := hw.get b _ hat.mem
  rw [fl_u8] at hk ⊢
  simp only [World.cell?, h1]
  simp only [List.append_assoc, List.getElem?_toArray]
  rw [List.getElem?_append_right (by omega), List.getElem?_append_left (by omega), Nat.add_sub_cancel_left]
  rfl
end Go.Proofs.YtligngjcnlbgmaaGreat
set_option linter.unusedSimpArgs false
set_option linter.unusedVariables false
namespace Go.Proofs.YtligngjcnlbgmaaGreat
open Go.ChangeShapes Go.WideShapes Go.ChangeAt Go.RowKit
theorem Tryz.own : ownKnob Tryz.prog.godebug = none := by kernel_rfl
def byKs : List TK := [.int .u8]
theorem by_dec : ∀ cs, allW byKs cs → ∃ x : Int, u8V x = cs := by
  rintro cs h
  simp only [byKs] at h
  match cs, h with
  | [.int k1 a], h =>
    obtain ⟨⟨rfl, _⟩, _⟩ := h
    exact ⟨a, rfl⟩
theorem byt_of {xs : List Int} (h : ∀ x ∈ xs, allW byKs (u8V x)) : Byt xs := by
  intro x hx
  obtain ⟨⟨_, h2⟩, _⟩ := h x hx
  have e0 : IntKind.u8.min = 0 := rfl
  have e1 : IntKind.u8.max = 255 := rfl
  omega
end Go.Proofs.YtligngjcnlbgmaaGreat
set_option linter.unusedSimpArgs false
set_option linter.unusedVariables false
namespace Go.Proofs.YtligngjcnlbgmaaGreat
open Go.RowKit Go.Shelf
set_option maxRecDepth 100000
theorem len64_ok (x : Int) (h0 : 0 ≤ x) (h1 : x ≤ 18446744073709551615) : CallP Tryz.prog 159 [.int .u64 x] (.int .i64 (blen x.toNat)) := by
  refine enterP (tb := tb) Tryz.func159 rfl Tryz.ntmps159 rfl fun w => ?_
  repeat' (first | (apply R.is1; first | (apply R.isBin; first | (apply R.pure; exact rfl; first | (apply Ok1.add64; exact rfl; exact rfl; omega; omega) | (apply Ok1.geq_t; exact rfl; exact rfl; omega) | (apply Ok1.geq_f; exact rfl; exact rfl; omega) | (apply Ok1.shr; exact rfl; exact rfl; omega; exact Nat.le_of_ble_eq_true rfl; (first | exact pwE1 | exact pwE2 | exact pwE3 | exact pwE4 | exact pwE5 | exact pwE6 | exact pwE7 | exact pwE8 | exact pwE16 | exact pwE24 | exact pwE32 | exact rfl))) | (apply R.geq rfl rfl rfl <;> intro)) | (apply R.pure; exact rfl; first | (apply Ok1.len8; (iterate 4 exact rfl); omega; omega; kernel_rfl) | (apply Ok1.move; exact rfl) | (apply Ok1.assign; exact rfl) | (apply Ok1.index1; (iterate 6 exact rfl); omega; omega; exact rfl) | (apply Ok1.indexk; (iterate 6 exact rfl); omega; omega; exact rfl) | (apply Ok1.convI64; (iterate 5 exact rfl); omega; omega) | (apply Ok1.convU64; (iterate 5 exact rfl); omega; omega) | (apply Ok1.convU32; (iterate 5 exact rfl); omega; omega) | (apply Ok1.convU8; (iterate 5 exact rfl); omega; omega) | (apply Ok1.conv; (iterate 5 exact rfl)))) | (apply R.is0; first | fail) | (apply R.isG; first | (apply R.guard_run; exact rfl; exact rfl) | (apply R.guard_not; (iterate 3 exact rfl)) | (apply R.guard_not0; exact rfl; exact rfl) | (apply R.guard_un; (iterate 3 exact rfl)) | (apply R.guard_un0; exact rfl; exact rfl) | (apply R.guard rfl rfl ?_ (fun h => ⟨rfl, ?_⟩) <;> try intro)) | apply R.nil | (apply T.is; first | apply T.seq | apply T.region | apply T.block | apply T.scope | apply T.label | apply T.skip | apply T.exit | apply T.ret | (apply T.cond_t; exact rfl) | (apply T.cond_f; exact rfl) | (apply T.cond_h; exact rfl; assumption) | (apply T.cond_n; exact rfl; assumption) | (apply T.cond rfl <;> intro)) | apply Rnd.step)
  all_goals (apply RetOk.t; exact rfl)
  all_goals congr 1
  all_goals rw [Nat.min_eq_left (blen_le 8 (by omega))]
  all_goals first
    | (rw [blen32 (x := x.toNat) (by omega), blen16 (x := x.toNat / 4294967296) (by omega), blen8 (x := x.toNat / 4294967296 / 65536) (by omega), show (x / 4294967296 / 65536 / 256).toNat = x.toNat / 4294967296 / 65536 / 256 by omega]; omega)
    | (rw [blen32 (x := x.toNat) (by omega), blen16 (x := x.toNat / 4294967296) (by omega), show (x / 4294967296 / 65536).toNat = x.toNat / 4294967296 / 65536 by omega]; omega)
    | (rw [blen32 (x := x.toNat) (by omega), blen8 (x := x.toNat / 4294967296) (by omega), show (x / 4294967296 / 256).toNat = x.toNat / 4294967296 / 256 by omega]; omega)
    | (rw [blen32 (x := x.toNat) (by omega), show (x / 4294967296).toNat = x.toNat / 4294967296 by omega]; omega)
    | (rw [blen16 (x := x.toNat) (by omega), blen8 (x := x.toNat / 65536) (by omega), show (x / 65536 / 256).toNat = x.toNat / 65536 / 256 by omega]; omega)
    | (rw [blen16 (x := x.toNat) (by omega), show (x / 65536).toNat = x.toNat / 65536 by omega]; omega)
    | (rw [blen8 (x := x.toNat) (by omega), show (x / 256).toNat = x.toNat / 256 by omega]; omega)
    | omega
theorem len_ok (x : Int) (h0 : 0 ≤ x) (h1 : x ≤ 18446744073709551615) : CallP Tryz.prog 131 [.int .u64 x] (.int .i64 (blen x.toNat)) := by
  refine enterP (tb := tb) Tryz.func131 rfl Tryz.ntmps131 rfl fun w => ?_
  repeat' (first | (apply R.is1; first | (apply R.isCall; first | apply R.callP rfl rfl rfl (len64_ok _ (by omega) (by omega))) | (apply R.pure; exact rfl; first | (apply Ok1.move; exact rfl) | (apply Ok1.assign; exact rfl) | (apply Ok1.convI64; (iterate 5 exact rfl); omega; omega) | (apply Ok1.convU64; (iterate 5 exact rfl); omega; omega) | (apply Ok1.convU32; (iterate 5 exact rfl); omega; omega) | (apply Ok1.convU8; (iterate 5 exact rfl); omega; omega) | (apply Ok1.conv; (iterate 5 exact rfl)))) | (apply R.is0; first | fail) | (apply R.isG; first | (apply R.guard_run; exact rfl; exact rfl) | (apply R.guard_not; (iterate 3 exact rfl)) | (apply R.guard_not0; exact rfl; exact rfl) | (apply R.guard_un; (iterate 3 exact rfl)) | (apply R.guard_un0; exact rfl; exact rfl) | (apply R.guard rfl rfl ?_ (fun h => ⟨rfl, ?_⟩) <;> try intro)) | apply R.nil | (apply T.is; first | apply T.seq | apply T.region | apply T.block | apply T.scope | apply T.label | apply T.skip | apply T.exit | apply T.ret | (apply T.cond_t; exact rfl) | (apply T.cond_f; exact rfl) | (apply T.cond_h; exact rfl; assumption) | (apply T.cond_n; exact rfl; assumption) | (apply T.cond rfl <;> intro)) | apply Rnd.step)
  all_goals (apply RetOk.t; exact rfl)
  rfl
end Go.Proofs.YtligngjcnlbgmaaGreat
set_option linter.unusedSimpArgs false
set_option linter.unusedVariables false
namespace Go.Proofs.YtligngjcnlbgmaaGreat
open Go.RowKit Go.Shelf Go.Sort
theorem cmpI_neg (x y : Int) : cmpI x y < 0 ↔ x < y := by
  unfold cmpI
  repeat' split
  all_goals omega
theorem cmpI_zero (x y : Int) : cmpI x y = 0 ↔ x = y := by
  unfold cmpI
  repeat' split
  all_goals omega
end Go.Proofs.YtligngjcnlbgmaaGreat
set_option linter.unusedSimpArgs false
set_option linter.unusedVariables false
set_option linter.unusedSectionVars false
namespace Go.Proofs.YtligngjcnlbgmaaGreat
open Go.RowKit Go.Shelf Go.Sort
section
variable {α : Type} [Inhabited α] {enc : α → List Value} {k : Nat}
theorem flatK_get (hk : ∀ x, (enc x).length = k) (d : Array α) {t : Nat} (ht : t < d.size * k) : (flatK enc k d)[t]? = (fl enc d.toList)[t]? := by
  have k0 : 0 < k := by rcases Nat.eq_zero_or_pos k with h | h; · subst h; simp at ht
                        · exact h
  have hdm := Nat.div_add_mod t k
  have hml := Nat.mod_lt t k0
  have hil : t / k < d.size := by rw [Nat.div_lt_iff_lt_mul k0]; exact ht
  have hg : d.toList[t / k]? = some d[t / k]! := by simp [hil]
  have h5 := fl_get hk hg hml
  rw [show t / k * k + t % k = t by rw [Nat.mul_comm]; exact hdm] at h5
  rw [h5]
  have h6 := get_flatK enc k d t ht
  rw [getElem!_pos _ t (by simpa using ht)] at h6
  rw [Array.getElem?_eq_getElem (by simpa using ht), h6, List.getElem?_eq_getElem (by rw [hk]; exact hml), getElem!_pos _ _ (by rw [hk]; exact hml)]
theorem putCells_own (hk : ∀ x, (enc x).length = k) (d : Array α) {old junk : List Value} (ho : old.length = d.size * k) :
    putCells id 0 (flatK enc k d) ⟨old ++ junk⟩ = ⟨fl enc d.toList ++ junk⟩ := by
  apply Array.ext_getElem?
  intro t
  have hl : (fl enc d.toList).length = d.size * k := by rw [fl_len hk]; simp
  simp only [putCells, Array.getElem?_mapIdx, Nat.zero_le, true_and, Nat.zero_add, Nat.sub_zero, size_flatK, id, List.getElem?_toArray]
  by_cases ht : t < d.size * k
  · rw [List.getElem?_append_left (by omega), List.getElem?_append_left (by omega), List.getElem?_eq_getElem (by omega), ← flatK_get hk d ht]
    simp [ht]
  · rw [List.getElem?_append_right (by omega), List.getElem?_append_right (by omega), ho, hl]
    cases junk[t - d.size * k]? with
    | none => rfl
    | some v => simp [ht]

theorem sortWorld_own (hk : ∀ x, (enc x).length = k) {w : World} {b m : Nat} {d : Array α} {os : Array Obj} {old junk : List Value} {e : TypeId} {fz : Nat × Nat} (hb : w.heap[b]? = some (.cells ⟨old ++ junk⟩ e fz)) (ho : old.length = d.size * k) :
    Chg [b] w (sortWorldK enc k w b 0 m d os) ∧ (sortWorldK enc k w b 0 m d os).heap[b]? = some (.cells ⟨fl enc d.toList ++ junk⟩ e fz) := by
  have hlt := (Array.getElem?_eq_some_iff.1 hb).1
  refine ⟨⟨rfl, rfl, rfl, ?_, ?_, ?_⟩, ?_⟩
  · simp [sortWorldK, grow, putRowK, putRow, mapBlock, Sort.ahead]
  · simp [sortWorldK, grow, putRowK, putRow, mapBlock, Sort.ahead]
  · intro i hi hs
    have hne : b ≠ i := fun h => hs (by simp [h])
    simp [sortWorldK, grow, putRowK, putRow, mapBlock, Sort.ahead, Array.getElem?_append, hi, Array.getElem_modify, hne]
  · simp only [sortWorldK, grow, putRowK, putRow, mapBlock, Sort.ahead]
    rw [Array.getElem?_append_left (by simpa using hlt), Array.getElem?_modify, if_pos rfl, hb]
    simp only [Option.map_some, onCells, putCells_own hk d ho]

/-- Ascending: no later one is less than an earlier one. -/
def Asc (cf : α → α → Int) (rs : List α) : Prop := rs.Pairwise fun a b => ¬ cf b a < 0

/-- What the program's slices.SortFunc does to an own slice of rows. -/
theorem sort_ok {P : Program} {ρ : Ren} (L : SlLaysF0.n6 P ρ) (aE : ∀ w, (isAgg (ρ.t 24)).run P w = .ok true w) (zE : ∀ w, (Go.sizeOf (ρ.t 24)).run P w = .ok k w) (hk : ∀ x, (enc x).length = k) (h1 : ∀ x, ∀ v ∈ enc x, v.oneCell' = true) (cf : α → α → Int) (hO : SWO (ltOf cf)) (g : Nat) (cb : List Value) {f : FuncId} (hf : ρ.f 6 = f)
    (b cap : Nat) (rs : List α) (junk : List Value) (e : TypeId) (w : World) (he : Enters P g) (hsz : rs.length ≤ 1000000)
    (hcmp : ∀ W, Chg [b] w W → ∀ x y, CallW P g ([.agg ⟨enc x⟩, .agg ⟨enc y⟩] ++ cb) W fun v _ => v = .int .i64 (cf x y)) :
    CallM P f [.slice (some ⟨b, 0, none⟩) rs.length cap, .func (.func g) #[] cb.toArray] [(b, .cells ⟨fl enc rs ++ junk⟩ e (0, 0))] w fun v L' => v = .tuple #[] ∧ ∃ rs' : List α, rs'.Perm rs ∧ Asc cf rs' ∧ L' = [(b, .cells ⟨fl enc rs' ++ junk⟩ e (0, 0))] :=
  ⟨fun hw => by
    subst hf
    have hb := hw.get b _ List.mem_cons_self
    have hlt := (Array.getElem?_eq_some_iff.1 hb).1
    have hfl : (fl enc rs).length = rs.length * k := fl_len hk rs
    have hH : HoldsK enc k w b 0 rs.toArray := by
      intro j hj
      have hj' : j < rs.length * k := by simpa using hj
      have h2 := flatK_get hk rs.toArray (t := j) (by simpa using hj')
      refine ⟨?_, ?_⟩
      · simp only [World.cell?, hb, Nat.zero_add]
        rw [getElem!_pos _ j hj]
        rw [Array.getElem?_eq_getElem hj] at h2
        simp only [id, h2]
        simp [List.getElem?_append_left, hfl, hj']
      · simp [World.frozen?, hb]
    have hcm : CmpLays P g cb.toArray enc k cf b 0 rs.toArray.size w := by
      intro m os dk hs x y
      have hc := (sortWorld_own hk (m := m) (d := dk) (os := os) hb (by rw [hfl, hs]; simp)).1
      have := (hcmp _ hc x y).run
      have e1 : (#[Value.agg (enc x).toArray, Value.agg (enc y).toArray] ++ cb.toArray : Array Value) = ([Value.agg ⟨enc x⟩, Value.agg ⟨enc y⟩] ++ cb).toArray := by simp
      rw [e1]
      refine Calls.mono this ?_
      rintro e w' ⟨v, h3, h4, h5⟩
      exact ⟨by rw [h3, h4], h5.grow⟩
    have := AnyQ.slices_SortFunc L k aE zE enc hk h1 cf hO g cb.toArray b 0 cap rs.toArray w he hcm hH hlt (by simp; omega)
    have e0 : rs.toArray.size = rs.length := by simp
    rw [e0] at this
    refine Calls.mono this ?_
    rintro e' w' ⟨h3, d', n, os, hp, hs, hw'⟩
    have hds : d'.size = rs.length := by simpa using hp.1
    obtain ⟨g1, g2⟩ := sortWorld_own hk (m := n) (d := d') (os := os) hb (by rw [hfl, hds])
    refine ⟨.tuple #[], [(b, .cells ⟨fl enc d'.toList ++ junk⟩ e (0, 0))], h3, ⟨rfl, d'.toList, ?_, ?_, rfl⟩, ?_⟩
    · have h4 := hp.2.2
      have e1 : d'.extract 0 rs.length = d' := by rw [← hds]; simp
      have e2 : rs.toArray.extract 0 rs.length = rs.toArray := by rw [← e0]; simp
      rw [e1, e2] at h4
      exact h4
    · refine List.pairwise_iff_getElem.2 fun i j hi hj hij => ?_
      have h4 := hs i j (Nat.zero_le _) hij (by simp at hj ⊢; omega)
      simp only [ltOf, decide_eq_false_iff_not] at h4
      simp only [Array.length_toList] at hi hj
      rw [getElem!_pos d' i (by omega), getElem!_pos d' j (by omega)] at h4
      exact h4
    · rw [hw']
      exact hw.upd .head g1 g2⟩
end
end Go.Proofs.YtligngjcnlbgmaaGreat
set_option linter.unusedSimpArgs false
set_option linter.unusedVariables false
namespace Go.Proofs.YtligngjcnlbgmaaGreat
open Go.RowKit Go.Shelf
set_option maxRecDepth 100000
def tms (n : Int) : Int := 3 * blen (min (max n 0) 1073741824 + 1).toNat
end Go.Proofs.YtligngjcnlbgmaaGreat
set_option linter.unusedSimpArgs false
set_option linter.unusedVariables false
namespace Go.Proofs.YtligngjcnlbgmaaGreat
open Go.RowKit Go.Shelf
set_option maxRecDepth 100000
structure Rm where
  kind : Int
  cl : Cl
  inc : Int
  deriving DecidableEq
def Rm.v (r : Rm) : List Value := [.int .i64 r.kind, .int .i64 r.cl.id, .int .i64 r.cl.roles, .int .i64 r.cl.exp, .int .i64 r.cl.ser, .int .i64 r.inc]
theorem Rm.v_len (r : Rm) : r.v.length = 6 := rfl
def Rm.chk (r : Rm) : Int := if r.kind < 0 ∨ 3 ≤ r.kind then 13 else if ¬ r.cl.right ∨ r.inc < 0 ∨ 2147483647 < r.inc then 10 else 0
def Rm.outw (a b : Rm) : Bool := decide (a.cl = b.cl ∧ (a.inc > b.inc ∨ a.inc = b.inc ∧ a.kind > b.kind))
theorem clv_inj {a b : Cl} : ([.int .i64 a.id, .int .i64 a.roles, .int .i64 a.exp, .int .i64 a.ser] : List Value) = [.int .i64 b.id, .int .i64 b.roles, .int .i64 b.exp, .int .i64 b.ser] ↔ a = b := by
  simp only [List.cons.injEq, Value.int.injEq, true_and, and_true]
  constructor
  · rintro ⟨h1, h2, h3, h4⟩
    cases a; cases b; simp_all
  · rintro h; simp [h]
end Go.Proofs.YtligngjcnlbgmaaGreat
set_option linter.unusedSimpArgs false
set_option linter.unusedVariables false
namespace Go.Proofs.YtligngjcnlbgmaaGreat
open Go.RowKit Go.Shelf
set_option maxRecDepth 100000
def entV (x : Rm × Int) : List Value := [.int .i64 x.1.kind, .int .i64 x.1.cl.id, .int .i64 x.1.cl.roles, .int .i64 x.1.cl.exp, .int .i64 x.1.cl.ser, .int .i64 x.1.inc, .int .i64 x.2]
def vvQ (x : Rm × Int) : Value := .agg ⟨entV x⟩
theorem ktC : KeyT Tryz.prog 67 kvC := KeyT.flat tb (fun c : Cl => [.int .i64 c.id, .int .i64 c.roles, .int .i64 c.exp, .int .i64 c.ser]) rfl rfl rfl (fun _ => rfl) fun _ _ h => clv_inj.1 h
abbrev QMs := Ms Cl (Rm × Int)
abbrev QS := Option (Nat × QMs × Nat)
def QS.ms (st : QS) : QMs := match st with | none => [] | some (_, ms, _) => ms
def adde (ms : QMs) (r : Rm) : Int := if r.chk ≠ 0 then r.chk else match mget r.cl ms with
  | some h => if r.outw h.1 then 0 else 9
  | none => if ms.length = 32 then 6 else 0
inductive QSame : QS → QS → Prop where
  | same (st : QS) : QSame st st
  | made (b : Nat) : QSame none (some (b, [], 0))

end Go.Proofs.YtligngjcnlbgmaaGreat
set_option linter.unusedSimpArgs false
set_option linter.unusedVariables false
namespace Go.Proofs.YtligngjcnlbgmaaGreat
open Go.RowKit Go.Shelf
set_option maxRecDepth 100000
theorem adde_bad {ms : QMs} {r : Rm} (h : r.chk ≠ 0) : adde ms r = r.chk := by simp only [adde, if_pos h]
theorem adde_some {ms : QMs} {r : Rm} (h : r.chk = 0) {x : Rm × Int} (hm : mget r.cl ms = some x) : adde ms r = if r.outw x.1 then 0 else 9 := by
  unfold adde; rw [if_neg (by simpa using h), hm]
theorem adde_none {ms : QMs} {r : Rm} (h : r.chk = 0) (hm : mget r.cl ms = none) : adde ms r = if ms.length = 32 then 6 else 0 := by
  unfold adde; rw [if_neg (by simpa using h), hm]
end Go.Proofs.YtligngjcnlbgmaaGreat
set_option linter.unusedSimpArgs false
set_option linter.unusedVariables false
namespace Go.Proofs.YtligngjcnlbgmaaGreat
open Go.RowKit Go.Shelf
set_option maxRecDepth 100000
def or2 (a b : Int) : Int := if a ≠ 0 then a else b
theorem or2_ok (a b : Int) (bl e : Nat) (w : World) (hb : w.heap[bl]? = some (.cells ⟨[.int .i64 a, .int .i64 b]⟩ e (0, 0))) :
    CallW Tryz.prog 108 [.slice (some ⟨bl, 0, none⟩) 2 2] w fun v _ => v = .int .i64 (or2 a b) := by
  refine enterW (tb := tb) Tryz.func108 rfl Tryz.ntmps108 rfl ?_
  repeat' (first | (apply R.is1; first | (apply R.isBin; first | (apply R.pure; exact rfl; first | (apply Ok1.add64; exact rfl; exact rfl; omega; omega) | (apply Ok1.lss_t; exact rfl; exact rfl; omega) | (apply Ok1.lss_f; exact rfl; exact rfl; omega) | (apply Ok1.neq_t; exact rfl; exact rfl; omega) | (apply Ok1.neq_f; exact rfl; exact rfl; omega) | (apply Ok1.neqP; (iterate 5 exact rfl)) | (apply Ok1.neqM; (iterate 5 exact rfl)) | (apply Ok1.neqS; (iterate 5 exact rfl))) | (apply R.lss rfl rfl rfl <;> intro) | (apply R.neq rfl rfl rfl <;> intro) | (apply R.neqF; (iterate 8 exact rfl); all_goals intro)) | (apply R.isCall; first | (apply R.pure; exact rfl; first | (apply Ok1.lenS; (iterate 3 exact rfl)) | (apply Ok1.lenStr; (iterate 3 exact rfl)) | (apply Ok1.lenMm; (iterate 3 exact rfl); (focus ((repeat' (first | exact At.head | apply At.tail | apply At.right)); done))) | (apply Ok1.lenM_nil; (iterate 3 exact rfl)))) | (apply R.pure; exact rfl; first | (apply Ok1.move; exact rfl) | (apply Ok1.load; exact rfl; first | (apply Ld.own1; exact rfl; exact rfl; (focus ((repeat' (first | exact At.head | apply At.tail | apply At.right)); done)); exact rfl) | (apply Ld.ownk; exact rfl; exact rfl; (focus ((repeat' (first | exact At.head | apply At.tail | apply At.right)); done)); exact rfl) | (apply Ld.old1; exact rfl; exact rfl; assumption; (first | exact List.not_mem_nil | assumption)) | (apply Ld.blk1; exact rfl; exact rfl; assumption; (first | exact List.not_mem_nil | assumption); exact rfl) | (apply Ld.blkk; exact rfl; exact rfl; assumption; (first | exact List.not_mem_nil | assumption); exact rfl)) | (apply Ok1.assign; exact rfl) | (apply Ok1.indexAddr; (iterate 5 exact rfl); omega; omega) | (apply Ok1.indexAddrA; (iterate 5 exact rfl); omega; omega))) | (apply R.is0; first | fail) | (apply R.isG; first | (apply R.guard_run; exact rfl; exact rfl) | (apply R.guard_not; (iterate 3 exact rfl)) | (apply R.guard_not0; exact rfl; exact rfl) | (apply R.guard_un; (iterate 3 exact rfl)) | (apply R.guard_un0; exact rfl; exact rfl) | (apply R.guard rfl rfl ?_ (fun h => ⟨rfl, ?_⟩) <;> try intro)) | apply R.nil | (apply T.is; first | apply T.rounds 3 | apply T.seq | apply T.region | apply T.block | apply T.scope | apply T.label | apply T.skip | apply T.exit | apply T.ret | (apply T.cond_t; exact rfl) | (apply T.cond_f; exact rfl) | (apply T.cond_h; exact rfl; assumption) | (apply T.cond_n; exact rfl; assumption) | (apply T.cond rfl <;> intro)) | apply Rnd.step)
  all_goals (apply RetOk.t; exact rfl)
  all_goals simp only [or2]
  all_goals first | (rw [if_pos (by omega)]; done) | (rw [if_neg (by omega)]; done) | (rw [if_neg (by omega)]; congr 1; omega)
end Go.Proofs.YtligngjcnlbgmaaGreat
set_option linter.unusedSimpArgs false
set_option linter.unusedVariables false
set_option linter.unusedSectionVars false
namespace Go.Proofs.YtligngjcnlbgmaaGreat
open Go.RowKit Go.Shelf
section
variable {X : Cx} {σ : Env} {L : Lst} {ty : TypeId} {pos : String} {af : Array Edge} {d : Option Nat} {g : Option (Nat × Bool)} {x : Operand} {κ α : Type} {kv : κ → Value} {vv : α → Value} {ms : Ms κ α} {clk b c : Nat}
theorem find_born {ms : Ms κ α} {e : κ × α × Nat} (he : e ∈ ms) (hnd : (ms.map (·.2.2)).Nodup) : (Array.mk (ms.map fun x => (⟨kv x.1, vv x.2.1, x.2.2⟩ : MapEntry))).find? (fun y => y.born == e.2.2) = some ⟨kv e.1, vv e.2.1, e.2.2⟩ := by
  rw [List.find?_toArray]
  induction ms with
  | nil => cases he
  | cons m ms ih =>
    simp only [List.map_cons, List.nodup_cons] at hnd
    simp only [List.map_cons, List.find?_cons]
    rcases List.mem_cons.1 he with rfl | he
    · simp
    · have : m.2.2 ≠ e.2.2 := fun h => hnd.1 (h ▸ List.mem_map.2 ⟨e, he, rfl⟩)
      simp only [beq_eq_false_iff_ne.2 this]
      exact ih he hnd.2
theorem Ok1.entry {e : κ × α × Nat} {seen : List Nat} (hx : ev σ x = some (.pointer (some ⟨c, 0, none⟩))) (hit : At L c (.mapIter (some b) clk ⟨seen ++ [e.2.2]⟩ clk)) (hat : At L b (mobj kv vv ms clk)) (he : e ∈ ms) (hnd : (ms.map (·.2.2)).Nodup) :
    Ok1 X ⟨d, .entry x, ty, pos, af, g⟩ σ L (.tuple ⟨[kv e.1, vv e.2.1]⟩) := .mk fun a w ha hw => by
  have hb := hw.get _ _ hat.mem
  have hc := hw.get _ _ hit.mem
  have g1 : (getObj c).run X.P w = .ok (.mapIter (some b) clk ⟨seen ++ [e.2.2]⟩ clk) w := by simp only [getObj, Sem.run, hc]
  have g2 : (getObj b).run X.P w = .ok (mobj kv vv ms clk) w := by simp only [getObj, Sem.run, hb]; rfl
  have hback : (Array.mk (seen ++ [e.2.2])).back? = some e.2.2 := by simp
  have hf := find_born (kv := kv) (vv := vv) he hnd
  simp only [execOp, ha.ev hx, Instr.entry, Sem.run_bind, g1, Result.andThen_ok, hback, g2, mobj, bne_self_eq_false, Bool.false_eq_true, if_false, hf, Sem.run_pure]
end
theorem nodup_map_born {κ α : Type} {l : Ms κ α} (h : (l.map (·.2.2)).Nodup) : l.Nodup := by
  induction l with
  | nil => simp
  | cons m l ih =>
    simp only [List.map_cons, List.nodup_cons] at h ⊢
    exact ⟨fun hm => h.1 (List.mem_map.2 ⟨m, hm, rfl⟩), ih h.2⟩
theorem nodup_sub_len {β : Type} [DecidableEq β] : ∀ {l m : List β}, l.Nodup → (∀ x ∈ l, x ∈ m) → l.length ≤ m.length
  | [], _, _, _ => Nat.zero_le _
  | a :: l, m, h, hs => by
    rw [List.nodup_cons] at h
    have h1 := hs a List.mem_cons_self
    have h2 : l.length ≤ (m.erase a).length := nodup_sub_len h.2 fun x hx => by
      have hne : x ≠ a := fun e => h.1 (e ▸ hx)
      exact (List.mem_erase_of_ne hne).2 (hs x (List.mem_cons_of_mem _ hx))
    rw [List.length_erase_of_mem h1] at h2
    have : 0 < m.length := List.length_pos_of_mem h1
    simp only [List.length_cons]
    omega
/-- Which entries have been met. -/
structure Met {κ α : Type} (ms vis : Ms κ α) : Prop where
  nd : (vis.map (·.2.2)).Nodup
  sub : ∀ e ∈ vis, e ∈ ms
theorem Met.start {κ α : Type} (ms : Ms κ α) : Met ms [] := ⟨by simp, by simp⟩
theorem Met.step {κ α : Type} {ms vis : Ms κ α} (h : Met ms vis) {e : κ × α × Nat} (he : e ∈ ms) (hn : e.2.2 ∉ vis.map (·.2.2)) : Met ms (vis ++ [e]) := by
  refine ⟨?_, ?_⟩
  · rw [List.map_append, List.nodup_append]
    refine ⟨h.nd, by simp, ?_⟩
    intro a ha b hb e'
    simp only [List.map_cons, List.map_nil, List.mem_singleton] at hb
    subst hb; subst e'
    exact hn ha
  · intro x hx
    rcases List.mem_append.1 hx with hx | hx
    · exact h.sub x hx
    · rw [List.mem_singleton.1 hx]; exact he
theorem Met.perm {κ α : Type} {ms vis : Ms κ α} (h : Met ms vis) (hnd : (ms.map (·.2.2)).Nodup) (hall : ∀ e ∈ ms, e.2.2 ∈ vis.map (·.2.2)) : vis.Perm ms := by
  classical
  have nv : vis.Nodup := nodup_map_born h.nd
  have nm : ms.Nodup := nodup_map_born hnd
  refine (List.perm_ext_iff_of_nodup nv nm).2 fun e => ⟨h.sub e, fun he => ?_⟩
  obtain ⟨e', h1, h2⟩ := List.mem_map.1 (hall e he)
  have h3 := h.sub e' h1
  have : e' = e := by
    have inj : ∀ (ms : Ms κ α), (ms.map (·.2.2)).Nodup → e' ∈ ms → e ∈ ms → e'.2.2 = e.2.2 → e' = e := by
      intro ms
      induction ms with
      | nil => intro _ h; cases h
      | cons m ms ih =>
        intro hn h1 h2 h3
        simp only [List.map_cons, List.nodup_cons] at hn
        rcases List.mem_cons.1 h1 with a1 | a1
        · rcases List.mem_cons.1 h2 with a2 | a2
          · rw [a1, a2]
          · exact (hn.1 (a1 ▸ h3 ▸ List.mem_map.2 ⟨e, a2, rfl⟩)).elim
        · rcases List.mem_cons.1 h2 with a2 | a2
          · exact (hn.1 (a2 ▸ h3 ▸ List.mem_map.2 ⟨e', a1, rfl⟩)).elim
          · exact ih hn.2 a1 a2 h3
    exact inj ms hnd h3 he h2
  exact this ▸ h1
theorem Met.le {κ α : Type} {ms vis : Ms κ α} (h : Met ms vis) (hnd : (ms.map (·.2.2)).Nodup) {e : κ × α × Nat} (he : e ∈ ms) (hn : e.2.2 ∉ vis.map (·.2.2)) : vis.length < ms.length := by
  have h2 := h.step he hn
  have h1 : ((vis ++ [e]).map (·.2.2)).length ≤ (ms.map (·.2.2)).length := nodup_sub_len h2.nd fun x hx => by
    obtain ⟨y, hy, rfl⟩ := List.mem_map.1 hx
    exact List.mem_map.2 ⟨y, h2.sub y hy, rfl⟩
  simp only [List.length_map, List.length_append, List.length_cons, List.length_nil] at h1
  omega
end Go.Proofs.YtligngjcnlbgmaaGreat
set_option linter.unusedSimpArgs false
set_option linter.unusedVariables false
set_option linter.unusedSectionVars false
namespace Go.Proofs.YtligngjcnlbgmaaGreat
section
variable {κ α : Type} [DecidableEq κ]
def mkeys (ms : Ms κ α) : List κ := ms.map (·.1)
theorem mget_none {k : κ} : ∀ {ms : Ms κ α}, mget k ms = none ↔ k ∉ mkeys ms
  | [] => by simp [mget, mkeys]
  | x :: r => by
    have ih := mget_none (k := k) (ms := r)
    by_cases h : x.1 = k
    · simp [mget, mkeys, h]
    · simp only [mget, h, if_false, ih, mkeys, List.map_cons, List.mem_cons, not_or]
      exact ⟨fun h' => ⟨fun e => h e.symm, h'⟩, fun h' => h'.2⟩
theorem mset_keys (k : κ) (a : α) : ∀ (ms : Ms κ α), mkeys (mset k a ms) = mkeys ms
  | [] => rfl
  | x :: r => by
    by_cases h : x.1 = k
    · simp [mset, mkeys, h]
    · have := mset_keys k a r
      simp only [mset, h, if_false, mkeys, List.map_cons] at this ⊢
      rw [this]
theorem mset_borns (k : κ) (a : α) : ∀ (ms : Ms κ α), (mset k a ms).map (·.2.2) = ms.map (·.2.2)
  | [] => rfl
  | x :: r => by
    by_cases h : x.1 = k
    · simp [mset, h]
    · simp only [mset, h, if_false, List.map_cons, mset_borns k a r]
theorem mset_mem {k : κ} {a : α} {e : κ × α × Nat} : ∀ {ms : Ms κ α}, e ∈ mset k a ms → e ∈ ms ∨ (e.1 = k ∧ e.2.1 = a ∧ ∃ a', (e.1, a', e.2.2) ∈ ms)
  | [], h => by cases h
  | x :: r, h => by
    by_cases hk : x.1 = k
    · simp only [mset, hk, if_true] at h
      rcases List.mem_cons.1 h with rfl | h
      · exact .inr ⟨rfl, rfl, x.2.1, by rw [← hk]; exact List.mem_cons_self⟩
      · exact .inl (List.mem_cons_of_mem _ h)
    · simp only [mset, hk, if_false] at h
      rcases List.mem_cons.1 h with rfl | h
      · exact .inl List.mem_cons_self
      · rcases mset_mem h with h | ⟨h1, h2, a', h3⟩
        · exact .inl (List.mem_cons_of_mem _ h)
        · exact .inr ⟨h1, h2, a', List.mem_cons_of_mem _ h3⟩
theorem mget_mset {k : κ} {a o : α} (c : κ) : ∀ {ms : Ms κ α}, mget k ms = some o → mget c (mset k a ms) = if k = c then some a else mget c ms
  | [], h => by simp [mget] at h
  | x :: r, h => by
    by_cases hk : x.1 = k
    · simp only [mset, hk, if_true, mget]
      split <;> rfl
    · simp only [mget, hk, if_false] at h
      have ih := mget_mset c h (a := a)
      simp only [mset, hk, if_false, mget, ih]
      by_cases hc : x.1 = c
      · rw [if_pos hc, if_pos hc, if_neg (fun e => hk (by rw [hc, ← e]))]
      · rw [if_neg hc, if_neg hc]
theorem mget_snoc {k : κ} {a : α} {b : Nat} (c : κ) : ∀ {ms : Ms κ α}, mget k ms = none → mget c (ms ++ [(k, a, b)]) = if k = c then some a else mget c ms
  | [], _ => by simp [mget]
  | x :: r, h => by
    by_cases hk : x.1 = k
    · simp [mget, hk] at h
    · simp only [mget, hk, if_false] at h
      have ih := mget_snoc c h (a := a) (b := b)
      simp only [List.cons_append, mget, ih]
      by_cases hc : x.1 = c
      · rw [if_pos hc, if_pos hc, if_neg (fun e => hk (by rw [hc, ← e]))]
      · rw [if_neg hc, if_neg hc]
/-- A map that is in order: keys once each, stamps once each and below the clock. -/
structure MWf (s : Ms κ α × Nat) : Prop where
  bnd : ∀ e ∈ s.1, e.2.2 < s.2
  nd : (s.1.map (·.2.2)).Nodup
  keys : (mkeys s.1).Nodup
theorem MWf.nil : MWf (([] : Ms κ α), 0) := ⟨by simp, by simp, by simp [mkeys]⟩
theorem MWf.set {s : Ms κ α × Nat} (h : MWf s) (k : κ) (a : α) : MWf (mset k a s.1, s.2) := by
  refine ⟨fun e he => ?_, by rw [mset_borns]; exact h.nd, by rw [mset_keys]; exact h.keys⟩
  rcases mset_mem he with he | ⟨_, _, a', h3⟩
  · exact h.bnd e he
  · exact h.bnd (e.1, a', e.2.2) h3
theorem MWf.snoc {s : Ms κ α × Nat} (h : MWf s) {k : κ} {a : α} (hk : mget k s.1 = none) : MWf (s.1 ++ [(k, a, s.2)], s.2 + 1) := by
  refine ⟨fun e he => ?_, ?_, ?_⟩
  · rcases List.mem_append.1 he with he | he
    · have := h.bnd e he; simp only; omega
    · rw [List.mem_singleton.1 he]; simp
  · rw [List.map_append, List.nodup_append]
    refine ⟨h.nd, by simp, fun x hx y hy e => ?_⟩
    obtain ⟨z, hz, rfl⟩ := List.mem_map.1 hx
    have := h.bnd z hz
    simp only [List.map_cons, List.map_nil, List.mem_singleton] at hy
    omega
  · simp only [mkeys, List.map_append, List.nodup_append]
    refine ⟨h.keys, by simp, fun x hx y hy e => ?_⟩
    simp only [List.map_cons, List.map_nil, List.mem_singleton] at hy
    exact mget_none.1 hk (hy ▸ e ▸ hx)
end
end Go.Proofs.YtligngjcnlbgmaaGreat
set_option linter.unusedSimpArgs false
set_option linter.unusedVariables false
namespace Go.Proofs.YtligngjcnlbgmaaGreat
open Go.RowKit Go.Shelf
set_option maxRecDepth 100000
def sHide : ByteArray := ⟨#[104, 105, 100, 101]⟩
def sBind : ByteArray := ⟨#[98, 105, 110, 100]⟩
/-- One block of a stream. -/
def strm1 (k nonce : List Int) (i : Nat) : List Int := hmacI k ((nonce.length : Int) :: (nonce ++ len4 i))
def strmB (k nonce : List Int) (m : Nat) : List Int := (List.range m).flatMap (strm1 k nonce)
theorem strmB_succ (k nonce : List Int) (m : Nat) : strmB k nonce (m + 1) = strmB k nonce m ++ strm1 k nonce m := by
  unfold strmB
  rw [List.range_succ, List.flatMap_append]
  simp
theorem strm1_len (k nonce : List Int) (m : Nat) : (strm1 k nonce m).length = 32 := hmac_len _ _
theorem strmB_len (k nonce : List Int) (m : Nat) : (strmB k nonce m).length = 32 * m := by
  induction m with
  | zero => rfl
  | succ m ih => rw [strmB_succ, List.length_append, ih, strm1_len]; omega
/-- The first bytes of a key's stream. -/
def strmI (k nonce : List Int) (n : Nat) : List Int := (strmB (deriveI k sHide []) nonce ((n + 31) / 32)).take n
theorem strmI_len (k nonce : List Int) (n : Nat) : (strmI k nonce n).length = n := by
  unfold strmI
  rw [List.length_take, strmB_len]
  omega
/-- Each byte with the stream's. -/
def turnI (b s : List Int) : List Int := List.zipWith (xorI .u8) b s
theorem turnI_len {b s : List Int} (h : b.length = s.length) : (turnI b s).length = b.length := by
  unfold turnI
  rw [List.length_zipWith]
  omega
theorem turnI_byt (b s : List Int) : Byt (turnI b s) := by
  intro y hy
  unfold turnI at hy
  rw [List.mem_iff_getElem] at hy
  obtain ⟨i, hi, rfl⟩ := hy
  rw [List.getElem_zipWith]
  exact xor8_range _ _
/-- The tag of what is bound. -/
def stagI (k nonce bound body : List Int) : List Int := hmacI (deriveI k sBind []) (frameI [nonce, bound, body])
def sealI (k nonce bound b : List Int) : List Int := turnI b (strmI k nonce b.length) ++ stagI k nonce bound (turnI b (strmI k nonce b.length))
theorem stagI_len (k nonce bound body : List Int) : (stagI k nonce bound body).length = 32 := hmac_len _ _
theorem sealI_len (k nonce bound b : List Int) : (sealI k nonce bound b).length = b.length + 32 := by
  unfold sealI
  rw [List.length_append, stagI_len, turnI_len (strmI_len _ _ _).symm]
theorem four_ok (n : Int) (h0 : 0 ≤ n) (h1 : n ≤ 4294967295) (w : World) : CallM Tryz.prog 114 [.int .i64 n] [] w fun v L => ∃ b, v = .slice (some ⟨b, 0, none⟩) 4 4 ∧ L = [(b, .cells ⟨u8s (len4 n)⟩ 5 (0, 0))] := by
  refine enterK (tb := tb) Tryz.func114 rfl Tryz.ntmps114 rfl ?_
  repeat' (first | (apply R.is1; first | (apply R.isBin; first | (apply R.pure; exact rfl; first | (apply Ok1.shr; exact rfl; exact rfl; omega; exact Nat.le_of_ble_eq_true rfl; (first | exact pwE1 | exact pwE2 | exact pwE3 | exact pwE4 | exact pwE5 | exact pwE6 | exact pwE7 | exact pwE8 | exact pwE16 | exact pwE24 | exact pwE32 | exact rfl)))) | (apply R.pure; exact rfl; first | (apply Ok1.move; exact rfl) | (apply Ok1.assign; exact rfl) | (apply Ok1.convI64; (iterate 5 exact rfl); omega; omega) | (apply Ok1.convU64; (iterate 5 exact rfl); omega; omega) | (apply Ok1.convU32; (iterate 5 exact rfl); omega; omega) | (apply Ok1.convU8; (iterate 5 exact rfl); omega; omega) | (apply Ok1.conv; (iterate 5 exact rfl))) | (apply R.buildSlice; (iterate 12 exact rfl); intro)) | (apply R.is0; first | fail) | (apply R.isG; first | (apply R.guard_run; exact rfl; exact rfl) | (apply R.guard_not; (iterate 3 exact rfl)) | (apply R.guard_not0; exact rfl; exact rfl) | (apply R.guard_un; (iterate 3 exact rfl)) | (apply R.guard_un0; exact rfl; exact rfl) | (apply R.guard rfl rfl ?_ (fun h => ⟨rfl, ?_⟩) <;> try intro)) | apply R.nil | (apply T.is; first | apply T.seq | apply T.region | apply T.block | apply T.scope | apply T.label | apply T.skip | apply T.exit | apply T.ret | (apply T.cond_t; exact rfl) | (apply T.cond_f; exact rfl) | (apply T.cond_h; exact rfl; assumption) | (apply T.cond_n; exact rfl; assumption) | (apply T.cond rfl <;> intro)) | apply Rnd.step)
  (apply RetOk.t; exact rfl)
  refine ⟨_, ?_, _, rfl, rfl⟩
  simp only [u8_mod]
  apply Keep.eq1
  have h4 : n / 16777216 = n / 16777216 % 256 := by omega
  rw [h4]
  simp only [u8s, len4, List.map, Int.emod_emod]
theorem scheck_ok (b : Nat) (p : Option Addr) (n cap : Nat) (h : n ≤ 32) : CallP Tryz.prog 79 [.pointer (some ⟨b, 0, none⟩), .slice p n cap] (.int .i64 0) := by
  refine enterP (tb := tb) Tryz.func79 rfl Tryz.ntmps79 rfl fun w => ?_
  repeat' (first | (apply R.is1; first | (apply R.isBin; first | (apply R.pure; exact rfl; first | (apply Ok1.eqlP; (iterate 5 exact rfl)) | (apply Ok1.gtr_t; exact rfl; exact rfl; omega) | (apply Ok1.gtr_f; exact rfl; exact rfl; omega) | (apply Ok1.eql_t; exact rfl; exact rfl; omega) | (apply Ok1.eql_f; exact rfl; exact rfl; omega) | (apply Ok1.eqlP; (iterate 5 exact rfl)) | (apply Ok1.eqlM; (iterate 5 exact rfl)) | (apply Ok1.eqlS; (iterate 5 exact rfl))) | (apply R.gtr rfl rfl rfl <;> intro) | (apply R.eql rfl rfl rfl <;> intro) | (apply R.eqlF; (iterate 8 exact rfl); all_goals intro)) | (apply R.isCall; first | (apply R.pure; exact rfl; first | (apply Ok1.lenS; (iterate 3 exact rfl)) | (apply Ok1.lenStr; (iterate 3 exact rfl)) | (apply Ok1.lenMm; (iterate 3 exact rfl); (focus ((repeat' (first | exact At.head | apply At.tail | apply At.right)); done))) | (apply Ok1.lenM_nil; (iterate 3 exact rfl)))) | (apply R.pure; exact rfl; first | (apply Ok1.move; exact rfl) | (apply Ok1.assign; exact rfl) | (apply Ok1.pick_t; exact rfl; exact rfl) | (apply Ok1.pick_f; exact rfl; exact rfl) | (apply Ok1.pick_h; exact rfl; assumption; exact rfl) | (apply Ok1.pick_n; exact rfl; assumption; exact rfl))) | (apply R.is0; first | fail) | (apply R.isG; first | (apply R.guard_run; exact rfl; exact rfl) | (apply R.guard_not; (iterate 3 exact rfl)) | (apply R.guard_not0; exact rfl; exact rfl) | (apply R.guard_un; (iterate 3 exact rfl)) | (apply R.guard_un0; exact rfl; exact rfl) | (apply R.guard rfl rfl ?_ (fun h => ⟨rfl, ?_⟩) <;> try intro)) | apply R.nil | (apply T.is; first | apply T.seq | apply T.region | apply T.block | apply T.scope | apply T.label | apply T.skip | apply T.exit | apply T.ret | (apply T.cond_t; exact rfl) | (apply T.cond_f; exact rfl) | (apply T.cond_h; exact rfl; assumption) | (apply T.cond_n; exact rfl; assumption) | (apply T.cond rfl <;> intro)) | apply Rnd.step)
  (apply RetOk.t; exact rfl)
  rfl
theorem ktag_ok (bk : Nat) (k : List Int) (hkl : k.length ≤ 999999000) (hkb : Byt k) (pp : Option Addr) (m cap : Nat) (ps : List Pt) (hm : m = ps.length) (hbyt : Byt (cat ps)) (hbig : (cat ps).length ≤ 999998000) (hm2 : m ≤ 1000000000) (w : World) (hk : KeyR w bk k) (hpp : RdSl w pp Pt.v ps) (hall : ∀ x ∈ ps, RdSl w x.p u8V x.xs) :
    CallW Tryz.prog 113 [.pointer (some ⟨bk, 0, none⟩), .slice pp m cap] w fun v _ => v = .agg ⟨u8s (hmacI k (cat ps))⟩ := by
  obtain ⟨pk, ck, hb, hpk⟩ := hk
  have htg := fun w1 (hc : Chg [] w w1) => tag_ok pk k.length ck k rfl hkl hkb pp m cap ps hm hbyt hbig hm2 w1 (hpk.chg' hc (fun _ => Off.nil _)) (hpp.chg' hc (fun _ => Off.nil _)) (fun x hx => (hall x hx).chg' hc (fun _ => Off.nil _))
  have hls : (u8s (hmacI k (cat ps))).length = 32 := by rw [u8s_len, hmac_len]
  have hone := u8s_one (hmacI k (cat ps))
  generalize u8s (hmacI k (cat ps)) = D at *
  have hset : ∀ cs : List Value, cs.length = 32 → setE cs 0 D = some D := fun cs h => setE_all (by rw [hls, h])
  refine enterW (tb := tb) Tryz.func113 rfl Tryz.ntmps113 rfl ?_
  repeat' (first | (apply R.is1; first | (apply R.isBin; first | (apply R.pure; exact rfl; first | (apply Ok1.eqlP; (iterate 5 exact rfl)) | (apply Ok1.eql_t; exact rfl; exact rfl; omega) | (apply Ok1.eql_f; exact rfl; exact rfl; omega) | (apply Ok1.eqlP; (iterate 5 exact rfl)) | (apply Ok1.eqlM; (iterate 5 exact rfl)) | (apply Ok1.eqlS; (iterate 5 exact rfl))) | (apply R.eql rfl rfl rfl <;> intro) | (apply R.eqlF; (iterate 8 exact rfl); all_goals intro)) | (apply R.isCall; first | (apply R.callW (vs := [.slice pk k.length ck, .slice pp m cap]); (iterate 3 exact rfl); intro w1 hw1; exact htg w1 hw1.chg; rintro v rfl)) | (apply R.pure; exact rfl; first | (apply Ok1.move; exact rfl) | (apply Ok1.fieldAddr; (iterate 5 exact rfl)) | (apply Ok1.load; exact rfl; first | (apply Ld.own1; exact rfl; exact rfl; (focus ((repeat' (first | exact At.head | apply At.tail | apply At.right)); done)); exact rfl) | (apply Ld.ownk; exact rfl; exact rfl; (focus ((repeat' (first | exact At.head | apply At.tail | apply At.right)); done)); exact rfl) | (apply Ld.old1; exact rfl; exact rfl; assumption; (first | exact List.not_mem_nil | assumption)) | (apply Ld.blk1; exact rfl; exact rfl; assumption; (first | exact List.not_mem_nil | assumption); exact rfl) | (apply Ld.blkk; exact rfl; exact rfl; assumption; (first | exact List.not_mem_nil | assumption); exact rfl)) | (apply Ok1.nilCheck; exact rfl) | (apply Ok1.nilCheckF; exact rfl)) | (apply R.alloc; (iterate 3 exact rfl); intro)) | (apply R.is0; first | (apply R.store; (iterate 4 exact rfl); exact hls; exact hone; (focus ((repeat' (first | exact Upd.head | apply Upd.tail | apply Upd.right)); done)); exact hset _ rfl) | (apply R.store; (iterate 6 exact rfl); (focus ((repeat' (first | exact Upd.head | apply Upd.tail | apply Upd.right)); done)); exact rfl) | fail) | (apply R.isG; first | (apply R.guard_run; exact rfl; exact rfl) | (apply R.guard_not; (iterate 3 exact rfl)) | (apply R.guard_not0; exact rfl; exact rfl) | (apply R.guard_un; (iterate 3 exact rfl)) | (apply R.guard_un0; exact rfl; exact rfl) | (apply R.guard rfl rfl ?_ (fun h => ⟨rfl, ?_⟩) <;> try intro)) | apply R.nil | (apply T.is; first | apply T.seq | apply T.region | apply T.block | apply T.scope | apply T.label | apply T.skip | apply T.exit | apply T.ret | (apply T.cond_t; exact rfl) | (apply T.cond_f; exact rfl) | (apply T.cond_h; exact rfl; assumption) | (apply T.cond_n; exact rfl; assumption) | (apply T.cond rfl <;> intro)) | apply Rnd.step)
  (apply RetOk.c; exact rfl; (apply Ld.ownk; exact rfl; exact rfl; (focus ((repeat' (first | exact At.head | apply At.tail | apply At.right)); done)); exact subE_all hls))
  rfl
theorem bclone_ok (p : Option Addr) (n cap : Nat) (xs : List Int) (hn : n = xs.length) (hbig : n ≤ 1000000000) (w : World) (hp : RdSl w p u8V xs) : CallM Tryz.prog 115 [.slice p n cap] [] w fun v L => ∃ ov, OvOk 1 ov n (u8s xs) ∧ v = slV ov n ∧ L = blkL 5 ov (u8s xs) := by
  refine enterK (tb := tb) Tryz.func115 rfl Tryz.ntmps115 rfl ?_
  cases p with
  | none =>
    have hx : xs = [] := by
      rcases hp with h | ⟨b, o, h, _⟩
      · exact h
      · cases h
    subst hx
    have h0 : n = 0 := hn
    repeat' (first | (apply R.is1; first | (apply R.isBin; first | (apply R.pure; exact rfl; first | (apply Ok1.eqlS; (iterate 5 exact rfl)) | (apply Ok1.eql_t; exact rfl; exact rfl; omega) | (apply Ok1.eql_f; exact rfl; exact rfl; omega) | (apply Ok1.eqlP; (iterate 5 exact rfl)) | (apply Ok1.eqlM; (iterate 5 exact rfl)) | (apply Ok1.eqlS; (iterate 5 exact rfl))) | (apply R.eql rfl rfl rfl <;> intro) | (apply R.eqlF; (iterate 8 exact rfl); all_goals intro)) | (apply R.pure; exact rfl; first | (apply Ok1.move; exact rfl) | (apply Ok1.assign; exact rfl)) | (apply R.buildSlice; (iterate 12 exact rfl); intro)) | (apply R.is0; first | fail) | (apply R.isG; first | (apply R.guard_run; exact rfl; exact rfl) | (apply R.guard_not; (iterate 3 exact rfl)) | (apply R.guard_not0; exact rfl; exact rfl) | (apply R.guard_un; (iterate 3 exact rfl)) | (apply R.guard_un0; exact rfl; exact rfl) | (apply R.guard rfl rfl ?_ (fun h => ⟨rfl, ?_⟩) <;> try intro)) | apply R.nil | (apply T.is; first | apply T.seq | apply T.region | apply T.block | apply T.scope | apply T.label | apply T.skip | apply T.exit | apply T.ret | (apply T.cond_t; exact rfl) | (apply T.cond_f; exact rfl) | (apply T.cond_h; exact rfl; assumption) | (apply T.cond_n; exact rfl; assumption) | (apply T.cond rfl <;> intro)) | apply Rnd.step)
    (apply RetOk.t; exact rfl)
    exact ⟨_, by (focus ((repeat' (first | exact Keep.nil _ | exact Ext.one _ _ | exact Ext.here _ _ | exact Ext.all _ | apply Keep.cons | apply Keep.app | apply Keep.last | apply Ext.cons | apply Ext.app)); done)), none, by rw [h0]; exact OvOk.start 1, by rw [h0]; rfl, rfl⟩
  | some a =>
    repeat' (first | (apply R.is1; first | (apply R.buildSlice0; (iterate 4 exact rfl); intro b0) | (apply R.isBin; first | (apply R.pure; exact rfl; first | (apply Ok1.eqlS; (iterate 5 exact rfl)) | (apply Ok1.eql_t; exact rfl; exact rfl; omega) | (apply Ok1.eql_f; exact rfl; exact rfl; omega) | (apply Ok1.eqlP; (iterate 5 exact rfl)) | (apply Ok1.eqlM; (iterate 5 exact rfl)) | (apply Ok1.eqlS; (iterate 5 exact rfl))) | (apply R.eql rfl rfl rfl <;> intro) | (apply R.eqlF; (iterate 8 exact rfl); all_goals intro)) | (apply R.isCall; first | (apply R.appendRd (xs := xs) (v := u8V) (sz := 1) (ov := some (b0, 0, [])) (n := 0) (old := []); (iterate 12 exact rfl); exact ⟨rfl, rfl⟩; (focus ((repeat' (first | exact Ext.none _ | exact Ext.one _ _ | exact Ext.here _ _ | exact Ext.all _ | apply Ext.cons | apply Ext.app | apply Ext.two)); done)); exact hn; exact u8V_len; exact rfl; (intro w1 hw1; exact hp.chg hw1.chg (Off.nil _)); (rw [fl_u8]; exact u8s_one xs); omega; intro ov1 hov1 hsome)) | (apply R.pure; exact rfl; first | (apply Ok1.move; exact rfl) | (apply Ok1.assign; exact rfl)) | (apply R.buildSlice; (iterate 12 exact rfl); intro)) | (apply R.is0; first | fail) | (apply R.isG; first | (apply R.guard_run; exact rfl; exact rfl) | (apply R.guard_not; (iterate 3 exact rfl)) | (apply R.guard_not0; exact rfl; exact rfl) | (apply R.guard_un; (iterate 3 exact rfl)) | (apply R.guard_un0; exact rfl; exact rfl) | (apply R.guard rfl rfl ?_ (fun h => ⟨rfl, ?_⟩) <;> try intro)) | apply R.nil | (apply T.is; first | apply T.seq | apply T.region | apply T.block | apply T.scope | apply T.label | apply T.skip | apply T.exit | apply T.ret | (apply T.cond_t; exact rfl) | (apply T.cond_f; exact rfl) | (apply T.cond_h; exact rfl; assumption) | (apply T.cond_n; exact rfl; assumption) | (apply T.cond rfl <;> intro)) | apply Rnd.step)
    rw [Nat.zero_add, List.nil_append, fl_u8] at hov1
    rw [Nat.zero_add, List.nil_append, fl_u8]
    repeat' (first | (apply R.is1; first | (apply R.isBin; first | (apply R.pure; exact rfl; first | (apply Ok1.eql_t; exact rfl; exact rfl; omega) | (apply Ok1.eql_f; exact rfl; exact rfl; omega) | (apply Ok1.eqlP; (iterate 5 exact rfl)) | (apply Ok1.eqlM; (iterate 5 exact rfl)) | (apply Ok1.eqlS; (iterate 5 exact rfl))) | (apply R.eql rfl rfl rfl <;> intro) | (apply R.eqlF; (iterate 8 exact rfl); all_goals intro)) | (apply R.pure; exact rfl; first | (apply Ok1.move; exact rfl) | (apply Ok1.assign; exact rfl)) | (apply R.buildSlice; (iterate 12 exact rfl); intro)) | (apply R.is0; first | fail) | (apply R.isG; first | (apply R.guard_run; exact rfl; exact rfl) | (apply R.guard_not; (iterate 3 exact rfl)) | (apply R.guard_not0; exact rfl; exact rfl) | (apply R.guard_un; (iterate 3 exact rfl)) | (apply R.guard_un0; exact rfl; exact rfl) | (apply R.guard rfl rfl ?_ (fun h => ⟨rfl, ?_⟩) <;> try intro)) | apply R.nil | (apply T.is; first | apply T.seq | apply T.region | apply T.block | apply T.scope | apply T.label | apply T.skip | apply T.exit | apply T.ret | (apply T.cond_t; exact rfl) | (apply T.cond_f; exact rfl) | (apply T.cond_h; exact rfl; assumption) | (apply T.cond_n; exact rfl; assumption) | (apply T.cond rfl <;> intro)) | apply Rnd.step)
    (apply RetOk.t; exact rfl)
    refine ⟨_, ?_, ov1, hov1, rfl, rfl⟩
    (focus ((repeat' (first | exact Keep.nil _ | exact Ext.one _ _ | exact Ext.here _ _ | exact Ext.all _ | apply Keep.cons | apply Keep.app | apply Keep.last | apply Ext.cons | apply Ext.app)); done))
end Go.Proofs.YtligngjcnlbgmaaGreat
set_option linter.unusedSimpArgs false
set_option linter.unusedVariables false
namespace Go.Proofs.YtligngjcnlbgmaaGreat
open Go.RowKit Go.Shelf
set_option maxRecDepth 100000
theorem stream_ok (bk : Nat) (k : List Int) (hkl : k.length ≤ 999999000) (hkb : Byt k) (pn : Option Addr) (nl cn : Nat) (nonce : List Int) (hnl : nl = nonce.length) (hn32 : nl ≤ 32) (hnb : Byt nonce) (n : Nat) (hn : n ≤ 65536) (w : World) (hk : KeyR w bk k) (hpn : RdSl w pn u8V nonce) :
    CallM Tryz.prog 72 [.pointer (some ⟨bk, 0, none⟩), .slice pn nl cn, .int .i64 n] [] w fun v L => ∃ ov W, OvOk 1 ov W.length (u8s W) ∧ n ≤ W.length ∧ W.take n = strmI k nonce n ∧ v = .tuple #[.slice (ovp ov) n n, .int .i64 0] ∧ L = blkL 5 ov (u8s W) := by
  subst hnl
  have hck := scheck_ok bk pn nonce.length cn hn32
  have hdr := fun w1 (hc : Chg [] w w1) => derive_ok bk k hkl hkb sHide (by decide) none 0 0 [] rfl (by decide) (by simp) (by simp [frameI, len4, strI, sHide]) (by simp) w1 (hk.chg hc) (.inl rfl) (by simp)
  simp only [List.map_nil] at hdr
  have hdl := derive_len k sHide []
  have hdb := derive_byt k sHide []
  have hst : strmI k nonce n = (strmB (deriveI k sHide []) nonce ((n + 31) / 32)).take n := rfl
  generalize deriveI k sHide [] = k2 at *
  refine enterK (tb := tb) Tryz.func72 rfl Tryz.ntmps72 rfl ?_
  repeat' (first | (apply R.is1; first | (apply R.isBin; (apply R.pure; exact rfl; first | (apply Ok1.lss_f; exact rfl; exact rfl; omega) | (apply Ok1.gtr_f; exact rfl; exact rfl; omega) | (apply Ok1.neq_f; exact rfl; exact rfl; omega))) | (apply R.isCall; first | apply R.callP rfl rfl rfl hck | (apply R.callE (vs := [.pointer (some ⟨bk, 0, none⟩), .string sHide, .slice none 0 0]); (iterate 3 exact rfl); exact Ext.none _; intro w1 hw1; exact hdr w1 hw1.chg; rintro v Lo ⟨bd, ovd, rfl, hovd, rfl⟩)) | (apply R.pure; exact rfl; first | (apply Ok1.move; exact rfl) | (apply Ok1.assign; exact rfl))) | apply R.nil | (apply T.is; first | apply T.seq | apply T.region | apply T.block | apply T.skip | (apply T.cond_f; exact rfl)))
  have hkd : KL bd ovd k2 = KL bd ovd k2 := rfl
  generalize hKL : KL bd ovd k2 = LK at *
  have hKR : ∀ L w1, Hp w [] L w1 → (∀ z ∈ LK, z ∈ L) → KeyR w1 bd k2 := fun L w1 h1 h2 => KeyR.of (by rw [hdl]; exact hovd) h1 (hKL ▸ h2)
  apply T.loopK (α := Nat × Ov) (I := fun y => 32 * y.1 < n + 32 ∧ OvOk 1 y.2 (32 * y.1) (u8s (strmB k2 nonce y.1))) (σi := fun y => [(0, .pointer (some ⟨bk, 0, none⟩)), (1, .slice pn nonce.length cn), (2, .int .i64 n), (9, .pointer (some ⟨bd, 0, none⟩)), (10, slV y.2 (32 * y.1)), (11, .int .i64 y.1)]) (Li := fun y => LK ++ blkL 5 y.2 (u8s (strmB k2 nonce y.1))) (μ := fun y => n + 32 - 32 * y.1) (i0 := (0, none))
  · exact ⟨by omega, OvOk.start 1⟩
  · exact ⟨rfl, rfl, rfl, rfl, rfl, rfl, trivial⟩
  · simp only [blkL, List.append_nil]
    (focus ((repeat' (first | exact Ext.all _ | apply Keep.last)); done))
  · rintro ⟨i, ov⟩ ⟨hi, hov⟩
    simp only at hi hov ⊢
    by_cases hlt : 32 * i < n
    · have hfo := fun w1 => four_ok (i : Int) (by omega) (by omega) w1
      have htg : ∀ L w1 b1 b3 b4, Hp w [] L w1 → (∀ z ∈ LK, z ∈ L) → (b1, Obj.cells ⟨[.int .u8 nonce.length]⟩ 5 (0, 0)) ∈ L → (b4, Obj.cells ⟨u8s (len4 i)⟩ 5 (0, 0)) ∈ L → (b3, Obj.cells ⟨[.slice (some ⟨b1, 0, none⟩) 1 1, .slice pn nonce.length cn, .slice (some ⟨b4, 0, none⟩) 4 4]⟩ 22 (0, 0)) ∈ L → CallW Tryz.prog 113 [.pointer (some ⟨bd, 0, none⟩), .slice (some ⟨b3, 0, none⟩) 3 3] w1 fun v _ => v = .agg ⟨u8s (strm1 k2 nonce i)⟩ := by
        intro L w1 b1 b3 b4 hw h1 h2 h3 h4
        have hct : cat [⟨some ⟨b1, 0, none⟩, 1, [(nonce.length : Int)]⟩, ⟨pn, cn, nonce⟩, ⟨some ⟨b4, 0, none⟩, 4, len4 i⟩] = (nonce.length : Int) :: (nonce ++ len4 i) := by simp [cat]
        have h := ktag_ok bd k2 (by rw [hdl]; decide) hdb (some ⟨b3, 0, none⟩) 3 3 [⟨some ⟨b1, 0, none⟩, 1, [(nonce.length : Int)]⟩, ⟨pn, cn, nonce⟩, ⟨some ⟨b4, 0, none⟩, 4, len4 i⟩] rfl ?_ ?_ (by decide) w1 (hKR L w1 hw h1) (RdSl.ofMem (junk := []) hw h4 rfl) ?_
        · rw [hct] at h
          exact h
        · rw [hct]
          intro y hy
          rcases List.mem_cons.1 hy with rfl | hy
          · omega
          · rcases List.mem_append.1 hy with hy | hy
            · exact hnb y hy
            · exact len4_byt _ y hy
        · rw [hct]
          simp [len4]
          omega
        · intro x hx
          simp only [List.mem_cons, List.not_mem_nil, or_false] at hx
          rcases hx with rfl | rfl | rfl
          · exact RdSl.ofMem (junk := []) hw h2 rfl
          · exact hpn.chg' hw.chg (fun _ => Off.nil _)
          · exact RdSl.ofMem (junk := []) hw h3 (by rw [fl_u8, List.append_nil])
      repeat' (first | (apply R.is1; first | (apply R.isBin; (apply R.pure; exact rfl; (apply Ok1.lss_t; exact rfl; exact rfl; omega))) | (apply R.isCall; first | (apply R.pure; exact rfl; apply Ok1.lenOv; (iterate 3 exact rfl); exact hov) | (apply R.callE (vs := [.int .i64 i]); (iterate 3 exact rfl); exact Ext.none _; intro w1 hw1; exact hfo w1; rintro v Lo ⟨b4, rfl, rfl⟩) | (apply R.pure; exact rfl; (apply Ok1.lenS; (iterate 3 exact rfl)))) | (apply R.pure; exact rfl; first | (apply Ok1.move; exact rfl) | (apply Ok1.convU8; (iterate 5 exact rfl); omega; omega)) | (apply R.buildSlice; (iterate 12 exact rfl); intro)) | apply R.nil | (apply T.is; first | apply T.seq | apply T.region | apply T.block | apply T.skip | (apply T.cond_t; exact rfl)))
      rename_i b1 b3
      have hD := strm1_len k2 nonce i
      have hsu := strmB_succ k2 nonce i
      have hbl := strmB_len k2 nonce i
      generalize hDD : strm1 k2 nonce i = D at *
      have hls : (u8s D).length = 32 := by rw [u8s_len, hD]
      have hset : ∀ cs : List Value, cs.length = 32 → setE cs 0 (u8s D) = some (u8s D) := fun cs h => setE_all (by rw [hls, h])
      repeat' (first | (apply R.is1; first | (apply R.isBin; (apply R.pure; exact rfl; (apply Ok1.add64; exact rfl; exact rfl; omega; omega))) | (apply R.isCall; first | (apply R.callW (vs := [.pointer (some ⟨bd, 0, none⟩), .slice (some ⟨b3, 0, none⟩) 3 3]); (iterate 3 exact rfl); intro w1 hw1; exact htg _ w1 b1 b3 b4 hw1 (Ext.mem (by (focus ((repeat' (first | exact Ext.here _ _ | apply Ext.cons)); done)))) (by simp) (by simp) (by simp); rintro v rfl) | (apply R.appendRd (xs := D) (v := u8V) (sz := 1) (ov := ov) (n := 32 * i) (old := u8s (strmB k2 nonce i)); (iterate 12 exact rfl); exact hov; (focus ((repeat' (first | exact Ext.all _ | apply Ext.cons | apply Ext.app)); done)); exact hD.symm; exact u8V_len; exact rfl; (intro w1 hw1; exact RdSl.of (junk := []) hw1 (by exact At.head) (by rw [fl_u8, List.append_nil])); (rw [fl_u8]; exact u8s_one _); omega; intro ov1 hov1 hsome)) | (apply R.pure; exact rfl; first | (apply Ok1.sliceArr; (iterate 4 exact rfl)) | (apply Ok1.move; exact rfl) | (apply Ok1.assign; exact rfl)) | (apply R.alloc; (iterate 3 exact rfl); intro)) | (apply R.is0; (apply R.store; (iterate 4 exact rfl); exact hls; exact u8s_one D; exact Upd.head; exact hset _ rfl)) | apply R.nil | (apply T.is; apply T.region))
      rw [fl_u8, ← u8s_app, ← hsu] at hov1
      rw [fl_u8, ← u8s_app, ← hsu]
      have h32 : 32 * (i + 1) = 32 * i + 32 := by omega
      refine ⟨(i + 1, ov1), ?_⟩
      simp only [h32]
      exact ⟨⟨by omega, hov1⟩, by omega, ⟨rfl, rfl, rfl, rfl, rfl, rfl, trivial⟩, by (focus ((repeat' (first | exact Ext.here _ _ | apply Keep.app | apply Keep.last | apply Ext.cons | apply Ext.app)); done))⟩
    · repeat' (first | (apply R.is1; first | (apply R.isBin; (apply R.pure; exact rfl; (apply Ok1.lss_f; exact rfl; exact rfl; omega))) | (apply R.isCall; (apply R.pure; exact rfl; apply Ok1.lenOv; (iterate 3 exact rfl); exact hov)) | (apply R.pure; exact rfl; first | (apply Ok1.sliceCut; (iterate 4 exact rfl); exact hov; exact rfl; exact rfl; omega; omega) | (apply Ok1.move; exact rfl) | (apply Ok1.assign; exact rfl))) | apply R.nil | (apply T.is; first | apply T.seq | apply T.region | apply T.exit | apply T.ret | (apply T.cond_f; exact rfl)))
      (apply RetOk.tt; exact rfl; exact rfl)
      have hi2 : (n + 31) / 32 = i := by omega
      refine ⟨blkL 5 ov (u8s (strmB k2 nonce i)), by (focus ((repeat' (first | exact Ext.all _ | apply Keep.last | apply Ext.app)); done)), ov, strmB k2 nonce i, by rw [strmB_len]; exact hov, by rw [strmB_len]; omega, by rw [hst, hi2], ?_, rfl⟩
      cases ov with
      | none =>
        have h0 : 32 * i = 0 := hov.2
        have h1 : n = 0 := by omega
        subst h1
        rfl
      | some q => rfl
theorem turn_set {b s : List Int} {i : Nat} {x y : Int} (hx : b[i]? = some x) (hy : s[i]? = some y) (hl : b.length = s.length) : turnI (b.take (i + 1)) (s.take (i + 1)) ++ b.drop (i + 1) = (turnI (b.take i) (s.take i) ++ b.drop i).set i (xorI .u8 x y) := by
  obtain ⟨h1, rfl⟩ := List.getElem?_eq_some_iff.1 hx
  obtain ⟨h2, rfl⟩ := List.getElem?_eq_some_iff.1 hy
  have hti : (turnI (b.take i) (s.take i)).length = i := by
    unfold turnI
    rw [List.length_zipWith, List.length_take, List.length_take]
    omega
  apply List.ext_getElem?
  intro j
  rw [List.getElem?_set]
  have hl2 : (turnI (b.take i) (s.take i) ++ b.drop i).length = b.length := by rw [List.length_append, hti, List.length_drop]; omega
  unfold turnI
  rcases Nat.lt_trichotomy j i with h | h | h
  · rw [if_neg (by omega), List.getElem?_append_left (by rw [List.length_zipWith, List.length_take, List.length_take]; omega), List.getElem?_append_left (by rw [List.length_zipWith, List.length_take, List.length_take]; omega)]
    rw [List.getElem?_zipWith, List.getElem?_zipWith, List.getElem?_take_of_lt (by omega), List.getElem?_take_of_lt (by omega), List.getElem?_take_of_lt (by omega), List.getElem?_take_of_lt (by omega)]
  · subst h
    rw [if_pos rfl, if_pos (by unfold turnI at hl2; rw [hl2]; exact h1), List.getElem?_append_left (by rw [List.length_zipWith, List.length_take, List.length_take]; omega), List.getElem?_zipWith, List.getElem?_take_of_lt (by omega), List.getElem?_take_of_lt (by omega), List.getElem?_eq_getElem h1, List.getElem?_eq_getElem h2]
  · rw [if_neg (by omega), List.getElem?_append_right (by rw [List.length_zipWith, List.length_take, List.length_take]; omega), List.getElem?_append_right (by rw [List.length_zipWith, List.length_take, List.length_take]; omega), List.getElem?_drop, List.getElem?_drop, List.length_zipWith, List.length_zipWith, List.length_take, List.length_take, List.length_take, List.length_take]
    congr 1
    omega
theorem xor8_zero {x : Int} (h : 0 ≤ x ∧ x ≤ 255) : xorI .u8 x 0 = x := by
  have : ∀ n : Fin 256, xorI .u8 (n.val : Int) 0 = (n.val : Int) := by decide +kernel
  have h2 := this ⟨x.toNat, by omega⟩
  simp only at h2
  rw [Int.toNat_of_nonneg h.1] at h2
  exact h2
theorem List.set_getElem?_self9 {α : Type} {Z : List α} {i : Nat} {x : α} (h : Z[i]? = some x) : Z.set i x = Z := by
  obtain ⟨h1, rfl⟩ := List.getElem?_eq_some_iff.1 h
  exact List.set_getElem_self h1
theorem turned_ok (p : Option Addr) (n cap : Nat) (b : List Int) (hn : n = b.length) (hbig : n ≤ 100000000) (hbb : Byt b) (ps : Option Addr) (cs : Nat) (s : List Int) (hs : s.length = b.length) (w : World) (hp : RdSl w p u8V b) (hps : RdSl w ps u8V s) :
    CallM Tryz.prog 73 [.slice p n cap, .slice ps n cs] [] w fun v L => ∃ ov, OvOk 1 ov n (u8s (turnI b s)) ∧ v = slV ov n ∧ L = blkL 5 ov (u8s (turnI b s)) := by
  subst hn
  have hcl := fun w1 (hc : Chg [] w w1) => bclone_ok p b.length cap b rfl (by omega) w1 (hp.chg' hc (fun _ => Off.nil _))
  refine enterK (tb := tb) Tryz.func73 rfl Tryz.ntmps73 rfl ?_
  repeat' (first | (apply R.is1; first | (apply R.isCall; first | (apply R.callE (vs := [.slice p b.length cap]); (iterate 3 exact rfl); exact Ext.none _; intro w1 hw1; exact hcl w1 hw1.chg; rintro v Lo ⟨ov, hov, rfl, rfl⟩) | (apply R.pure; exact rfl; apply Ok1.lenOv; (iterate 3 exact rfl); exact hov)) | (apply R.pure; exact rfl; first | (apply Ok1.move; exact rfl) | (apply Ok1.assign; exact rfl))) | apply R.nil | (apply T.is; first | apply T.seq | apply T.region | apply T.block | apply T.scope | apply T.label))
  cases ov with
  | none =>
    have h0 : b = [] := List.eq_nil_of_length_eq_zero hov.2
    subst h0
    simp only [slV, blkL, List.length_nil]
    repeat' (first | (apply R.is1; first | (apply R.isBin; (apply R.pure; exact rfl; (apply Ok1.lss_f; exact rfl; exact rfl; omega))) | (apply R.pure; exact rfl; first | (apply Ok1.move; exact rfl) | (apply Ok1.assign; exact rfl))) | apply R.nil | (apply T.is; first | apply T.rounds 1 | apply T.seq | apply T.region | apply T.exit | apply T.ret | (apply T.cond_f; exact rfl)))
    (apply RetOk.t; exact rfl)
    exact ⟨_, by (focus ((repeat' (exact Keep.nil _)); done)), none, OvOk.start 1, rfl, rfl⟩
  | some q =>
    obtain ⟨bq, j, junk⟩ := q
    simp only [slV, blkL]
    apply T.loopK (α := Nat) (I := fun i => i ≤ b.length) (σi := fun i => [(0, .slice p b.length cap), (1, .slice ps b.length cs), (5, .slice (some ⟨bq, 0, none⟩) b.length (b.length + j)), (10, .int .i64 b.length), (11, .int .i64 i)]) (Li := fun i => [(bq, .cells ⟨u8s (turnI (b.take i) (s.take i) ++ b.drop i) ++ junk⟩ 5 (0, 0))]) (μ := fun i => b.length - i) (i0 := 0)
    · exact Nat.zero_le _
    · exact ⟨rfl, rfl, rfl, rfl, rfl, trivial⟩
    · have : turnI (b.take 0) (s.take 0) ++ b.drop 0 = b := by simp [turnI]
      rw [this]
      (focus ((repeat' (first | exact Keep.nil _ | exact Ext.one _ _ | apply Keep.cons)); done))
    · intro i hi
      rcases Nat.lt_or_ge i b.length with hlt | hge
      · obtain ⟨x, hx⟩ : ∃ x, b[i]? = some x := ⟨_, List.getElem?_eq_getElem (by omega)⟩
        obtain ⟨y, hy⟩ : ∃ y, s[i]? = some y := ⟨_, List.getElem?_eq_getElem (by omega)⟩
        obtain ⟨bb, o, hpe, H⟩ := hps.at hy
        replace H := H 1 u8V_len
        have hts := turn_set hx hy hs.symm
        have hti : (turnI (b.take i) (s.take i)).length = i := by
          unfold turnI
          rw [List.length_zipWith, List.length_take, List.length_take]
          omega
        have hgx : (turnI (b.take i) (s.take i) ++ b.drop i)[i]? = some x := by
          rw [List.getElem?_append_right (by omega), hti, Nat.sub_self, List.getElem?_drop, Nat.add_zero]
          exact hx
        have hgl : i < (turnI (b.take i) (s.take i) ++ b.drop i).length := by rw [List.length_append, hti, List.length_drop]; omega
        generalize turnI (b.take i) (s.take i) ++ b.drop i = Z at *
        obtain ⟨Z2, hZ2⟩ : ∃ Z2, turnI (b.take (i + 1)) (s.take (i + 1)) ++ b.drop (i + 1) = Z2 := ⟨_, rfl⟩
        rw [hZ2] at hts
        have hyb : 0 ≤ xorI .u8 x y := (xor8_range x y).1
        have hgz : (u8s Z ++ junk)[0 + i * 1]? = some (.int .u8 x) := by
          rw [Nat.zero_add, Nat.mul_one, List.getElem?_append_left (by rw [u8s_len]; exact hgl), u8s, List.getElem?_map, hgx]
          rfl
        have hsz : setE (u8s Z ++ junk) (0 + i * 1) [.int .u8 (xorI .u8 x y)] = some (u8s Z2 ++ junk) := by
          rw [Nat.zero_add, Nat.mul_one, setE_one (by rw [List.length_append, u8s_len]; omega), List.set_append_left _ _ (by rw [u8s_len]; exact hgl), hts]
          simp [u8s, List.map_set]
        by_cases hy0 : y = 0
        · have hz : Z2 = Z := by
            rw [hts, hy0, xor8_zero (hbb x (List.mem_of_getElem? hx))]
            exact List.set_getElem?_self9 hgx
          subst hy0
          repeat' (first | (apply R.is1; first | (apply R.isBin; (apply R.pure; exact rfl; first | (apply Ok1.add64; exact rfl; exact rfl; omega; omega) | (apply Ok1.lss_t; exact rfl; exact rfl; omega) | (apply Ok1.eql_t; exact rfl; exact rfl; omega))) | (apply R.pure; exact rfl; first | (apply Ok1.indexAddrP; (iterate 4 exact rfl); exact hpe; exact rfl; omega; omega) | (apply Ok1.load; exact rfl; (apply Ld.row0 H; exact rfl; exact List.not_mem_nil; (iterate 3 exact rfl))) | (apply Ok1.move; exact rfl) | (apply Ok1.assign; exact rfl))) | apply R.nil | (apply T.is; first | apply T.seq | apply T.region | apply T.block | apply T.skip | apply T.exit | (apply T.cond_t; exact rfl)))
          refine ⟨i + 1, by omega, by omega, ⟨rfl, rfl, rfl, rfl, rfl, trivial⟩, ?_⟩
          simp only [hZ2, hz]
          (focus ((repeat' (first | exact Keep.nil _ | exact Ext.one _ _ | apply Keep.cons)); done))
        · repeat' (first | (apply R.is1; first | (apply R.isBin; (apply R.pure; exact rfl; first | (apply Ok1.add64; exact rfl; exact rfl; omega; omega) | (apply Ok1.lss_t; exact rfl; exact rfl; omega) | (apply Ok1.eql_f; exact rfl; exact rfl; omega))) | (apply R.pure; exact rfl; first | (apply Ok1.indexAddrP; (iterate 4 exact rfl); exact hpe; exact rfl; omega; omega) | (apply Ok1.load; exact rfl; (apply Ld.row0 H; exact rfl; exact List.not_mem_nil; (iterate 3 exact rfl))) | (apply Ok1.move; exact rfl) | (apply Ok1.assign; exact rfl))) | apply R.nil | (apply T.is; first | (apply T.drawC (id := 6) [] (by decide); ((apply A.take 0; exact rfl; exact rfl; kernel_rfl; kernel_rfl; kernel_rfl; (apply Ok1.move; exact rfl)) <;> (apply A.take 1; exact rfl; exact rfl; kernel_rfl; kernel_rfl; kernel_rfl; (apply Ok1.move; exact rfl)) <;> (apply A.take 2; exact rfl; exact rfl; kernel_rfl; kernel_rfl; kernel_rfl; (apply Ok1.indexAddr; (iterate 5 exact rfl); omega; omega)) <;> (apply A.take 4; exact rfl; exact rfl; kernel_rfl; kernel_rfl; kernel_rfl; (apply Ok1.move; exact rfl)) <;> (apply A.take 5; exact rfl; exact rfl; kernel_rfl; kernel_rfl; kernel_rfl; (apply Ok1.move; exact rfl)) <;> (apply A.take 6; exact rfl; exact rfl; kernel_rfl; kernel_rfl; kernel_rfl; (apply Ok1.indexAddrP; (iterate 4 exact rfl); exact hpe; exact rfl; omega; omega)) <;> (apply A.take 7; exact rfl; exact rfl; kernel_rfl; kernel_rfl; kernel_rfl; (apply Ok1.load; exact rfl; (apply Ld.row0 H; exact rfl; exact List.not_mem_nil; (iterate 3 exact rfl)))) <;> (apply A.one 3; kernel_rfl; exact rfl; (((apply R.pure; exact rfl; (apply Ok1.load; exact rfl; (apply Ld.own1; exact rfl; exact rfl; exact At.head; exact hgz))))); apply R.nil; refine ⟨?_, ?_⟩; (focus ((repeat' (exact trivial))))) <;> (apply A.take 8; exact rfl; exact rfl; kernel_rfl; kernel_rfl; kernel_rfl; (apply Ok1.xorK; exact rfl; exact rfl)) <;> (apply A.take 9; exact rfl; exact rfl; kernel_rfl; kernel_rfl; kernel_rfl; (apply Ok1.indexAddr; (iterate 5 exact rfl); omega; omega)) <;> (apply A.one 10; kernel_rfl; exact rfl; (((apply R.store; (iterate 6 exact rfl); exact Upd.head; exact hsz))); apply R.nil; refine ⟨?_, ?_⟩; (focus ((repeat' (exact trivial))))) <;> (apply A.done; kernel_rfl))) | apply T.seq | apply T.region | apply T.block | apply T.skip | (apply T.cond_t; exact rfl) | (apply T.cond_f; exact rfl)))
          refine ⟨i + 1, by omega, by omega, ⟨rfl, rfl, rfl, rfl, rfl, trivial⟩, ?_⟩
          simp only [hZ2]
          (focus ((repeat' (first | exact Keep.nil _ | exact Ext.one _ _ | apply Keep.cons)); done))
      · have him : i = b.length := by omega
        subst him
        repeat' (first | (apply R.is1; first | (apply R.isBin; (apply R.pure; exact rfl; (apply Ok1.lss_f; exact rfl; exact rfl; omega))) | (apply R.pure; exact rfl; first | (apply Ok1.move; exact rfl) | (apply Ok1.assign; exact rfl))) | apply R.nil | (apply T.is; first | apply T.seq | apply T.region | apply T.exit | apply T.ret | (apply T.cond_f; exact rfl)))
        (apply RetOk.t; exact rfl)
        have h1 : turnI (b.take b.length) (s.take b.length) ++ b.drop b.length = turnI b s := by rw [List.take_length, ← hs, List.take_length, hs, List.drop_length, List.append_nil]
        rw [h1]
        refine ⟨_, by (focus ((repeat' (first | exact Keep.nil _ | exact Ext.one _ _ | apply Keep.cons)); done)), some (bq, j, junk), ⟨?_, hov.2⟩, rfl, rfl⟩
        rw [u8s_len, turnI_len hs.symm]
        omega
end Go.Proofs.YtligngjcnlbgmaaGreat
set_option linter.unusedSimpArgs false
set_option linter.unusedVariables false
namespace Go.Proofs.YtligngjcnlbgmaaGreat
open Go.RowKit Go.Shelf
set_option maxRecDepth 100000
theorem stag_ok (bk : Nat) (k : List Int) (hkl : k.length ≤ 999999000) (hkb : Byt k) (pp : Option Addr) (cap : Nat) (ps : List Pt) (hm2 : ps.length ≤ 100) (hpb : ∀ x ∈ ps, Byt x.xs) (hbig : ∀ x ∈ ps, x.xs.length ≤ 1000000) (hbl : (frameI (ps.map (·.xs))).length ≤ 999998000) (w : World) (hk : KeyR w bk k) (hp : RdSl w pp Pt.v ps) (hall : ∀ x ∈ ps, RdSl w x.p u8V x.xs) :
    CallW Tryz.prog 74 [.pointer (some ⟨bk, 0, none⟩), .slice pp ps.length cap] w fun v _ => v = .agg ⟨u8s (hmacI (deriveI k sBind []) (frameI (ps.map (·.xs))))⟩ := by
  have hfb : Byt (frameI (ps.map (·.xs))) := frame_byt fun l hl => by
    obtain ⟨x, hx, rfl⟩ := List.mem_map.1 hl
    exact hpb x hx
  have hdr := fun w1 (hc : Chg [] w w1) => derive_ok bk k hkl hkb sBind (by decide) none 0 0 [] rfl (by decide) (by simp) (by simp [frameI, len4, strI, sBind]) (by simp) w1 (hk.chg hc) (.inl rfl) (by simp)
  simp only [List.map_nil] at hdr
  have hdl := derive_len k sBind []
  have hdb := derive_byt k sBind []
  generalize deriveI k sBind [] = k2 at *
  refine enterW (tb := tb) Tryz.func74 rfl Tryz.ntmps74 rfl ?_
  repeat' (first | (apply R.is1; first | (apply R.isBin; first | (apply R.pure; exact rfl; first | (apply Ok1.add64; exact rfl; exact rfl; omega; omega) | (apply Ok1.lss_t; exact rfl; exact rfl; omega) | (apply Ok1.lss_f; exact rfl; exact rfl; omega)) | (apply R.lss rfl rfl rfl <;> intro)) | (apply R.isCall; first | (apply R.pure; exact rfl; first | (apply Ok1.lenS; (iterate 3 exact rfl)) | (apply Ok1.lenStr; (iterate 3 exact rfl)) | (apply Ok1.lenMm; (iterate 3 exact rfl); (focus ((repeat' (first | exact At.head | apply At.tail | apply At.right)); done))) | (apply Ok1.lenM_nil; (iterate 3 exact rfl)))) | (apply R.pure; exact rfl; first | (apply Ok1.move; exact rfl) | (apply Ok1.load; exact rfl; first | (apply Ld.own1; exact rfl; exact rfl; (focus ((repeat' (first | exact At.head | apply At.tail | apply At.right)); done)); exact rfl) | (apply Ld.ownk; exact rfl; exact rfl; (focus ((repeat' (first | exact At.head | apply At.tail | apply At.right)); done)); exact rfl) | (apply Ld.old1; exact rfl; exact rfl; assumption; (first | exact List.not_mem_nil | assumption)) | (apply Ld.blk1; exact rfl; exact rfl; assumption; (first | exact List.not_mem_nil | assumption); exact rfl) | (apply Ld.blkk; exact rfl; exact rfl; assumption; (first | exact List.not_mem_nil | assumption); exact rfl)) | (apply Ok1.assign; exact rfl) | (apply Ok1.indexAddr; (iterate 5 exact rfl); omega; omega) | (apply Ok1.indexAddrA; (iterate 5 exact rfl); omega; omega)) | (apply R.alloc; (iterate 3 exact rfl); intro) | (apply R.buildSlice; (iterate 12 exact rfl); intro)) | (apply R.is0; first | (apply R.store; (iterate 6 exact rfl); (focus ((repeat' (first | exact Upd.head | apply Upd.tail | apply Upd.right)); done)); exact rfl) | fail) | (apply R.isG; first | (apply R.guard_run; exact rfl; exact rfl) | (apply R.guard_not; (iterate 3 exact rfl)) | (apply R.guard_not0; exact rfl; exact rfl) | (apply R.guard_un; (iterate 3 exact rfl)) | (apply R.guard_un0; exact rfl; exact rfl) | (apply R.guard rfl rfl ?_ (fun h => ⟨rfl, ?_⟩) <;> try intro)) | apply R.nil | (apply T.is; first | apply T.seq | apply T.region | apply T.block | apply T.scope | apply T.label | apply T.skip | apply T.exit | apply T.ret | (apply T.cond_t; exact rfl) | (apply T.cond_f; exact rfl) | (apply T.cond_h; exact rfl; assumption) | (apply T.cond_n; exact rfl; assumption) | (apply T.cond rfl <;> intro)) | apply Rnd.step)
  rename_i b0
  obtain ⟨src, hsrc⟩ : ∃ src : World → Prop, src = fun W => ∀ x ∈ ps, RdSl W x.p u8V x.xs := ⟨_, rfl⟩
  apply T.loopK (α := Nat × FO) (I := fun y => y.1 ≤ ps.length ∧ FOok y.2 ((ps.take y.1).map (·.xs)) src) (σi := fun y => [(0, .pointer (some ⟨bk, 0, none⟩)), (4, .pointer (some ⟨b0, 0, none⟩)), (5, slV y.2.ov y.2.pts.length), (8, .slice pp ps.length cap), (9, .int .i64 ps.length), (10, .int .i64 y.1)])
    (Li := fun y => (b0, .cells ⟨[.int .u8 0, .int .u8 0, .int .u8 0, .int .u8 0, .int .u8 0, .int .u8 0, .int .u8 0, .int .u8 0, .int .u8 0, .int .u8 0, .int .u8 0, .int .u8 0, .int .u8 0, .int .u8 0, .int .u8 0, .int .u8 0, .int .u8 0, .int .u8 0, .int .u8 0, .int .u8 0, .int .u8 0, .int .u8 0, .int .u8 0, .int .u8 0, .int .u8 0, .int .u8 0, .int .u8 0, .int .u8 0, .int .u8 0, .int .u8 0, .int .u8 0, .int .u8 0]⟩ 123 (0, 0)) :: (blkL 22 y.2.ov (fl Pt.v y.2.pts) ++ y.2.ex)) (μ := fun y => ps.length - y.1)
    (i0 := (0, ⟨none, [], []⟩))
  · exact ⟨Nat.zero_le _, OvOk.start 1, rfl, rfl, fun W _ _ x hx => by cases hx⟩
  · exact ⟨rfl, rfl, rfl, rfl, rfl, rfl, trivial⟩
  · simp only [blkL, List.append_nil]
    (focus ((repeat' (first | exact Keep.nil _ | exact Ext.one _ _ | exact Ext.here _ _ | exact Ext.all _ | apply Keep.cons | apply Keep.app | apply Keep.last | apply Ext.cons | apply Ext.app)); done))
  · rintro ⟨i, f⟩ ⟨hi, hov, hlen, hcat, hrd⟩
    simp only at hi hov hlen hcat hrd ⊢
    have hll : ((ps.take i).map (·.xs)).length = i := by simp; omega
    rw [hll] at hlen
    rcases Nat.lt_or_ge i ps.length with hlt | hge
    · obtain ⟨x, hx⟩ : ∃ x, ps[i]? = some x := ⟨_, List.getElem?_eq_getElem (by omega)⟩
      obtain ⟨b', o', hpe, H⟩ := hp.at hx
      replace H := H 1 Pt.v_len
      have hxb := hbig x (List.mem_of_getElem? hx)
      have hls : (ps.take (i + 1)).map (·.xs) = (ps.take i).map (·.xs) ++ [x.xs] := by rw [List.take_add_one, hx]; simp
      obtain ⟨ov, pts, ex⟩ := f
      simp only at hov hlen hcat hrd ⊢
      have hfo := fun w1 => four_ok (x.xs.length : Int) (by omega) (by omega) w1
      repeat' (first | (apply R.is1; first | (apply R.isBin; first | (apply R.pure; exact rfl; first | (apply Ok1.add64; exact rfl; exact rfl; omega; omega) | (apply Ok1.lss_t; exact rfl; exact rfl; omega) | (apply Ok1.lss_f; exact rfl; exact rfl; omega)) | (apply R.lss rfl rfl rfl <;> intro)) | (apply R.isCall; first | (apply R.callE (vs := [.int .i64 x.xs.length]); (iterate 3 exact rfl); exact Ext.none _; intro w1 hw1; exact hfo w1; rintro v Lo ⟨b4, rfl, rfl⟩) | (apply R.appendRd (xs := [⟨some ⟨b4, 0, none⟩, 4, len4 x.xs.length⟩, x]) (v := Pt.v) (sz := 1) (ov := ov) (n := pts.length) (old := fl Pt.v pts); (iterate 12 exact rfl); exact hov; (focus ((repeat' (first | exact Ext.none _ | exact Ext.one _ _ | exact Ext.here _ _ | exact Ext.all _ | apply Ext.cons | apply Ext.app | apply Ext.two)); done)); exact rfl; exact Pt.v_len; exact rfl; (intro w1 hw1; exact RdSl.of (junk := []) hw1 (by (focus ((repeat' (first | exact At.head | apply At.tail | apply At.right)); done))) rfl); exact rfl; omega; intro ov1 hov1 hsome) | (apply R.pure; exact rfl; first | (apply Ok1.lenS; (iterate 3 exact rfl)) | (apply Ok1.lenStr; (iterate 3 exact rfl)) | (apply Ok1.lenMm; (iterate 3 exact rfl); (focus ((repeat' (first | exact At.head | apply At.tail | apply At.right)); done))) | (apply Ok1.lenM_nil; (iterate 3 exact rfl)))) | (apply R.pure; exact rfl; first | (apply Ok1.indexAddrP; (iterate 4 exact rfl); exact hpe; exact rfl; omega; omega) | (apply Ok1.load; exact rfl; apply Ld.row0 H; exact rfl; exact List.not_mem_nil; (iterate 3 exact rfl)) | (apply Ok1.move; exact rfl) | (apply Ok1.load; exact rfl; first | (apply Ld.own1; exact rfl; exact rfl; (focus ((repeat' (first | exact At.head | apply At.tail | apply At.right)); done)); exact rfl) | (apply Ld.ownk; exact rfl; exact rfl; (focus ((repeat' (first | exact At.head | apply At.tail | apply At.right)); done)); exact rfl) | (apply Ld.old1; exact rfl; exact rfl; assumption; (first | exact List.not_mem_nil | assumption)) | (apply Ld.blk1; exact rfl; exact rfl; assumption; (first | exact List.not_mem_nil | assumption); exact rfl) | (apply Ld.blkk; exact rfl; exact rfl; assumption; (first | exact List.not_mem_nil | assumption); exact rfl)) | (apply Ok1.assign; exact rfl) | (apply Ok1.indexAddr; (iterate 5 exact rfl); omega; omega) | (apply Ok1.indexAddrA; (iterate 5 exact rfl); omega; omega)) | (apply R.alloc; (iterate 3 exact rfl); intro) | (apply R.buildSlice; (iterate 12 exact rfl); intro)) | (apply R.is0; first | (apply R.store; (iterate 6 exact rfl); (focus ((repeat' (first | exact Upd.head | apply Upd.tail | apply Upd.right)); done)); exact rfl) | fail) | (apply R.isG; first | (apply R.guard_run; exact rfl; exact rfl) | (apply R.guard_not; (iterate 3 exact rfl)) | (apply R.guard_not0; exact rfl; exact rfl) | (apply R.guard_un; (iterate 3 exact rfl)) | (apply R.guard_un0; exact rfl; exact rfl) | (apply R.guard rfl rfl ?_ (fun h => ⟨rfl, ?_⟩) <;> try intro)) | apply R.nil | (apply T.is; first | apply T.seq | apply T.region | apply T.block | apply T.scope | apply T.label | apply T.skip | apply T.exit | apply T.ret | (apply T.cond_t; exact rfl) | (apply T.cond_f; exact rfl) | (apply T.cond_h; exact rfl; assumption) | (apply T.cond_n; exact rfl; assumption) | (apply T.cond rfl <;> intro)) | apply Rnd.step)
      rw [← fl_app] at hov1 ⊢
      refine ⟨(i + 1, ⟨ov1, pts ++ [⟨some ⟨b4, 0, none⟩, 4, len4 x.xs.length⟩, x], (b4, .cells ⟨u8s (len4 x.xs.length)⟩ 5 (0, 0)) :: ex⟩), ⟨by simp only; omega, ?_⟩, by simp only; omega, ⟨rfl, rfl, ?_, rfl, rfl, rfl, trivial⟩, ?_⟩
      · rw [hls]
        refine ⟨by simpa using hov1, by simp [hlen]; omega, ?_, fun W hex hs y hy => ?_⟩
        · rw [frame_app, cat_app, hcat, frame_one]
          simp [cat]
        · rcases List.mem_append.1 hy with hy | hy
          · exact hrd W (fun z hz => hex z (List.mem_cons_of_mem _ hz)) hs y hy
          · rcases List.mem_cons.1 hy with rfl | hy
            · exact RdSl.heap (junk := []) (e := 5) (fz := (0, 0)) (by rw [fl_u8, List.append_nil]; exact hex _ List.mem_cons_self)
            · rw [List.mem_singleton.1 hy]
              rw [hsrc] at hs
              exact hs x (List.mem_of_getElem? hx)
      · simp only [List.length_append, List.length_cons, List.length_nil]
        rfl
      · simp only [List.length_append, List.length_cons, List.length_nil, List.append_assoc, List.cons_append, List.nil_append]
        (focus ((repeat' (first | exact Keep.nil _ | exact Ext.one _ _ | exact Ext.here _ _ | exact Ext.all _ | apply Keep.cons | apply Keep.app | apply Keep.last | apply Ext.cons | apply Ext.app)); done))
    · have him : i = ps.length := by omega
      subst him
      rw [List.take_length] at hcat
      have hfl : f.pts.length ≤ 1000000000 := by omega
      have hls : (u8s (hmacI k2 (frameI (ps.map (·.xs))))).length = 32 := by rw [u8s_len, hmac_len]
      have hone := u8s_one (hmacI k2 (frameI (ps.map (·.xs))))
      have htg : ∀ L w1 bd, Hp w [] L w1 → KeyR w1 bd k2 → (∀ z ∈ blkL 22 f.ov (fl Pt.v f.pts), z ∈ L) → (∀ z ∈ f.ex, z ∈ L) → CallW Tryz.prog 113 [.pointer (some ⟨bd, 0, none⟩), .slice (ovp f.ov) f.pts.length (ovc f.ov f.pts.length)] w1 fun v _ => v = .agg ⟨u8s (hmacI k2 (frameI (ps.map (·.xs))))⟩ := by
        intro L w1 bd hw h1 h2 h3
        have h := ktag_ok bd k2 (by rw [hdl]; decide) hdb (ovp f.ov) f.pts.length (ovc f.ov f.pts.length) f.pts rfl (by rw [hcat]; exact hfb) (by rw [hcat]; exact hbl) hfl w1 h1 (RdSl.own' hw h2 hov Pt.v_len) (hrd w1 (fun z hz => hw.get _ _ (h3 z hz)) (by rw [hsrc]; exact fun x hx => (hall x hx).chg' hw.chg (fun _ => Off.nil _)))
        rw [hcat] at h
        exact h
      have hovl := slV_eq hov
      generalize u8s (hmacI k2 (frameI (ps.map (·.xs)))) = D at *
      have hset : ∀ cs : List Value, cs.length = 32 → setE cs 0 D = some D := fun cs h => setE_all (by rw [hls, h])
      obtain ⟨ov, pts, ex⟩ := f
      simp only at hov hovl htg hfl ⊢
      rw [hovl]
      generalize hPL : blkL 22 ov (fl Pt.v pts) = LP at *
      repeat' (first | (apply R.is1; first | (apply R.isBin; first | (apply R.pure; exact rfl; first | (apply Ok1.add64; exact rfl; exact rfl; omega; omega) | (apply Ok1.lss_t; exact rfl; exact rfl; omega) | (apply Ok1.lss_f; exact rfl; exact rfl; omega)) | (apply R.lss rfl rfl rfl <;> intro)) | (apply R.isCall; first | (apply R.callE (vs := [.pointer (some ⟨bk, 0, none⟩), .string sBind, .slice none 0 0]); (iterate 3 exact rfl); exact Ext.none _; intro w1 hw1; exact hdr w1 hw1.chg; rintro v Lo ⟨bd, ovd, rfl, hovd, rfl⟩) | (apply R.pure; exact rfl; first | (apply Ok1.lenS; (iterate 3 exact rfl)) | (apply Ok1.lenStr; (iterate 3 exact rfl)) | (apply Ok1.lenMm; (iterate 3 exact rfl); (focus ((repeat' (first | exact At.head | apply At.tail | apply At.right)); done))) | (apply Ok1.lenM_nil; (iterate 3 exact rfl)))) | (apply R.pure; exact rfl; first | (apply Ok1.move; exact rfl) | (apply Ok1.load; exact rfl; first | (apply Ld.own1; exact rfl; exact rfl; (focus ((repeat' (first | exact At.head | apply At.tail | apply At.right)); done)); exact rfl) | (apply Ld.ownk; exact rfl; exact rfl; (focus ((repeat' (first | exact At.head | apply At.tail | apply At.right)); done)); exact rfl) | (apply Ld.old1; exact rfl; exact rfl; assumption; (first | exact List.not_mem_nil | assumption)) | (apply Ld.blk1; exact rfl; exact rfl; assumption; (first | exact List.not_mem_nil | assumption); exact rfl) | (apply Ld.blkk; exact rfl; exact rfl; assumption; (first | exact List.not_mem_nil | assumption); exact rfl)) | (apply Ok1.assign; exact rfl) | (apply Ok1.indexAddr; (iterate 5 exact rfl); omega; omega) | (apply Ok1.indexAddrA; (iterate 5 exact rfl); omega; omega)) | (apply R.alloc; (iterate 3 exact rfl); intro) | (apply R.buildSlice; (iterate 12 exact rfl); intro)) | (apply R.is0; first | (apply R.store; (iterate 6 exact rfl); (focus ((repeat' (first | exact Upd.head | apply Upd.tail | apply Upd.right)); done)); exact rfl) | fail) | (apply R.isG; first | (apply R.guard_run; exact rfl; exact rfl) | (apply R.guard_not; (iterate 3 exact rfl)) | (apply R.guard_not0; exact rfl; exact rfl) | (apply R.guard_un; (iterate 3 exact rfl)) | (apply R.guard_un0; exact rfl; exact rfl) | (apply R.guard rfl rfl ?_ (fun h => ⟨rfl, ?_⟩) <;> try intro)) | apply R.nil | (apply T.is; first | apply T.seq | apply T.region | apply T.block | apply T.scope | apply T.label | apply T.skip | apply T.exit | apply T.ret | (apply T.cond_t; exact rfl) | (apply T.cond_f; exact rfl) | (apply T.cond_h; exact rfl; assumption) | (apply T.cond_n; exact rfl; assumption) | (apply T.cond rfl <;> intro)) | apply Rnd.step)
      have hKR : ∀ L w1, Hp w [] L w1 → (∀ z ∈ KL bd ovd k2, z ∈ L) → KeyR w1 bd k2 := fun L w1 h1 h2 => KeyR.of (by rw [hdl]; exact hovd) h1 h2
      generalize KL bd ovd k2 = LK at *
      repeat' (first | (apply R.is1; first | (apply R.isBin; first | (apply R.pure; exact rfl; first | (apply Ok1.add64; exact rfl; exact rfl; omega; omega) | (apply Ok1.lss_t; exact rfl; exact rfl; omega) | (apply Ok1.lss_f; exact rfl; exact rfl; omega)) | (apply R.lss rfl rfl rfl <;> intro)) | (apply R.isCall; first | (apply R.callW (vs := [.pointer (some ⟨bd, 0, none⟩), .slice (ovp ov) pts.length (ovc ov pts.length)]); (iterate 3 exact rfl); intro w1 hw1; exact htg _ w1 bd hw1 (hKR _ w1 hw1 (Ext.mem (by (focus ((repeat' (first | exact Ext.none _ | exact Ext.one _ _ | exact Ext.here _ _ | exact Ext.all _ | apply Ext.cons | apply Ext.app | apply Ext.two)); done))))) (Ext.mem (by (focus ((repeat' (first | exact Ext.none _ | exact Ext.one _ _ | exact Ext.here _ _ | exact Ext.all _ | apply Ext.cons | apply Ext.app | apply Ext.two)); done)))) (Ext.mem (by (focus ((repeat' (first | exact Ext.none _ | exact Ext.one _ _ | exact Ext.here _ _ | exact Ext.all _ | apply Ext.cons | apply Ext.app | apply Ext.two)); done)))); rintro v rfl) | (apply R.pure; exact rfl; first | (apply Ok1.lenS; (iterate 3 exact rfl)) | (apply Ok1.lenStr; (iterate 3 exact rfl)) | (apply Ok1.lenMm; (iterate 3 exact rfl); (focus ((repeat' (first | exact At.head | apply At.tail | apply At.right)); done))) | (apply Ok1.lenM_nil; (iterate 3 exact rfl)))) | (apply R.pure; exact rfl; first | (apply Ok1.move; exact rfl) | (apply Ok1.load; exact rfl; first | (apply Ld.own1; exact rfl; exact rfl; (focus ((repeat' (first | exact At.head | apply At.tail | apply At.right)); done)); exact rfl) | (apply Ld.ownk; exact rfl; exact rfl; (focus ((repeat' (first | exact At.head | apply At.tail | apply At.right)); done)); exact rfl) | (apply Ld.old1; exact rfl; exact rfl; assumption; (first | exact List.not_mem_nil | assumption)) | (apply Ld.blk1; exact rfl; exact rfl; assumption; (first | exact List.not_mem_nil | assumption); exact rfl) | (apply Ld.blkk; exact rfl; exact rfl; assumption; (first | exact List.not_mem_nil | assumption); exact rfl)) | (apply Ok1.assign; exact rfl) | (apply Ok1.indexAddr; (iterate 5 exact rfl); omega; omega) | (apply Ok1.indexAddrA; (iterate 5 exact rfl); omega; omega)) | (apply R.alloc; (iterate 3 exact rfl); intro) | (apply R.buildSlice; (iterate 12 exact rfl); intro)) | (apply R.is0; first | (apply R.store; (iterate 4 exact rfl); exact hls; exact hone; (focus ((repeat' (first | exact Upd.head | apply Upd.tail | apply Upd.right)); done)); exact hset _ rfl) | (apply R.store; (iterate 6 exact rfl); (focus ((repeat' (first | exact Upd.head | apply Upd.tail | apply Upd.right)); done)); exact rfl) | fail) | (apply R.isG; first | (apply R.guard_run; exact rfl; exact rfl) | (apply R.guard_not; (iterate 3 exact rfl)) | (apply R.guard_not0; exact rfl; exact rfl) | (apply R.guard_un; (iterate 3 exact rfl)) | (apply R.guard_un0; exact rfl; exact rfl) | (apply R.guard rfl rfl ?_ (fun h => ⟨rfl, ?_⟩) <;> try intro)) | apply R.nil | (apply T.is; first | apply T.seq | apply T.region | apply T.block | apply T.scope | apply T.label | apply T.skip | apply T.exit | apply T.ret | (apply T.cond_t; exact rfl) | (apply T.cond_f; exact rfl) | (apply T.cond_h; exact rfl; assumption) | (apply T.cond_n; exact rfl; assumption) | (apply T.cond rfl <;> intro)) | apply Rnd.step)
      (apply RetOk.c; exact rfl; (apply Ld.ownk; exact rfl; exact rfl; (focus ((repeat' (first | exact At.head | apply At.tail | apply At.right)); done)); exact subE_all hls))
      rfl
end Go.Proofs.YtligngjcnlbgmaaGreat
