/- Texts of the proof: Sy7, Sy11, Sy12, Sy13, Sy14, Sy15, Sy16, Sy17, Sy20, Sy18, Sy19, Sy21, C23a, Rf7, Rf9, Sz1. -/
import Derived.Test.YtplhnkmmhndkjaaGreatL25bb4
set_option linter.unusedSimpArgs false
set_option linter.unusedVariables false
namespace Go.Proofs.YtplhnkmmhndkjaaGreat
open Go.RowKit Go.Shelf
set_option maxRecDepth 100000
/-- The first error of some rumours. -/
def rmE : List Rm → Int
  | [] => 0
  | r :: l => if r.chk ≠ 0 then r.chk else rmE l
theorem rmE_at : ∀ {rs : List Rm} {i : Nat} {r : Rm}, (∀ x ∈ rs.take i, x.chk = 0) → rs[i]? = some r → r.chk ≠ 0 → rmE rs = r.chk
  | [], i, r, _, h, _ => by simp at h
  | a :: l, 0, r, _, h, hc => by
    simp only [List.getElem?_cons_zero, Option.some.injEq] at h
    subst h
    simp only [rmE]
    rw [if_pos hc]
  | a :: l, i + 1, r, hp, h, hc => by
    have h0 : a.chk = 0 := hp a (by simp)
    simp only [rmE]
    rw [if_neg (by simp [h0])]
    exact rmE_at (fun x hx => hp x (by rw [List.take_succ_cons]; exact List.mem_cons_of_mem _ hx)) (by simpa using h) hc
theorem rmE_ok {rs : List Rm} (h : ∀ x ∈ rs, x.chk = 0) : rmE rs = 0 := by
  induction rs with
  | nil => rfl
  | cons a l ih =>
    simp only [rmE]
    rw [if_neg (by simp [h a])]
    exact ih fun x hx => h x (List.mem_cons_of_mem _ hx)
theorem chk_right {r : Rm} (h : r.chk = 0) : r.cl.right ∧ 0 ≤ r.kind ∧ r.kind < 3 ∧ 0 ≤ r.inc ∧ r.inc ≤ 2147483647 := by
  unfold Rm.chk at h
  split at h
  · omega
  · split at h
    · omega
    · rename_i h1 h2
      by_cases hr : r.cl.right
      · exact ⟨hr, by omega, by omega, by omega, by omega⟩
      · exact absurd (.inl hr) h2
def rmI (r : Rm) : List Int := r.kind :: (clI r.cl ++ [r.inc / 16777216, r.inc / 65536 % 256, r.inc / 256 % 256, r.inc % 256])
def rmsI (n : Nat) (rs : List Rm) : List Int := (n : Int) :: (rs.map rmI).flatten
theorem mbytes_ok (p : Option Addr) (cap : Nat) (rs : List Rm) (w : World) (hp : RdSl w p Rm.v rs) (hl : rs.length ≤ 20) :
    CallM Tryz.prog 42 [.slice p rs.length cap] [] w fun v L => (rmE rs ≠ 0 ∧ v = .tuple #[.slice none 0 0, .int .i64 (rmE rs)] ∧ L = []) ∨ rmE rs = 0 ∧ ∃ ov, OvOk 1 ov (1 + 14 * rs.length) (u8s (rmsI rs.length rs)) ∧ v = .tuple #[slV ov (1 + 14 * rs.length), .int .i64 0] ∧ L = blkL 5 ov (u8s (rmsI rs.length rs)) := by
  refine enterK (tb := tb) Tryz.func42 rfl Tryz.ntmps42 rfl ?_
  repeat' (first | (apply R.is1; first | (apply R.isBin; first | (apply R.pure; exact rfl; first | (apply Ok1.add64; exact rfl; exact rfl; omega; omega) | (apply Ok1.lss_t; exact rfl; exact rfl; omega) | (apply Ok1.lss_f; exact rfl; exact rfl; omega) | (apply Ok1.gtr_t; exact rfl; exact rfl; omega) | (apply Ok1.gtr_f; exact rfl; exact rfl; omega) | (apply Ok1.neq_t; exact rfl; exact rfl; omega) | (apply Ok1.neq_f; exact rfl; exact rfl; omega) | (apply Ok1.shr; exact rfl; exact rfl; omega; exact Nat.le_of_ble_eq_true rfl; (first | exact pwE1 | exact pwE2 | exact pwE3 | exact pwE4 | exact pwE5 | exact pwE6 | exact pwE7 | exact pwE8 | exact pwE16 | exact pwE24 | exact pwE32 | exact rfl)) | (apply Ok1.neqP; (iterate 5 exact rfl)) | (apply Ok1.neqM; (iterate 5 exact rfl)) | (apply Ok1.neqS; (iterate 5 exact rfl))) | (apply R.lss rfl rfl rfl <;> intro) | (apply R.gtr rfl rfl rfl <;> intro) | (apply R.neq rfl rfl rfl <;> intro) | (apply R.neqF; (iterate 8 exact rfl); all_goals intro)) | (apply R.isCall; first | (apply R.pure; exact rfl; first | (apply Ok1.lenS; (iterate 3 exact rfl)) | (apply Ok1.lenStr; (iterate 3 exact rfl)) | (apply Ok1.lenMm; (iterate 3 exact rfl); (focus ((repeat' (first | exact At.head | apply At.tail | apply At.right)); done))) | (apply Ok1.lenM_nil; (iterate 3 exact rfl)))) | (apply R.pure; exact rfl; first | (apply Ok1.move; exact rfl) | (apply Ok1.fieldAddr; (iterate 5 exact rfl)) | (apply Ok1.load; exact rfl; first | (apply Ld.own1; exact rfl; exact rfl; (focus ((repeat' (first | exact At.head | apply At.tail | apply At.right)); done)); exact rfl) | (apply Ld.ownk; exact rfl; exact rfl; (focus ((repeat' (first | exact At.head | apply At.tail | apply At.right)); done)); exact rfl) | (apply Ld.old1; exact rfl; exact rfl; assumption; (first | exact List.not_mem_nil | assumption)) | (apply Ld.blk1; exact rfl; exact rfl; assumption; (first | exact List.not_mem_nil | assumption); exact rfl) | (apply Ld.blkk; exact rfl; exact rfl; assumption; (first | exact List.not_mem_nil | assumption); exact rfl)) | (apply Ok1.assign; exact rfl) | (apply Ok1.indexAddr; (iterate 5 exact rfl); omega; omega) | (apply Ok1.indexAddrA; (iterate 5 exact rfl); omega; omega) | (apply Ok1.extract; exact rfl; exact rfl) | (apply Ok1.convI64; (iterate 5 exact rfl); omega; omega) | (apply Ok1.convU64; (iterate 5 exact rfl); omega; omega) | (apply Ok1.convU32; (iterate 5 exact rfl); omega; omega) | (apply Ok1.convU8; (iterate 5 exact rfl); omega; omega) | (apply Ok1.conv; (iterate 5 exact rfl))) | (apply R.alloc; (iterate 3 exact rfl); intro) | (apply R.buildSlice; (iterate 12 exact rfl); intro)) | (apply R.is0; first | (apply R.store; (iterate 6 exact rfl); (focus ((repeat' (first | exact Upd.head | apply Upd.tail | apply Upd.right)); done)); exact rfl) | fail) | (apply R.isG; first | (apply R.guard_run; exact rfl; exact rfl) | (apply R.guard_not; (iterate 3 exact rfl)) | (apply R.guard_not0; exact rfl; exact rfl) | (apply R.guard_un; (iterate 3 exact rfl)) | (apply R.guard_un0; exact rfl; exact rfl) | (apply R.guard rfl rfl ?_ (fun h => ⟨rfl, ?_⟩) <;> try intro)) | apply R.nil | (apply T.is; first | apply T.seq | apply T.region | apply T.block | apply T.scope | apply T.label | apply T.skip | apply T.exit | apply T.ret | (apply T.cond_t; exact rfl) | (apply T.cond_f; exact rfl) | (apply T.cond_h; exact rfl; assumption) | (apply T.cond_n; exact rfl; assumption) | (apply T.cond rfl <;> intro)) | apply Rnd.step)
  rename_i b0
  apply T.loopK (α := Nat × Ov) (I := fun y => y.1 ≤ rs.length ∧ (∀ x ∈ rs.take y.1, x.chk = 0) ∧ OvOk 1 y.2 (1 + 14 * y.1) (u8s (rmsI rs.length (rs.take y.1)))) (σi := fun y => [(4, slV y.2 (1 + 14 * y.1)), (17, .slice p rs.length cap), (18, .int .i64 rs.length), (19, .int .i64 y.1)]) (Li := fun y => blkL 5 y.2 (u8s (rmsI rs.length (rs.take y.1)))) (μ := fun y => rs.length - y.1) (i0 := (0, some (b0, 0, [])))
  · exact ⟨Nat.zero_le _, by simp, rfl, rfl⟩
  · exact ⟨rfl, rfl, rfl, rfl, trivial⟩
  · (focus ((repeat' (first | exact Keep.nil _ | exact Ext.one _ _ | exact Ext.here _ _ | exact Ext.all _ | apply Keep.cons | apply Keep.app | apply Keep.last | apply Ext.cons | apply Ext.app)); done))
  · rintro ⟨i, ov⟩ ⟨hi, hck, hov⟩
    simp only at hi hck hov ⊢
    rcases Nat.lt_or_ge i rs.length with hlt | hge
    · obtain ⟨r, hr⟩ : ∃ r, rs[i]? = some r := ⟨_, List.getElem?_eq_getElem (by omega)⟩
      obtain ⟨b, o, hpe, H⟩ := hp.at hr
      replace H := H 6 Rm.v_len
      have hmc := mcheck_ok r
      by_cases hc : r.chk = 0
      · obtain ⟨hrt, hk0, hk3, hi0, hi1⟩ := chk_right hc
        have hcb := fun w1 => clBytes_ok r.cl hrt w1
        rw [hc] at hmc
        generalize hB : rmsI rs.length (rs.take i) = B at *
        generalize hC : clI r.cl = C at *
        repeat' (first | (apply R.is1; first | (apply R.isBin; first | (apply R.pure; exact rfl; first | (apply Ok1.add64; exact rfl; exact rfl; omega; omega) | (apply Ok1.lss_t; exact rfl; exact rfl; omega) | (apply Ok1.lss_f; exact rfl; exact rfl; omega) | (apply Ok1.gtr_t; exact rfl; exact rfl; omega) | (apply Ok1.gtr_f; exact rfl; exact rfl; omega) | (apply Ok1.neq_t; exact rfl; exact rfl; omega) | (apply Ok1.neq_f; exact rfl; exact rfl; omega) | (apply Ok1.shr; exact rfl; exact rfl; omega; exact Nat.le_of_ble_eq_true rfl; (first | exact pwE1 | exact pwE2 | exact pwE3 | exact pwE4 | exact pwE5 | exact pwE6 | exact pwE7 | exact pwE8 | exact pwE16 | exact pwE24 | exact pwE32 | exact rfl)) | (apply Ok1.neqP; (iterate 5 exact rfl)) | (apply Ok1.neqM; (iterate 5 exact rfl)) | (apply Ok1.neqS; (iterate 5 exact rfl))) | (apply R.lss rfl rfl rfl <;> intro) | (apply R.gtr rfl rfl rfl <;> intro) | (apply R.neq rfl rfl rfl <;> intro) | (apply R.neqF; (iterate 8 exact rfl); all_goals intro)) | (apply R.isCall; first | apply R.callP rfl rfl rfl hmc | (apply R.callE (vs := [kvC r.cl]); (iterate 3 exact rfl); exact Ext.none _; intro w1 hw1; exact hcb w1; rintro v Lo ⟨ovc1, hovc, rfl, rfl⟩) | ((apply R.append1; (iterate 12 exact rfl); (focus ((repeat' (first | exact OwnAt.mid hov | exact OwnAt.base hov | exact OwnAt.nil _ | apply OwnAt.tail | apply OwnAt.right)); done)); (focus ((repeat' (first | exact At.head | apply At.tail | apply At.right)); done)); exact rfl; exact rfl; omega; omega; intro b2 j2 k2 hj2); have hov2 := OvOk.some (b := b2) hov (ys := [Value.int .u8 r.kind]) (m := 1) rfl hj2) | (apply R.appendSl (ov := some (b2, j2, k2)) (n := 1 + 14 * i + 1) (old := u8s B ++ [Value.int .u8 r.kind]) (ov2 := ovc1) (m := 9) (news := u8s C) (e3 := 5); (iterate 12 exact rfl); exact hov2; exact hovc; (focus ((repeat' (first | exact Ext.none _ | exact Ext.one _ _ | exact Ext.here _ _ | exact Ext.all _ | apply Ext.cons | apply Ext.app | apply Ext.two)); done)); exact Ext.mem (by (focus ((repeat' (first | exact Ext.none _ | exact Ext.one _ _ | exact Ext.here _ _ | exact Ext.all _ | apply Ext.cons | apply Ext.app | apply Ext.two)); done))); exact u8s_one _; omega; intro ov3 hov3) | (apply R.append1; (iterate 12 exact rfl); (focus ((repeat' (first | exact OwnAt.mid hov3 | exact OwnAt.base hov3 | exact OwnAt.nil _ | apply OwnAt.tail | apply OwnAt.right)); done)); (focus ((repeat' (first | exact At.head | apply At.tail | apply At.right)); done)); exact rfl; exact rfl; omega; omega; intro b2 j2 k2 hj2) | (apply R.pure; exact rfl; first | (apply Ok1.lenS; (iterate 3 exact rfl)) | (apply Ok1.lenStr; (iterate 3 exact rfl)) | (apply Ok1.lenMm; (iterate 3 exact rfl); (focus ((repeat' (first | exact At.head | apply At.tail | apply At.right)); done))) | (apply Ok1.lenM_nil; (iterate 3 exact rfl)))) | (apply R.pure; exact rfl; first | (apply Ok1.indexAddrP; (iterate 4 exact rfl); exact hpe; exact rfl; omega; omega) | (apply Ok1.load; exact rfl; first | (apply Ld.rowk0 H; exact rfl; exact List.not_mem_nil; (iterate 3 exact rfl)) | (apply Ld.ownk; exact rfl; exact rfl; (focus ((repeat' (first | exact At.head | apply At.tail | apply At.right)); done)); exact rfl) | (apply Ld.own1; exact rfl; exact rfl; (focus ((repeat' (first | exact At.head | apply At.tail | apply At.right)); done)); exact rfl)) | (apply Ok1.move; exact rfl) | (apply Ok1.fieldAddr; (iterate 5 exact rfl)) | (apply Ok1.load; exact rfl; first | (apply Ld.own1; exact rfl; exact rfl; (focus ((repeat' (first | exact At.head | apply At.tail | apply At.right)); done)); exact rfl) | (apply Ld.ownk; exact rfl; exact rfl; (focus ((repeat' (first | exact At.head | apply At.tail | apply At.right)); done)); exact rfl) | (apply Ld.old1; exact rfl; exact rfl; assumption; (first | exact List.not_mem_nil | assumption)) | (apply Ld.blk1; exact rfl; exact rfl; assumption; (first | exact List.not_mem_nil | assumption); exact rfl) | (apply Ld.blkk; exact rfl; exact rfl; assumption; (first | exact List.not_mem_nil | assumption); exact rfl)) | (apply Ok1.assign; exact rfl) | (apply Ok1.indexAddr; (iterate 5 exact rfl); omega; omega) | (apply Ok1.indexAddrA; (iterate 5 exact rfl); omega; omega) | (apply Ok1.extract; exact rfl; exact rfl) | (apply Ok1.convI64; (iterate 5 exact rfl); omega; omega) | (apply Ok1.convU64; (iterate 5 exact rfl); omega; omega) | (apply Ok1.convU32; (iterate 5 exact rfl); omega; omega) | (apply Ok1.convU8; (iterate 5 exact rfl); omega; omega) | (apply Ok1.conv; (iterate 5 exact rfl))) | (apply R.alloc; (iterate 3 exact rfl); intro) | (apply R.buildSlice; (iterate 12 exact rfl); intro)) | (apply R.is0; first | (apply R.store; (iterate 6 exact rfl); (focus ((repeat' (first | exact Upd.head | apply Upd.tail | apply Upd.right)); done)); exact rfl) | fail) | (apply R.isG; first | (apply R.guard_run; exact rfl; exact rfl) | (apply R.guard_not; (iterate 3 exact rfl)) | (apply R.guard_not0; exact rfl; exact rfl) | (apply R.guard_un; (iterate 3 exact rfl)) | (apply R.guard_un0; exact rfl; exact rfl) | (apply R.guard rfl rfl ?_ (fun h => ⟨rfl, ?_⟩) <;> try intro)) | apply R.nil | (apply T.is; first | apply T.seq | apply T.region | apply T.block | apply T.scope | apply T.label | apply T.skip | apply T.exit | apply T.ret | (apply T.cond_t; exact rfl) | (apply T.cond_f; exact rfl) | (apply T.cond_h; exact rfl; assumption) | (apply T.cond_n; exact rfl; assumption) | (apply T.cond rfl <;> intro)) | apply Rnd.step)
        have hB1 : u8s (rmsI rs.length (rs.take (i + 1))) = u8s B ++ [Value.int .u8 r.kind] ++ u8s C ++ [Value.int .u8 (r.inc / 16777216), .int .u8 (r.inc / 65536 % 256), .int .u8 (r.inc / 256 % 256), .int .u8 (r.inc % 256)] := by
          rw [← hB, ← hC]
          simp only [rmsI, List.take_add_one, hr, Option.toList, List.map_append, List.flatten_append, List.map_cons, List.map_nil, List.flatten_cons, List.flatten_nil, rmI, List.append_nil]
          simp only [u8s, List.map_append, List.map_cons, List.map_nil, List.cons_append, List.append_assoc, List.nil_append]
        have hck1 : ∀ x ∈ rs.take (i + 1), x.chk = 0 := fun x hx => by
          rw [List.take_add_one, hr] at hx
          rcases List.mem_append.1 hx with h | h
          · exact hck x h
          · simp only [Option.toList, List.mem_singleton] at h
            rw [h]; exact hc
        have hn1 : 1 + 14 * (i + 1) = 1 + 14 * i + 1 + 9 + 4 := by omega
        refine ⟨(i + 1, some (b2, j2, k2)), ?_⟩
        simp only [hB1, hn1]
        exact ⟨⟨by omega, hck1, OvOk.some (b := b2) hov3 (m := 4) rfl hj2⟩, by omega, ⟨rfl, rfl, rfl, rfl, trivial⟩, by (focus ((repeat' (first | exact Keep.nil _ | exact Ext.one _ _ | exact Ext.here _ _ | exact Ext.all _ | apply Keep.cons | apply Keep.app | apply Keep.last | apply Ext.cons | apply Ext.app)); done))⟩
      · repeat' (first | (apply R.is1; first | (apply R.isBin; first | (apply R.pure; exact rfl; first | (apply Ok1.add64; exact rfl; exact rfl; omega; omega) | (apply Ok1.lss_t; exact rfl; exact rfl; omega) | (apply Ok1.lss_f; exact rfl; exact rfl; omega) | (apply Ok1.gtr_t; exact rfl; exact rfl; omega) | (apply Ok1.gtr_f; exact rfl; exact rfl; omega) | (apply Ok1.neq_t; exact rfl; exact rfl; omega) | (apply Ok1.neq_f; exact rfl; exact rfl; omega) | (apply Ok1.shr; exact rfl; exact rfl; omega; exact Nat.le_of_ble_eq_true rfl; (first | exact pwE1 | exact pwE2 | exact pwE3 | exact pwE4 | exact pwE5 | exact pwE6 | exact pwE7 | exact pwE8 | exact pwE16 | exact pwE24 | exact pwE32 | exact rfl)) | (apply Ok1.neqP; (iterate 5 exact rfl)) | (apply Ok1.neqM; (iterate 5 exact rfl)) | (apply Ok1.neqS; (iterate 5 exact rfl))) | (apply R.lss rfl rfl rfl <;> intro) | (apply R.gtr rfl rfl rfl <;> intro) | (apply R.neq rfl rfl rfl <;> intro) | (apply R.neqF; (iterate 8 exact rfl); all_goals intro)) | (apply R.isCall; first | apply R.callP rfl rfl rfl hmc | (apply R.pure; exact rfl; first | (apply Ok1.lenS; (iterate 3 exact rfl)) | (apply Ok1.lenStr; (iterate 3 exact rfl)) | (apply Ok1.lenMm; (iterate 3 exact rfl); (focus ((repeat' (first | exact At.head | apply At.tail | apply At.right)); done))) | (apply Ok1.lenM_nil; (iterate 3 exact rfl)))) | (apply R.pure; exact rfl; first | (apply Ok1.indexAddrP; (iterate 4 exact rfl); exact hpe; exact rfl; omega; omega) | (apply Ok1.load; exact rfl; first | (apply Ld.rowk0 H; exact rfl; exact List.not_mem_nil; (iterate 3 exact rfl)) | (apply Ld.ownk; exact rfl; exact rfl; (focus ((repeat' (first | exact At.head | apply At.tail | apply At.right)); done)); exact rfl)) | (apply Ok1.move; exact rfl) | (apply Ok1.fieldAddr; (iterate 5 exact rfl)) | (apply Ok1.load; exact rfl; first | (apply Ld.own1; exact rfl; exact rfl; (focus ((repeat' (first | exact At.head | apply At.tail | apply At.right)); done)); exact rfl) | (apply Ld.ownk; exact rfl; exact rfl; (focus ((repeat' (first | exact At.head | apply At.tail | apply At.right)); done)); exact rfl) | (apply Ld.old1; exact rfl; exact rfl; assumption; (first | exact List.not_mem_nil | assumption)) | (apply Ld.blk1; exact rfl; exact rfl; assumption; (first | exact List.not_mem_nil | assumption); exact rfl) | (apply Ld.blkk; exact rfl; exact rfl; assumption; (first | exact List.not_mem_nil | assumption); exact rfl)) | (apply Ok1.assign; exact rfl) | (apply Ok1.indexAddr; (iterate 5 exact rfl); omega; omega) | (apply Ok1.indexAddrA; (iterate 5 exact rfl); omega; omega) | (apply Ok1.extract; exact rfl; exact rfl) | (apply Ok1.convI64; (iterate 5 exact rfl); omega; omega) | (apply Ok1.convU64; (iterate 5 exact rfl); omega; omega) | (apply Ok1.convU32; (iterate 5 exact rfl); omega; omega) | (apply Ok1.convU8; (iterate 5 exact rfl); omega; omega) | (apply Ok1.conv; (iterate 5 exact rfl))) | (apply R.alloc; (iterate 3 exact rfl); intro) | (apply R.buildSlice; (iterate 12 exact rfl); intro)) | (apply R.is0; first | (apply R.store; (iterate 6 exact rfl); (focus ((repeat' (first | exact Upd.head | apply Upd.tail | apply Upd.right)); done)); exact rfl) | fail) | (apply R.isG; first | (apply R.guard_run; exact rfl; exact rfl) | (apply R.guard_not; (iterate 3 exact rfl)) | (apply R.guard_not0; exact rfl; exact rfl) | (apply R.guard_un; (iterate 3 exact rfl)) | (apply R.guard_un0; exact rfl; exact rfl) | (apply R.guard rfl rfl ?_ (fun h => ⟨rfl, ?_⟩) <;> try intro)) | apply R.nil | (apply T.is; first | apply T.seq | apply T.region | apply T.block | apply T.scope | apply T.label | apply T.skip | apply T.exit | apply T.ret | (apply T.cond_t; exact rfl) | (apply T.cond_f; exact rfl) | (apply T.cond_h; exact rfl; assumption) | (apply T.cond_n; exact rfl; assumption) | (apply T.cond rfl <;> intro)) | apply Rnd.step)
        all_goals (apply RetOk.tt; exact rfl; exact rfl)
        all_goals have he := rmE_at hck hr hc
        all_goals exact ⟨_, by (focus ((repeat' (first | exact Keep.nil _ | exact Ext.one _ _ | exact Ext.here _ _ | exact Ext.all _ | apply Keep.cons | apply Keep.app | apply Keep.last | apply Ext.cons | apply Ext.app)); done)), .inl ⟨by rw [he]; exact hc, by rw [he], rfl⟩⟩
    · have him : i = rs.length := by omega
      subst him
      rw [List.take_length] at hov hck ⊢
      repeat' (first | (apply R.is1; first | (apply R.isBin; first | (apply R.pure; exact rfl; first | (apply Ok1.add64; exact rfl; exact rfl; omega; omega) | (apply Ok1.lss_t; exact rfl; exact rfl; omega) | (apply Ok1.lss_f; exact rfl; exact rfl; omega) | (apply Ok1.gtr_t; exact rfl; exact rfl; omega) | (apply Ok1.gtr_f; exact rfl; exact rfl; omega) | (apply Ok1.neq_t; exact rfl; exact rfl; omega) | (apply Ok1.neq_f; exact rfl; exact rfl; omega) | (apply Ok1.shr; exact rfl; exact rfl; omega; exact Nat.le_of_ble_eq_true rfl; (first | exact pwE1 | exact pwE2 | exact pwE3 | exact pwE4 | exact pwE5 | exact pwE6 | exact pwE7 | exact pwE8 | exact pwE16 | exact pwE24 | exact pwE32 | exact rfl)) | (apply Ok1.neqP; (iterate 5 exact rfl)) | (apply Ok1.neqM; (iterate 5 exact rfl)) | (apply Ok1.neqS; (iterate 5 exact rfl))) | (apply R.lss rfl rfl rfl <;> intro) | (apply R.gtr rfl rfl rfl <;> intro) | (apply R.neq rfl rfl rfl <;> intro) | (apply R.neqF; (iterate 8 exact rfl); all_goals intro)) | (apply R.isCall; first | (apply R.pure; exact rfl; first | (apply Ok1.lenS; (iterate 3 exact rfl)) | (apply Ok1.lenStr; (iterate 3 exact rfl)) | (apply Ok1.lenMm; (iterate 3 exact rfl); (focus ((repeat' (first | exact At.head | apply At.tail | apply At.right)); done))) | (apply Ok1.lenM_nil; (iterate 3 exact rfl)))) | (apply R.pure; exact rfl; first | (apply Ok1.move; exact rfl) | (apply Ok1.fieldAddr; (iterate 5 exact rfl)) | (apply Ok1.load; exact rfl; first | (apply Ld.own1; exact rfl; exact rfl; (focus ((repeat' (first | exact At.head | apply At.tail | apply At.right)); done)); exact rfl) | (apply Ld.ownk; exact rfl; exact rfl; (focus ((repeat' (first | exact At.head | apply At.tail | apply At.right)); done)); exact rfl) | (apply Ld.old1; exact rfl; exact rfl; assumption; (first | exact List.not_mem_nil | assumption)) | (apply Ld.blk1; exact rfl; exact rfl; assumption; (first | exact List.not_mem_nil | assumption); exact rfl) | (apply Ld.blkk; exact rfl; exact rfl; assumption; (first | exact List.not_mem_nil | assumption); exact rfl)) | (apply Ok1.assign; exact rfl) | (apply Ok1.indexAddr; (iterate 5 exact rfl); omega; omega) | (apply Ok1.indexAddrA; (iterate 5 exact rfl); omega; omega) | (apply Ok1.extract; exact rfl; exact rfl) | (apply Ok1.convI64; (iterate 5 exact rfl); omega; omega) | (apply Ok1.convU64; (iterate 5 exact rfl); omega; omega) | (apply Ok1.convU32; (iterate 5 exact rfl); omega; omega) | (apply Ok1.convU8; (iterate 5 exact rfl); omega; omega) | (apply Ok1.conv; (iterate 5 exact rfl))) | (apply R.alloc; (iterate 3 exact rfl); intro) | (apply R.buildSlice; (iterate 12 exact rfl); intro)) | (apply R.is0; first | (apply R.store; (iterate 6 exact rfl); (focus ((repeat' (first | exact Upd.head | apply Upd.tail | apply Upd.right)); done)); exact rfl) | fail) | (apply R.isG; first | (apply R.guard_run; exact rfl; exact rfl) | (apply R.guard_not; (iterate 3 exact rfl)) | (apply R.guard_not0; exact rfl; exact rfl) | (apply R.guard_un; (iterate 3 exact rfl)) | (apply R.guard_un0; exact rfl; exact rfl) | (apply R.guard rfl rfl ?_ (fun h => ⟨rfl, ?_⟩) <;> try intro)) | apply R.nil | (apply T.is; first | apply T.seq | apply T.region | apply T.block | apply T.scope | apply T.label | apply T.skip | apply T.exit | apply T.ret | (apply T.cond_t; exact rfl) | (apply T.cond_f; exact rfl) | (apply T.cond_h; exact rfl; assumption) | (apply T.cond_n; exact rfl; assumption) | (apply T.cond rfl <;> intro)) | apply Rnd.step)
      (apply RetOk.tt; exact rfl; exact rfl)
      exact ⟨_, by (focus ((repeat' (first | exact Keep.nil _ | exact Ext.one _ _ | exact Ext.here _ _ | exact Ext.all _ | apply Keep.cons | apply Keep.app | apply Keep.last | apply Ext.cons | apply Ext.app)); done)), .inr ⟨rmE_ok hck, ov, hov, rfl, rfl⟩⟩
end Go.Proofs.YtplhnkmmhndkjaaGreat
set_option linter.unusedSimpArgs false
set_option linter.unusedVariables false
namespace Go.Proofs.YtplhnkmmhndkjaaGreat
open Go.RowKit Go.Shelf Go.Sort
set_option maxRecDepth 100000
def rightAll (cs : List Cl) : Bool := cs.all fun c => decide c.right
theorem rightAll_iff {cs : List Cl} : rightAll cs = true ↔ ∀ c ∈ cs, c.right := by simp [rightAll]
/-- What is wrong with claims that are told. -/
def pplE (cs : List Cl) : Int := if 16 < cs.length then 2 else if rightAll cs = false then 10 else if ¬ cs.Nodup then 8 else 0
def pplsI (n : Nat) (cs : List Cl) : List Int := (n : Int) :: (cs.map clI).flatten
def pplI (cs : List Cl) : List Int := pplsI cs.length cs
theorem pplE_bad {cs : List Cl} {i : Nat} {c : Cl} (hl : cs.length ≤ 16) (h : cs[i]? = some c) (hc : ¬ c.right) : pplE cs = 10 := by
  have : rightAll cs = false := by
    cases hr : rightAll cs with
    | false => rfl
    | true => exact absurd (rightAll_iff.1 hr c (List.mem_of_getElem? h)) hc
  unfold pplE
  rw [if_neg (by omega), if_pos this]
theorem jpeople_ok (p : Option Addr) (cap : Nat) (cs : List Cl) (w : World) (hp : RdSl w p Cl.v cs) (hl : cs.length ≤ 1000) :
    CallM Tryz.prog 43 [.slice p cs.length cap] [] w fun v L => (pplE cs ≠ 0 ∧ v = .tuple #[.slice none 0 0, .int .i64 (pplE cs)] ∧ L = []) ∨ pplE cs = 0 ∧ ∃ ov, OvOk 1 ov (1 + 9 * cs.length) (u8s (pplI cs)) ∧ v = .tuple #[slV ov (1 + 9 * cs.length), .int .i64 0] ∧ L = blkL 5 ov (u8s (pplI cs)) := by
  have htw := fun w1 (hc : Chg [] w w1) => jtwice_ok p cap cs hl w1 (hp.chg' hc (fun _ => Off.nil _))
  refine enterK (tb := tb) Tryz.func43 rfl Tryz.ntmps43 rfl ?_
  rcases Nat.lt_or_ge 16 cs.length with h16 | h16
  · repeat' (first | (apply R.is1; first | (apply R.isBin; first | (apply R.pure; exact rfl; first | (apply Ok1.add64; exact rfl; exact rfl; omega; omega) | (apply Ok1.lss_t; exact rfl; exact rfl; omega) | (apply Ok1.lss_f; exact rfl; exact rfl; omega) | (apply Ok1.gtr_t; exact rfl; exact rfl; omega) | (apply Ok1.gtr_f; exact rfl; exact rfl; omega) | (apply Ok1.neq_t; exact rfl; exact rfl; omega) | (apply Ok1.neq_f; exact rfl; exact rfl; omega) | (apply Ok1.neqP; (iterate 5 exact rfl)) | (apply Ok1.neqM; (iterate 5 exact rfl)) | (apply Ok1.neqS; (iterate 5 exact rfl))) | (apply R.lss rfl rfl rfl <;> intro) | (apply R.gtr rfl rfl rfl <;> intro) | (apply R.neq rfl rfl rfl <;> intro) | (apply R.neqF; (iterate 8 exact rfl); all_goals intro)) | (apply R.isCall; first | (apply R.pure; exact rfl; first | (apply Ok1.lenS; (iterate 3 exact rfl)) | (apply Ok1.lenStr; (iterate 3 exact rfl)) | (apply Ok1.lenMm; (iterate 3 exact rfl); (focus ((repeat' (first | exact At.head | apply At.tail | apply At.right)); done))) | (apply Ok1.lenM_nil; (iterate 3 exact rfl)))) | (apply R.pure; exact rfl; first | (apply Ok1.move; exact rfl) | (apply Ok1.load; exact rfl; first | (apply Ld.own1; exact rfl; exact rfl; (focus ((repeat' (first | exact At.head | apply At.tail | apply At.right)); done)); exact rfl) | (apply Ld.ownk; exact rfl; exact rfl; (focus ((repeat' (first | exact At.head | apply At.tail | apply At.right)); done)); exact rfl) | (apply Ld.old1; exact rfl; exact rfl; assumption; (first | exact List.not_mem_nil | assumption)) | (apply Ld.blk1; exact rfl; exact rfl; assumption; (first | exact List.not_mem_nil | assumption); exact rfl) | (apply Ld.blkk; exact rfl; exact rfl; assumption; (first | exact List.not_mem_nil | assumption); exact rfl)) | (apply Ok1.assign; exact rfl) | (apply Ok1.indexAddr; (iterate 5 exact rfl); omega; omega) | (apply Ok1.indexAddrA; (iterate 5 exact rfl); omega; omega) | (apply Ok1.extract; exact rfl; exact rfl) | (apply Ok1.convI64; (iterate 5 exact rfl); omega; omega) | (apply Ok1.convU64; (iterate 5 exact rfl); omega; omega) | (apply Ok1.convU32; (iterate 5 exact rfl); omega; omega) | (apply Ok1.convU8; (iterate 5 exact rfl); omega; omega) | (apply Ok1.conv; (iterate 5 exact rfl))) | (apply R.alloc; (iterate 3 exact rfl); intro) | (apply R.buildSlice; (iterate 12 exact rfl); intro)) | (apply R.is0; first | (apply R.store; (iterate 6 exact rfl); (focus ((repeat' (first | exact Upd.head | apply Upd.tail | apply Upd.right)); done)); exact rfl) | fail) | (apply R.isG; first | (apply R.guard_run; exact rfl; exact rfl) | (apply R.guard_not; (iterate 3 exact rfl)) | (apply R.guard_not0; exact rfl; exact rfl) | (apply R.guard_un; (iterate 3 exact rfl)) | (apply R.guard_un0; exact rfl; exact rfl) | (apply R.guard rfl rfl ?_ (fun h => ⟨rfl, ?_⟩) <;> try intro)) | apply R.nil | (apply T.is; first | apply T.seq | apply T.region | apply T.block | apply T.scope | apply T.label | apply T.skip | apply T.exit | apply T.ret | (apply T.cond_t; exact rfl) | (apply T.cond_f; exact rfl) | (apply T.cond_h; exact rfl; assumption) | (apply T.cond_n; exact rfl; assumption) | (apply T.cond rfl <;> intro)) | apply Rnd.step)
    (apply RetOk.tt; exact rfl; exact rfl)
    have he : pplE cs = 2 := by unfold pplE; rw [if_pos h16]
    exact ⟨_, Keep.nil _, .inl ⟨by rw [he]; decide, by rw [he], rfl⟩⟩
  repeat' (first | (apply R.is1; first | (apply R.isBin; first | (apply R.pure; exact rfl; first | (apply Ok1.add64; exact rfl; exact rfl; omega; omega) | (apply Ok1.lss_t; exact rfl; exact rfl; omega) | (apply Ok1.lss_f; exact rfl; exact rfl; omega) | (apply Ok1.gtr_t; exact rfl; exact rfl; omega) | (apply Ok1.gtr_f; exact rfl; exact rfl; omega) | (apply Ok1.neq_t; exact rfl; exact rfl; omega) | (apply Ok1.neq_f; exact rfl; exact rfl; omega) | (apply Ok1.neqP; (iterate 5 exact rfl)) | (apply Ok1.neqM; (iterate 5 exact rfl)) | (apply Ok1.neqS; (iterate 5 exact rfl))) | (apply R.lss rfl rfl rfl <;> intro) | (apply R.gtr rfl rfl rfl <;> intro) | (apply R.neq rfl rfl rfl <;> intro) | (apply R.neqF; (iterate 8 exact rfl); all_goals intro)) | (apply R.isCall; first | (apply R.pure; exact rfl; first | (apply Ok1.lenS; (iterate 3 exact rfl)) | (apply Ok1.lenStr; (iterate 3 exact rfl)) | (apply Ok1.lenMm; (iterate 3 exact rfl); (focus ((repeat' (first | exact At.head | apply At.tail | apply At.right)); done))) | (apply Ok1.lenM_nil; (iterate 3 exact rfl)))) | (apply R.pure; exact rfl; first | (apply Ok1.move; exact rfl) | (apply Ok1.load; exact rfl; first | (apply Ld.own1; exact rfl; exact rfl; (focus ((repeat' (first | exact At.head | apply At.tail | apply At.right)); done)); exact rfl) | (apply Ld.ownk; exact rfl; exact rfl; (focus ((repeat' (first | exact At.head | apply At.tail | apply At.right)); done)); exact rfl) | (apply Ld.old1; exact rfl; exact rfl; assumption; (first | exact List.not_mem_nil | assumption)) | (apply Ld.blk1; exact rfl; exact rfl; assumption; (first | exact List.not_mem_nil | assumption); exact rfl) | (apply Ld.blkk; exact rfl; exact rfl; assumption; (first | exact List.not_mem_nil | assumption); exact rfl)) | (apply Ok1.assign; exact rfl) | (apply Ok1.indexAddr; (iterate 5 exact rfl); omega; omega) | (apply Ok1.indexAddrA; (iterate 5 exact rfl); omega; omega) | (apply Ok1.extract; exact rfl; exact rfl) | (apply Ok1.convI64; (iterate 5 exact rfl); omega; omega) | (apply Ok1.convU64; (iterate 5 exact rfl); omega; omega) | (apply Ok1.convU32; (iterate 5 exact rfl); omega; omega) | (apply Ok1.convU8; (iterate 5 exact rfl); omega; omega) | (apply Ok1.conv; (iterate 5 exact rfl))) | (apply R.alloc; (iterate 3 exact rfl); intro) | (apply R.buildSlice; (iterate 12 exact rfl); intro)) | (apply R.is0; first | (apply R.store; (iterate 6 exact rfl); (focus ((repeat' (first | exact Upd.head | apply Upd.tail | apply Upd.right)); done)); exact rfl) | fail) | (apply R.isG; first | (apply R.guard_run; exact rfl; exact rfl) | (apply R.guard_not; (iterate 3 exact rfl)) | (apply R.guard_not0; exact rfl; exact rfl) | (apply R.guard_un; (iterate 3 exact rfl)) | (apply R.guard_un0; exact rfl; exact rfl) | (apply R.guard rfl rfl ?_ (fun h => ⟨rfl, ?_⟩) <;> try intro)) | apply R.nil | (apply T.is; first | apply T.seq | apply T.region | apply T.block | apply T.scope | apply T.label | apply T.skip | apply T.exit | apply T.ret | (apply T.cond_t; exact rfl) | (apply T.cond_f; exact rfl) | (apply T.cond_h; exact rfl; assumption) | (apply T.cond_n; exact rfl; assumption) | (apply T.cond rfl <;> intro)) | apply Rnd.step)
  rename_i b0
  apply T.loopK (α := Nat × Ov) (I := fun y => y.1 ≤ cs.length ∧ (∀ x ∈ cs.take y.1, x.right) ∧ OvOk 1 y.2 (1 + 9 * y.1) (u8s (pplsI cs.length (cs.take y.1)))) (σi := fun y => [(0, .slice p cs.length cap), (4, slV y.2 (1 + 9 * y.1)), (16, .slice p cs.length cap), (17, .int .i64 cs.length), (18, .int .i64 y.1)]) (Li := fun y => blkL 5 y.2 (u8s (pplsI cs.length (cs.take y.1)))) (μ := fun y => cs.length - y.1) (i0 := (0, some (b0, 0, [])))
  · exact ⟨Nat.zero_le _, by simp, rfl, rfl⟩
  · exact ⟨rfl, rfl, rfl, rfl, rfl, trivial⟩
  · (focus ((repeat' (first | exact Keep.nil _ | exact Ext.one _ _ | exact Ext.here _ _ | exact Ext.all _ | apply Keep.cons | apply Keep.app | apply Keep.last | apply Ext.cons | apply Ext.app)); done))
  · rintro ⟨i, ov⟩ ⟨hi, hck, hov⟩
    simp only at hi hck hov ⊢
    rcases Nat.lt_or_ge i cs.length with hlt | hge
    · obtain ⟨c, hr⟩ : ∃ c, cs[i]? = some c := ⟨_, List.getElem?_eq_getElem (by omega)⟩
      obtain ⟨b, o, hpe, H⟩ := hp.at hr
      replace H := H 4 Cl.v_len4
      by_cases hc : c.right
      · have hcb := fun w1 => clBytes_ok c hc w1
        generalize hB : pplsI cs.length (cs.take i) = B at *
        generalize hC : clI c = C at *
        repeat' (first | (apply R.is1; first | (apply R.isBin; first | (apply R.pure; exact rfl; first | (apply Ok1.add64; exact rfl; exact rfl; omega; omega) | (apply Ok1.lss_t; exact rfl; exact rfl; omega) | (apply Ok1.lss_f; exact rfl; exact rfl; omega) | (apply Ok1.gtr_t; exact rfl; exact rfl; omega) | (apply Ok1.gtr_f; exact rfl; exact rfl; omega) | (apply Ok1.neq_t; exact rfl; exact rfl; omega) | (apply Ok1.neq_f; exact rfl; exact rfl; omega) | (apply Ok1.neqP; (iterate 5 exact rfl)) | (apply Ok1.neqM; (iterate 5 exact rfl)) | (apply Ok1.neqS; (iterate 5 exact rfl))) | (apply R.lss rfl rfl rfl <;> intro) | (apply R.gtr rfl rfl rfl <;> intro) | (apply R.neq rfl rfl rfl <;> intro) | (apply R.neqF; (iterate 8 exact rfl); all_goals intro)) | (apply R.isCall; first | (apply R.callE (vs := [kvC c]); (iterate 3 exact rfl); exact Ext.none _; intro w1 hw1; exact hcb w1; rintro v Lo ⟨ovc1, hovc, rfl, rfl⟩) | (apply R.appendSl (ov := ov) (n := 1 + 9 * i) (old := u8s B) (ov2 := ovc1) (m := 9) (news := u8s C) (e3 := 5); (iterate 12 exact rfl); exact hov; exact hovc; (focus ((repeat' (first | exact Ext.none _ | exact Ext.one _ _ | exact Ext.here _ _ | exact Ext.all _ | apply Ext.cons | apply Ext.app | apply Ext.two)); done)); exact Ext.mem (by (focus ((repeat' (first | exact Ext.none _ | exact Ext.one _ _ | exact Ext.here _ _ | exact Ext.all _ | apply Ext.cons | apply Ext.app | apply Ext.two)); done))); exact u8s_one _; omega; intro ov3 hov3) | (apply R.pure; exact rfl; first | (apply Ok1.lenS; (iterate 3 exact rfl)) | (apply Ok1.lenStr; (iterate 3 exact rfl)) | (apply Ok1.lenMm; (iterate 3 exact rfl); (focus ((repeat' (first | exact At.head | apply At.tail | apply At.right)); done))) | (apply Ok1.lenM_nil; (iterate 3 exact rfl)))) | (apply R.pure; exact rfl; first | (apply Ok1.indexAddrP; (iterate 4 exact rfl); exact hpe; exact rfl; omega; omega) | (apply Ok1.load; exact rfl; first | (apply Ld.rowk0 H; exact rfl; exact List.not_mem_nil; (iterate 3 exact rfl)) | (apply Ld.ownk; exact rfl; exact rfl; (focus ((repeat' (first | exact At.head | apply At.tail | apply At.right)); done)); exact rfl) | (apply Ld.own1; exact rfl; exact rfl; (focus ((repeat' (first | exact At.head | apply At.tail | apply At.right)); done)); exact rfl)) | (apply Ok1.move; exact rfl) | (apply Ok1.load; exact rfl; first | (apply Ld.own1; exact rfl; exact rfl; (focus ((repeat' (first | exact At.head | apply At.tail | apply At.right)); done)); exact rfl) | (apply Ld.ownk; exact rfl; exact rfl; (focus ((repeat' (first | exact At.head | apply At.tail | apply At.right)); done)); exact rfl) | (apply Ld.old1; exact rfl; exact rfl; assumption; (first | exact List.not_mem_nil | assumption)) | (apply Ld.blk1; exact rfl; exact rfl; assumption; (first | exact List.not_mem_nil | assumption); exact rfl) | (apply Ld.blkk; exact rfl; exact rfl; assumption; (first | exact List.not_mem_nil | assumption); exact rfl)) | (apply Ok1.assign; exact rfl) | (apply Ok1.indexAddr; (iterate 5 exact rfl); omega; omega) | (apply Ok1.indexAddrA; (iterate 5 exact rfl); omega; omega) | (apply Ok1.extract; exact rfl; exact rfl) | (apply Ok1.convI64; (iterate 5 exact rfl); omega; omega) | (apply Ok1.convU64; (iterate 5 exact rfl); omega; omega) | (apply Ok1.convU32; (iterate 5 exact rfl); omega; omega) | (apply Ok1.convU8; (iterate 5 exact rfl); omega; omega) | (apply Ok1.conv; (iterate 5 exact rfl))) | (apply R.alloc; (iterate 3 exact rfl); intro) | (apply R.buildSlice; (iterate 12 exact rfl); intro)) | (apply R.is0; first | (apply R.store; (iterate 6 exact rfl); (focus ((repeat' (first | exact Upd.head | apply Upd.tail | apply Upd.right)); done)); exact rfl) | fail) | (apply R.isG; first | (apply R.guard_run; exact rfl; exact rfl) | (apply R.guard_not; (iterate 3 exact rfl)) | (apply R.guard_not0; exact rfl; exact rfl) | (apply R.guard_un; (iterate 3 exact rfl)) | (apply R.guard_un0; exact rfl; exact rfl) | (apply R.guard rfl rfl ?_ (fun h => ⟨rfl, ?_⟩) <;> try intro)) | apply R.nil | (apply T.is; first | apply T.seq | apply T.region | apply T.block | apply T.scope | apply T.label | apply T.skip | apply T.exit | apply T.ret | (apply T.cond_t; exact rfl) | (apply T.cond_f; exact rfl) | (apply T.cond_h; exact rfl; assumption) | (apply T.cond_n; exact rfl; assumption) | (apply T.cond rfl <;> intro)) | apply Rnd.step)
        have hB1 : u8s (pplsI cs.length (cs.take (i + 1))) = u8s B ++ u8s C := by
          rw [← hB, ← hC]
          simp only [pplsI, List.take_add_one, hr, Option.toList, List.map_append, List.flatten_append, List.map_cons, List.map_nil, List.flatten_cons, List.flatten_nil, List.append_nil]
          simp only [u8s, List.map_append, List.map_cons, List.map_nil, List.cons_append, List.append_assoc, List.nil_append]
        have hck1 : ∀ x ∈ cs.take (i + 1), x.right := fun x hx => by
          rw [List.take_add_one, hr] at hx
          rcases List.mem_append.1 hx with h | h
          · exact hck x h
          · simp only [Option.toList, List.mem_singleton] at h
            rw [h]; exact hc
        have hn1 : 1 + 9 * (i + 1) = 1 + 9 * i + 9 := by omega
        refine ⟨(i + 1, ov3), ?_⟩
        simp only [hB1, hn1]
        exact ⟨⟨by omega, hck1, hov3⟩, by omega, ⟨rfl, rfl, rfl, rfl, rfl, trivial⟩, by (focus ((repeat' (first | exact Keep.nil _ | exact Ext.one _ _ | exact Ext.here _ _ | exact Ext.all _ | apply Keep.cons | apply Keep.app | apply Keep.last | apply Ext.cons | apply Ext.app)); done))⟩
      · have hcb := clBytes_bad c hc
        repeat' (first | (apply R.is1; first | (apply R.isBin; first | (apply R.pure; exact rfl; first | (apply Ok1.add64; exact rfl; exact rfl; omega; omega) | (apply Ok1.lss_t; exact rfl; exact rfl; omega) | (apply Ok1.lss_f; exact rfl; exact rfl; omega) | (apply Ok1.gtr_t; exact rfl; exact rfl; omega) | (apply Ok1.gtr_f; exact rfl; exact rfl; omega) | (apply Ok1.neq_t; exact rfl; exact rfl; omega) | (apply Ok1.neq_f; exact rfl; exact rfl; omega) | (apply Ok1.neqP; (iterate 5 exact rfl)) | (apply Ok1.neqM; (iterate 5 exact rfl)) | (apply Ok1.neqS; (iterate 5 exact rfl))) | (apply R.lss rfl rfl rfl <;> intro) | (apply R.gtr rfl rfl rfl <;> intro) | (apply R.neq rfl rfl rfl <;> intro) | (apply R.neqF; (iterate 8 exact rfl); all_goals intro)) | (apply R.isCall; first | apply R.callP rfl rfl rfl hcb | (apply R.pure; exact rfl; first | (apply Ok1.lenS; (iterate 3 exact rfl)) | (apply Ok1.lenStr; (iterate 3 exact rfl)) | (apply Ok1.lenMm; (iterate 3 exact rfl); (focus ((repeat' (first | exact At.head | apply At.tail | apply At.right)); done))) | (apply Ok1.lenM_nil; (iterate 3 exact rfl)))) | (apply R.pure; exact rfl; first | (apply Ok1.indexAddrP; (iterate 4 exact rfl); exact hpe; exact rfl; omega; omega) | (apply Ok1.load; exact rfl; first | (apply Ld.rowk0 H; exact rfl; exact List.not_mem_nil; (iterate 3 exact rfl)) | (apply Ld.ownk; exact rfl; exact rfl; (focus ((repeat' (first | exact At.head | apply At.tail | apply At.right)); done)); exact rfl)) | (apply Ok1.move; exact rfl) | (apply Ok1.load; exact rfl; first | (apply Ld.own1; exact rfl; exact rfl; (focus ((repeat' (first | exact At.head | apply At.tail | apply At.right)); done)); exact rfl) | (apply Ld.ownk; exact rfl; exact rfl; (focus ((repeat' (first | exact At.head | apply At.tail | apply At.right)); done)); exact rfl) | (apply Ld.old1; exact rfl; exact rfl; assumption; (first | exact List.not_mem_nil | assumption)) | (apply Ld.blk1; exact rfl; exact rfl; assumption; (first | exact List.not_mem_nil | assumption); exact rfl) | (apply Ld.blkk; exact rfl; exact rfl; assumption; (first | exact List.not_mem_nil | assumption); exact rfl)) | (apply Ok1.assign; exact rfl) | (apply Ok1.indexAddr; (iterate 5 exact rfl); omega; omega) | (apply Ok1.indexAddrA; (iterate 5 exact rfl); omega; omega) | (apply Ok1.extract; exact rfl; exact rfl) | (apply Ok1.convI64; (iterate 5 exact rfl); omega; omega) | (apply Ok1.convU64; (iterate 5 exact rfl); omega; omega) | (apply Ok1.convU32; (iterate 5 exact rfl); omega; omega) | (apply Ok1.convU8; (iterate 5 exact rfl); omega; omega) | (apply Ok1.conv; (iterate 5 exact rfl))) | (apply R.alloc; (iterate 3 exact rfl); intro) | (apply R.buildSlice; (iterate 12 exact rfl); intro)) | (apply R.is0; first | (apply R.store; (iterate 6 exact rfl); (focus ((repeat' (first | exact Upd.head | apply Upd.tail | apply Upd.right)); done)); exact rfl) | fail) | (apply R.isG; first | (apply R.guard_run; exact rfl; exact rfl) | (apply R.guard_not; (iterate 3 exact rfl)) | (apply R.guard_not0; exact rfl; exact rfl) | (apply R.guard_un; (iterate 3 exact rfl)) | (apply R.guard_un0; exact rfl; exact rfl) | (apply R.guard rfl rfl ?_ (fun h => ⟨rfl, ?_⟩) <;> try intro)) | apply R.nil | (apply T.is; first | apply T.seq | apply T.region | apply T.block | apply T.scope | apply T.label | apply T.skip | apply T.exit | apply T.ret | (apply T.cond_t; exact rfl) | (apply T.cond_f; exact rfl) | (apply T.cond_h; exact rfl; assumption) | (apply T.cond_n; exact rfl; assumption) | (apply T.cond rfl <;> intro)) | apply Rnd.step)
        all_goals (apply RetOk.tt; exact rfl; exact rfl)
        all_goals have he := pplE_bad h16 hr hc
        all_goals exact ⟨_, by (focus ((repeat' (first | exact Keep.nil _ | exact Ext.one _ _ | exact Ext.here _ _ | exact Ext.all _ | apply Keep.cons | apply Keep.app | apply Keep.last | apply Ext.cons | apply Ext.app)); done)), .inl ⟨by rw [he]; decide, by rw [he], rfl⟩⟩
    · have him : i = cs.length := by omega
      subst him
      rw [List.take_length] at hov hck ⊢
      have hra := rightAll_iff.2 hck
      by_cases hnd : cs.Nodup
      · rw [decide_eq_false (p := ¬ cs.Nodup) (fun h => h hnd)] at htw
        repeat' (first | (apply R.is1; first | (apply R.isBin; first | (apply R.pure; exact rfl; first | (apply Ok1.add64; exact rfl; exact rfl; omega; omega) | (apply Ok1.lss_t; exact rfl; exact rfl; omega) | (apply Ok1.lss_f; exact rfl; exact rfl; omega) | (apply Ok1.gtr_t; exact rfl; exact rfl; omega) | (apply Ok1.gtr_f; exact rfl; exact rfl; omega) | (apply Ok1.neq_t; exact rfl; exact rfl; omega) | (apply Ok1.neq_f; exact rfl; exact rfl; omega) | (apply Ok1.neqP; (iterate 5 exact rfl)) | (apply Ok1.neqM; (iterate 5 exact rfl)) | (apply Ok1.neqS; (iterate 5 exact rfl))) | (apply R.lss rfl rfl rfl <;> intro) | (apply R.gtr rfl rfl rfl <;> intro) | (apply R.neq rfl rfl rfl <;> intro) | (apply R.neqF; (iterate 8 exact rfl); all_goals intro)) | (apply R.isCall; first | (apply R.callE (vs := [.slice p cs.length cap, .func (.func 80) #[] #[]]); (iterate 3 exact rfl); exact Ext.none _; intro w1 hw1; exact htw w1 hw1.chg; rintro v Lo ⟨rfl, rfl⟩) | (apply R.pure; exact rfl; first | (apply Ok1.lenS; (iterate 3 exact rfl)) | (apply Ok1.lenStr; (iterate 3 exact rfl)) | (apply Ok1.lenMm; (iterate 3 exact rfl); (focus ((repeat' (first | exact At.head | apply At.tail | apply At.right)); done))) | (apply Ok1.lenM_nil; (iterate 3 exact rfl)))) | (apply R.pure; exact rfl; first | (apply Ok1.move; exact rfl) | (apply Ok1.load; exact rfl; first | (apply Ld.own1; exact rfl; exact rfl; (focus ((repeat' (first | exact At.head | apply At.tail | apply At.right)); done)); exact rfl) | (apply Ld.ownk; exact rfl; exact rfl; (focus ((repeat' (first | exact At.head | apply At.tail | apply At.right)); done)); exact rfl) | (apply Ld.old1; exact rfl; exact rfl; assumption; (first | exact List.not_mem_nil | assumption)) | (apply Ld.blk1; exact rfl; exact rfl; assumption; (first | exact List.not_mem_nil | assumption); exact rfl) | (apply Ld.blkk; exact rfl; exact rfl; assumption; (first | exact List.not_mem_nil | assumption); exact rfl)) | (apply Ok1.assign; exact rfl) | (apply Ok1.indexAddr; (iterate 5 exact rfl); omega; omega) | (apply Ok1.indexAddrA; (iterate 5 exact rfl); omega; omega) | (apply Ok1.extract; exact rfl; exact rfl) | (apply Ok1.convI64; (iterate 5 exact rfl); omega; omega) | (apply Ok1.convU64; (iterate 5 exact rfl); omega; omega) | (apply Ok1.convU32; (iterate 5 exact rfl); omega; omega) | (apply Ok1.convU8; (iterate 5 exact rfl); omega; omega) | (apply Ok1.conv; (iterate 5 exact rfl))) | (apply R.alloc; (iterate 3 exact rfl); intro) | (apply R.buildSlice; (iterate 12 exact rfl); intro)) | (apply R.is0; first | (apply R.store; (iterate 6 exact rfl); (focus ((repeat' (first | exact Upd.head | apply Upd.tail | apply Upd.right)); done)); exact rfl) | fail) | (apply R.isG; first | (apply R.guard_run; exact rfl; exact rfl) | (apply R.guard_not; (iterate 3 exact rfl)) | (apply R.guard_not0; exact rfl; exact rfl) | (apply R.guard_un; (iterate 3 exact rfl)) | (apply R.guard_un0; exact rfl; exact rfl) | (apply R.guard rfl rfl ?_ (fun h => ⟨rfl, ?_⟩) <;> try intro)) | apply R.nil | (apply T.is; first | apply T.seq | apply T.region | apply T.block | apply T.scope | apply T.label | apply T.skip | apply T.exit | apply T.ret | (apply T.cond_t; exact rfl) | (apply T.cond_f; exact rfl) | (apply T.cond_h; exact rfl; assumption) | (apply T.cond_n; exact rfl; assumption) | (apply T.cond rfl <;> intro)) | apply Rnd.step)
        (apply RetOk.tt; exact rfl; exact rfl)
        have he : pplE cs = 0 := by unfold pplE; rw [if_neg (by omega), if_neg (by rw [hra]; decide), if_neg (fun h => h hnd)]
        exact ⟨_, by (focus ((repeat' (first | exact Keep.nil _ | exact Ext.one _ _ | exact Ext.here _ _ | exact Ext.all _ | apply Keep.cons | apply Keep.app | apply Keep.last | apply Ext.cons | apply Ext.app)); done)), .inr ⟨he, ov, hov, rfl, rfl⟩⟩
      · rw [decide_eq_true (p := ¬ cs.Nodup) hnd] at htw
        repeat' (first | (apply R.is1; first | (apply R.isBin; first | (apply R.pure; exact rfl; first | (apply Ok1.add64; exact rfl; exact rfl; omega; omega) | (apply Ok1.lss_t; exact rfl; exact rfl; omega) | (apply Ok1.lss_f; exact rfl; exact rfl; omega) | (apply Ok1.gtr_t; exact rfl; exact rfl; omega) | (apply Ok1.gtr_f; exact rfl; exact rfl; omega) | (apply Ok1.neq_t; exact rfl; exact rfl; omega) | (apply Ok1.neq_f; exact rfl; exact rfl; omega) | (apply Ok1.neqP; (iterate 5 exact rfl)) | (apply Ok1.neqM; (iterate 5 exact rfl)) | (apply Ok1.neqS; (iterate 5 exact rfl))) | (apply R.lss rfl rfl rfl <;> intro) | (apply R.gtr rfl rfl rfl <;> intro) | (apply R.neq rfl rfl rfl <;> intro) | (apply R.neqF; (iterate 8 exact rfl); all_goals intro)) | (apply R.isCall; first | (apply R.callE (vs := [.slice p cs.length cap, .func (.func 80) #[] #[]]); (iterate 3 exact rfl); exact Ext.none _; intro w1 hw1; exact htw w1 hw1.chg; rintro v Lo ⟨rfl, rfl⟩) | (apply R.pure; exact rfl; first | (apply Ok1.lenS; (iterate 3 exact rfl)) | (apply Ok1.lenStr; (iterate 3 exact rfl)) | (apply Ok1.lenMm; (iterate 3 exact rfl); (focus ((repeat' (first | exact At.head | apply At.tail | apply At.right)); done))) | (apply Ok1.lenM_nil; (iterate 3 exact rfl)))) | (apply R.pure; exact rfl; first | (apply Ok1.move; exact rfl) | (apply Ok1.load; exact rfl; first | (apply Ld.own1; exact rfl; exact rfl; (focus ((repeat' (first | exact At.head | apply At.tail | apply At.right)); done)); exact rfl) | (apply Ld.ownk; exact rfl; exact rfl; (focus ((repeat' (first | exact At.head | apply At.tail | apply At.right)); done)); exact rfl) | (apply Ld.old1; exact rfl; exact rfl; assumption; (first | exact List.not_mem_nil | assumption)) | (apply Ld.blk1; exact rfl; exact rfl; assumption; (first | exact List.not_mem_nil | assumption); exact rfl) | (apply Ld.blkk; exact rfl; exact rfl; assumption; (first | exact List.not_mem_nil | assumption); exact rfl)) | (apply Ok1.assign; exact rfl) | (apply Ok1.indexAddr; (iterate 5 exact rfl); omega; omega) | (apply Ok1.indexAddrA; (iterate 5 exact rfl); omega; omega) | (apply Ok1.extract; exact rfl; exact rfl) | (apply Ok1.convI64; (iterate 5 exact rfl); omega; omega) | (apply Ok1.convU64; (iterate 5 exact rfl); omega; omega) | (apply Ok1.convU32; (iterate 5 exact rfl); omega; omega) | (apply Ok1.convU8; (iterate 5 exact rfl); omega; omega) | (apply Ok1.conv; (iterate 5 exact rfl))) | (apply R.alloc; (iterate 3 exact rfl); intro) | (apply R.buildSlice; (iterate 12 exact rfl); intro)) | (apply R.is0; first | (apply R.store; (iterate 6 exact rfl); (focus ((repeat' (first | exact Upd.head | apply Upd.tail | apply Upd.right)); done)); exact rfl) | fail) | (apply R.isG; first | (apply R.guard_run; exact rfl; exact rfl) | (apply R.guard_not; (iterate 3 exact rfl)) | (apply R.guard_not0; exact rfl; exact rfl) | (apply R.guard_un; (iterate 3 exact rfl)) | (apply R.guard_un0; exact rfl; exact rfl) | (apply R.guard rfl rfl ?_ (fun h => ⟨rfl, ?_⟩) <;> try intro)) | apply R.nil | (apply T.is; first | apply T.seq | apply T.region | apply T.block | apply T.scope | apply T.label | apply T.skip | apply T.exit | apply T.ret | (apply T.cond_t; exact rfl) | (apply T.cond_f; exact rfl) | (apply T.cond_h; exact rfl; assumption) | (apply T.cond_n; exact rfl; assumption) | (apply T.cond rfl <;> intro)) | apply Rnd.step)
        (apply RetOk.tt; exact rfl; exact rfl)
        have he : pplE cs = 8 := by unfold pplE; rw [if_neg (by omega), if_neg (by rw [hra]; decide), if_pos hnd]
        exact ⟨_, by (focus ((repeat' (first | exact Keep.nil _ | exact Ext.one _ _ | exact Ext.here _ _ | exact Ext.all _ | apply Keep.cons | apply Keep.app | apply Keep.last | apply Ext.cons | apply Ext.app)); done)), .inl ⟨by rw [he]; decide, by rw [he], rfl⟩⟩
end Go.Proofs.YtplhnkmmhndkjaaGreat
set_option linter.unusedSimpArgs false
set_option linter.unusedVariables false
namespace Go.Proofs.YtplhnkmmhndkjaaGreat
open Go.RowKit Go.Shelf
set_option maxRecDepth 100000
theorem mbytes_long (p : Option Addr) (n cap : Nat) (hl : 20 < n) : CallP Tryz.prog 42 [.slice p n cap] (.tuple #[.slice none 0 0, .int .i64 2]) := by
  refine enterP (tb := tb) Tryz.func42 rfl Tryz.ntmps42 rfl fun w => ?_
  repeat' (first | (apply R.is1; first | (apply R.isBin; (apply R.pure; exact rfl; (apply Ok1.gtr_t; exact rfl; exact rfl; omega))) | (apply R.isCall; (apply R.pure; exact rfl; (apply Ok1.lenS; (iterate 3 exact rfl)))) | (apply R.pure; exact rfl; first | (apply Ok1.move; exact rfl) | (apply Ok1.assign; exact rfl))) | apply R.nil | (apply T.is; first | apply T.seq | apply T.region | apply T.ret | (apply T.cond_t; exact rfl)))
  (apply RetOk.tt; exact rfl; exact rfl)
  rfl
/-- What is wrong with gossip; its bytes. -/
def gE (vs : List Int) (rs : List Rm) (cs : List Cl) : Int :=
  if ¬ VR vs then 10 else if 20 < rs.length then 2 else if rmE rs ≠ 0 then rmE rs else if pplE cs ≠ 0 then pplE cs else if 505 < 18 + 14 * rs.length + 9 * cs.length then 2 else 0
def gI (vs p8 : List Int) (rs : List Rm) (cs : List Cl) : List Int := encG vs p8 ++ rmsI rs.length rs ++ pplI cs
theorem rmI_len (r : Rm) : (rmI r).length = 14 := rfl
theorem flat_len {α : Type} {f : α → List Int} {k : Nat} (h : ∀ a, (f a).length = k) (l : List α) : ((l.map f).flatten).length = k * l.length := by
  induction l with
  | nil => rfl
  | cons a l ih => simp only [List.map_cons, List.flatten_cons, List.length_append, List.length_cons, ih, h, Nat.mul_add, Nat.mul_one]; omega
theorem rmsI_len (n : Nat) (rs : List Rm) : (rmsI n rs).length = 1 + 14 * rs.length := by
  rw [rmsI, List.length_cons, flat_len rmI_len]; omega
theorem pplI_len (cs : List Cl) : (pplI cs).length = 1 + 9 * cs.length := by
  rw [pplI, pplsI, List.length_cons, flat_len clI_len]; omega
theorem gI_len {vs p8 : List Int} (hv : vs.length = 4) (hp : p8.length = 8) (rs : List Rm) (cs : List Cl) : (gI vs p8 rs cs).length = 18 + 14 * rs.length + 9 * cs.length := by
  rw [gI, List.length_append, List.length_append, encG_len hv hp, rmsI_len, pplI_len]; omega
theorem gbytes_ok (xv xp : List Int) (hxv : xv.length = 4) (hxp : xp.length = 8) (hxb : Byt xp) (pR pP : Option Addr) (cR cP : Nat) (rs : List Rm) (cs : List Cl) (hcl : cs.length ≤ 1000) (w : World) (hR : RdSl w pR Rm.v rs) (hP : RdSl w pP Cl.v cs) :
    CallM Tryz.prog 7 [.agg ⟨goC (dgV xv xp) (.slice pR rs.length cR) (.slice pP cs.length cP)⟩] [] w fun v L => (gE xv rs cs ≠ 0 ∧ v = .tuple #[.slice none 0 0, .int .i64 (gE xv rs cs)] ∧ L = []) ∨ gE xv rs cs = 0 ∧ ∃ ov, OvOk 1 ov (gI xv xp rs cs).length (u8s (gI xv xp rs cs)) ∧ v = .tuple #[slV ov (gI xv xp rs cs).length, .int .i64 0] ∧ L = blkL 5 ov (u8s (gI xv xp rs cs)) := by
  have hD := dg_len hxv hxp
  have hbad := dbad_ok xv xp hxv hxp
  have hby := fun hV w1 => dbytes9_ok xv xp hxv hxp hV hxb w1
  have hel := encG_len hxv hxp
  rw [hel] at hby
  generalize dgV xv xp = D at *
  have hlen := fun R P => goC_len hD R P
  refine enterK (tb := tb) Tryz.func7 rfl Tryz.ntmps7 rfl ?_
  by_cases hV : VR xv
  case neg =>
    have hg : gE xv rs cs = 10 := by unfold gE; rw [if_pos hV]
    rw [hg]
    replace hbad := hbad hV
    repeat' (first | (apply R.is1; first | (apply R.isBin; (apply R.pure; exact rfl; (apply Ok1.neq_t; exact rfl; exact rfl; omega))) | (apply R.isCall; apply R.callP rfl rfl rfl hbad) | (apply R.pure; exact rfl; first | (apply Ok1.load; exact rfl; (apply Ld.ownk; exact rfl; exact rfl; exact At.head; exact goC_D hD _ _)) | (apply Ok1.move; exact rfl) | (apply Ok1.fieldAddr; (iterate 5 exact rfl)) | (apply Ok1.assign; exact rfl) | (apply Ok1.extract; exact rfl; exact rfl)) | (apply R.box; (iterate 3 exact rfl); intro)) | apply R.nil | (apply T.is; first | apply T.seq | apply T.region | apply T.ret | (apply T.cond_t; exact rfl)))
    (apply RetOk.tt; exact rfl; exact rfl)
    exact ⟨_, by (focus ((repeat' (exact Keep.nil _)); done)), .inl ⟨by decide, rfl, rfl⟩⟩
  replace hby := hby hV
  rcases Nat.lt_or_ge 20 rs.length with h20 | h20
  · have hg : gE xv rs cs = 2 := by unfold gE; rw [if_neg (fun h => h hV), if_pos h20]
    rw [hg]
    have hml := mbytes_long pR rs.length cR h20
    generalize encG xv xp = E at *
    repeat' (first | (apply R.is1; first | (apply R.isBin; (apply R.pure; exact rfl; first | (apply Ok1.neq_t; exact rfl; exact rfl; omega) | (apply Ok1.neq_f; exact rfl; exact rfl; omega))) | (apply R.isCall; first | (apply R.callE (vs := [.agg ⟨D⟩]); (iterate 3 exact rfl); exact Ext.none _; intro w1 hw1; exact hby w1; rintro v Lo ⟨ov1, hov1, rfl, rfl⟩) | apply R.callP rfl rfl rfl hml) | (apply R.pure; exact rfl; first | (apply Ok1.load; exact rfl; first | (apply Ld.ownk; exact rfl; exact rfl; exact At.head; exact goC_D hD _ _) | (apply Ld.own1; exact rfl; exact rfl; (focus ((repeat' (first | exact At.head | apply At.right)); done)); exact goC_R hD _ _)) | (apply Ok1.move; exact rfl) | (apply Ok1.fieldAddr; (iterate 5 exact rfl)) | (apply Ok1.assign; exact rfl) | (apply Ok1.extract; exact rfl; exact rfl)) | (apply R.box; (iterate 3 exact rfl); intro)) | apply R.nil | (apply T.is; first | apply T.seq | apply T.region | apply T.skip | apply T.ret | (apply T.cond_t; exact rfl) | (apply T.cond_f; exact rfl)))
    (apply RetOk.tt; exact rfl; exact rfl)
    exact ⟨_, by (focus ((repeat' (exact Keep.nil _)); done)), .inl ⟨by decide, rfl, rfl⟩⟩
  have hmb := fun w1 (hc : Chg [] w w1) => mbytes_ok pR cR rs w1 (hR.chg' hc (fun _ => Off.nil _)) h20
  by_cases hrm : rmE rs = 0
  case neg =>
    have hg : gE xv rs cs = rmE rs := by unfold gE; rw [if_neg (fun h => h hV), if_neg (by omega), if_pos hrm]
    rw [hg]
    generalize encG xv xp = E at *
    repeat' (first | (apply R.is1; first | (apply R.isBin; (apply R.pure; exact rfl; first | (apply Ok1.neq_t; exact rfl; exact rfl; omega) | (apply Ok1.neq_f; exact rfl; exact rfl; omega))) | (apply R.isCall; first | (apply R.callE (vs := [.agg ⟨D⟩]); (iterate 3 exact rfl); exact Ext.none _; intro w1 hw1; exact hby w1; rintro v Lo ⟨ov1, hov1, rfl, rfl⟩) | (apply R.callE (vs := [.slice pR rs.length cR]); (iterate 3 exact rfl); exact Ext.none _; intro w1 hw1; exact hmb w1 hw1.chg; rintro v Lo (⟨_, rfl, rfl⟩ | ⟨h0, _⟩); rotate_left 1; exact absurd h0 hrm)) | (apply R.pure; exact rfl; first | (apply Ok1.load; exact rfl; first | (apply Ld.ownk; exact rfl; exact rfl; exact At.head; exact goC_D hD _ _) | (apply Ld.own1; exact rfl; exact rfl; (focus ((repeat' (first | exact At.head | apply At.right)); done)); exact goC_R hD _ _)) | (apply Ok1.move; exact rfl) | (apply Ok1.fieldAddr; (iterate 5 exact rfl)) | (apply Ok1.assign; exact rfl) | (apply Ok1.extract; exact rfl; exact rfl)) | (apply R.box; (iterate 3 exact rfl); intro)) | apply R.nil | (apply T.is; first | apply T.seq | apply T.region | apply T.skip | apply T.ret | (apply T.cond_t; exact rfl) | (apply T.cond_f; exact rfl)))
    (apply RetOk.tt; exact rfl; exact rfl)
    exact ⟨_, by (focus ((repeat' (exact Keep.nil _)); done)), .inl ⟨hrm, rfl, rfl⟩⟩
  have hpp := fun w1 (hc : Chg [] w w1) => jpeople_ok pP cP cs w1 (hP.chg' hc (fun _ => Off.nil _)) hcl
  by_cases hpe : pplE cs = 0
  case neg =>
    have hg : gE xv rs cs = pplE cs := by unfold gE; rw [if_neg (fun h => h hV), if_neg (by omega), if_neg (fun h => h hrm), if_pos hpe]
    rw [hg]
    generalize encG xv xp = E at *
    repeat' (first | (apply R.is1; first | (apply R.isBin; (apply R.pure; exact rfl; first | (apply Ok1.neq_t; exact rfl; exact rfl; omega) | (apply Ok1.neq_f; exact rfl; exact rfl; omega))) | (apply R.isCall; first | (apply R.callE (vs := [.agg ⟨D⟩]); (iterate 3 exact rfl); exact Ext.none _; intro w1 hw1; exact hby w1; rintro v Lo ⟨ov1, hov1, rfl, rfl⟩) | (apply R.callE (vs := [.slice pR rs.length cR]); (iterate 3 exact rfl); exact Ext.none _; intro w1 hw1; exact hmb w1 hw1.chg; rintro v Lo (⟨h0, _⟩ | ⟨_, ov2, hov2, rfl, rfl⟩); exact absurd hrm h0) | (apply R.callE (vs := [.slice pP cs.length cP]); (iterate 3 exact rfl); exact Ext.none _; intro w1 hw1; exact hpp w1 hw1.chg; rintro v Lo (⟨_, rfl, rfl⟩ | ⟨h0, _⟩); rotate_left 1; exact absurd h0 hpe)) | (apply R.pure; exact rfl; first | (apply Ok1.load; exact rfl; first | (apply Ld.ownk; exact rfl; exact rfl; exact At.head; exact goC_D hD _ _) | (apply Ld.own1; exact rfl; exact rfl; (focus ((repeat' (first | exact At.head | apply At.right)); done)); exact goC_R hD _ _) | (apply Ld.own1; exact rfl; exact rfl; (focus ((repeat' (first | exact At.head | apply At.right)); done)); exact goC_P hD _ _)) | (apply Ok1.move; exact rfl) | (apply Ok1.fieldAddr; (iterate 5 exact rfl)) | (apply Ok1.assign; exact rfl) | (apply Ok1.extract; exact rfl; exact rfl)) | (apply R.box; (iterate 3 exact rfl); intro)) | apply R.nil | (apply T.is; first | apply T.seq | apply T.region | apply T.skip | apply T.ret | (apply T.cond_t; exact rfl) | (apply T.cond_f; exact rfl)))
    (apply RetOk.tt; exact rfl; exact rfl)
    exact ⟨_, by (focus ((repeat' (exact Keep.nil _)); done)), .inl ⟨hpe, rfl, rfl⟩⟩
  have hgi := gI_len hxv hxp rs cs
  have hrl := rmsI_len rs.length rs
  have hpl := pplI_len cs
  have hgE : gE xv rs cs = if 505 < 18 + 14 * rs.length + 9 * cs.length then 2 else 0 := by unfold gE; rw [if_neg (fun h => h hV), if_neg (by omega), if_neg (fun h => h hrm), if_neg (fun h => h hpe)]
  have hgd : gI xv xp rs cs = encG xv xp ++ rmsI rs.length rs ++ pplI cs := rfl
  rcases Nat.lt_or_ge 505 (18 + 14 * rs.length + 9 * cs.length) with h505 | h505
  · rw [if_pos h505] at hgE
    rw [hgE]
    generalize encG xv xp = E at *
    generalize hRI : rmsI rs.length rs = RI at *
    generalize hPI : pplI cs = PI at *
    repeat' (first | (apply R.is1; first | (apply R.isBin; (apply R.pure; exact rfl; first | (apply Ok1.add64; exact rfl; exact rfl; omega; omega) | (apply Ok1.gtr_t; exact rfl; exact rfl; omega) | (apply Ok1.neq_f; exact rfl; exact rfl; omega))) | (apply R.isCall; first | (apply R.callE (vs := [.agg ⟨D⟩]); (iterate 3 exact rfl); exact Ext.none _; intro w1 hw1; exact hby w1; rintro v Lo ⟨ov1, hov1, rfl, rfl⟩) | (apply R.callE (vs := [.slice pR rs.length cR]); (iterate 3 exact rfl); exact Ext.none _; intro w1 hw1; exact hmb w1 hw1.chg; rintro v Lo (⟨h0, _⟩ | ⟨_, ov2, hov2, rfl, rfl⟩); exact absurd hrm h0) | (apply R.callE (vs := [.slice pP cs.length cP]); (iterate 3 exact rfl); exact Ext.none _; intro w1 hw1; exact hpp w1 hw1.chg; rintro v Lo (⟨h0, _⟩ | ⟨_, ov3, hov3, rfl, rfl⟩); exact absurd hpe h0) | (apply R.pure; exact rfl; apply Ok1.lenOv; (iterate 3 exact rfl); first | exact hov1 | exact hov2 | exact hov3)) | (apply R.pure; exact rfl; first | (apply Ok1.load; exact rfl; first | (apply Ld.ownk; exact rfl; exact rfl; exact At.head; exact goC_D hD _ _) | (apply Ld.own1; exact rfl; exact rfl; (focus ((repeat' (first | exact At.head | apply At.right)); done)); exact goC_R hD _ _) | (apply Ld.own1; exact rfl; exact rfl; (focus ((repeat' (first | exact At.head | apply At.right)); done)); exact goC_P hD _ _)) | (apply Ok1.move; exact rfl) | (apply Ok1.fieldAddr; (iterate 5 exact rfl)) | (apply Ok1.assign; exact rfl) | (apply Ok1.extract; exact rfl; exact rfl)) | (apply R.box; (iterate 3 exact rfl); intro)) | apply R.nil | (apply T.is; first | apply T.seq | apply T.region | apply T.skip | apply T.ret | (apply T.cond_t; exact rfl) | (apply T.cond_f; exact rfl)))
    (apply RetOk.tt; exact rfl; exact rfl)
    exact ⟨_, by (focus ((repeat' (exact Keep.nil _)); done)), .inl ⟨by decide, rfl, rfl⟩⟩
  · rw [if_neg (by omega)] at hgE
    rw [hgE]
    generalize encG xv xp = E at *
    generalize hRI : rmsI rs.length rs = RI at *
    generalize hPI : pplI cs = PI at *
    have hcat : ∀ a b c d e f, cat [⟨a, b, E⟩, ⟨c, d, RI⟩, ⟨e, f, PI⟩] = gI xv xp rs cs := fun a b c d e f => by rw [hgd]; simp [cat]
    have hcon := fun a b c d e f q w1 h1 h2 => concat_ok q 3 3 [⟨a, b, E⟩, ⟨c, d, RI⟩, ⟨e, f, PI⟩] rfl (by rw [hcat]; omega) (by decide) w1 h1 h2
    simp only [hcat] at hcon
    generalize hG : gI xv xp rs cs = G at *
    repeat' (first | (apply R.is1; first | (apply R.isBin; (apply R.pure; exact rfl; first | (apply Ok1.add64; exact rfl; exact rfl; omega; omega) | (apply Ok1.gtr_f; exact rfl; exact rfl; omega) | (apply Ok1.neq_f; exact rfl; exact rfl; omega))) | (apply R.isCall; first | (apply R.callE (vs := [.agg ⟨D⟩]); (iterate 3 exact rfl); exact Ext.none _; intro w1 hw1; exact hby w1; rintro v Lo ⟨ov1, hov1, rfl, rfl⟩) | (apply R.callE (vs := [.slice pR rs.length cR]); (iterate 3 exact rfl); exact Ext.none _; intro w1 hw1; exact hmb w1 hw1.chg; rintro v Lo (⟨h0, _⟩ | ⟨_, ov2, hov2, rfl, rfl⟩); exact absurd hrm h0) | (apply R.callE (vs := [.slice pP cs.length cP]); (iterate 3 exact rfl); exact Ext.none _; intro w1 hw1; exact hpp w1 hw1.chg; rintro v Lo (⟨h0, _⟩ | ⟨_, ov3, hov3, rfl, rfl⟩); exact absurd hpe h0; rw [← hpl] at hov3 ⊢; rw [← hrl] at hov2 ⊢; rw [← hel] at hov1 ⊢; rw [slV_eq hov1, slV_eq hov2, slV_eq hov3]) | (apply R.callE; (iterate 3 exact rfl); exact Ext.none _; intro w1 hw1; exact hcon _ _ _ _ _ _ _ w1 (RdSl.of (v := Pt.v) (rs := [⟨ovp ov1, ovc ov1 E.length, E⟩, ⟨ovp ov2, ovc ov2 RI.length, RI⟩, ⟨ovp ov3, ovc ov3 PI.length, PI⟩]) (junk := []) hw1 .head rfl) (by simp only [List.mem_cons, List.not_mem_nil, or_false, forall_eq_or_imp, forall_eq]; exact ⟨RdSl.own' hw1 (Ext.mem (by rw [fl_u8]; (focus ((repeat' (first | exact Ext.here _ _ | apply Ext.cons | apply Ext.app)); done)))) (by rw [fl_u8]; exact hov1) u8V_len, RdSl.own' hw1 (Ext.mem (by rw [fl_u8]; (focus ((repeat' (first | exact Ext.here _ _ | apply Ext.cons | apply Ext.app)); done)))) (by rw [fl_u8]; exact hov2) u8V_len, RdSl.own' hw1 (Ext.mem (by rw [fl_u8]; (focus ((repeat' (first | exact Ext.here _ _ | apply Ext.cons)); done)))) (by rw [fl_u8]; exact hov3) u8V_len⟩); rintro v Lo ⟨ov4, hov4, rfl, rfl⟩) | (apply R.pure; exact rfl; (apply Ok1.lenS; (iterate 3 exact rfl)))) | (apply R.pure; exact rfl; first | (apply Ok1.load; exact rfl; first | (apply Ld.ownk; exact rfl; exact rfl; exact At.head; exact goC_D hD _ _) | (apply Ld.own1; exact rfl; exact rfl; (focus ((repeat' (first | exact At.head | apply At.right)); done)); exact goC_R hD _ _) | (apply Ld.own1; exact rfl; exact rfl; (focus ((repeat' (first | exact At.head | apply At.right)); done)); exact goC_P hD _ _)) | (apply Ok1.move; exact rfl) | (apply Ok1.fieldAddr; (iterate 5 exact rfl)) | (apply Ok1.assign; exact rfl) | (apply Ok1.extract; exact rfl; exact rfl)) | (apply R.box; (iterate 3 exact rfl); intro) | (apply R.buildSlice; (iterate 12 exact rfl); intro)) | apply R.nil | (apply T.is; first | apply T.seq | apply T.region | apply T.skip | apply T.ret | (apply T.cond_f; exact rfl)))
    (apply RetOk.tt; exact rfl; exact rfl)
    exact ⟨_, by (focus ((repeat' (first | exact Ext.here _ _ | apply Keep.last)); done)), .inr ⟨rfl, ov4, hov4, rfl, rfl⟩⟩
end Go.Proofs.YtplhnkmmhndkjaaGreat
set_option linter.unusedSimpArgs false
set_option linter.unusedVariables false
namespace Go.Proofs.YtplhnkmmhndkjaaGreat
open Go.RowKit Go.Shelf
set_option maxRecDepth 100000
def Rs.cA (s : Rs) : Rs := (s.num 2).2.2
def Rs.cB (s : Rs) : Rs := (s.cA.num 1).2.2
def Rs.cD (s : Rs) : Rs := (s.cB.num 4).2.2
def Rs.c4 (s : Rs) : Rs := (s.cD.num 2).2.2
def Rs.cv (s : Rs) : Cl := ⟨(s.num 2).1, (s.cA.num 1).1, (s.cB.num 4).1, (s.cD.num 2).1⟩
def cl0 : Cl := ⟨0, 0, 0, 0⟩
def rdC (s : Rs) : Cl × Int := if s.c4.e ≠ 0 then (cl0, s.c4.e) else if s.cv.right then (s.cv, 0) else (cl0, 3)
theorem Rs.ok.c4 {s : Rs} {br : Nat} {w : World} (h : s.ok br w) : s.c4.ok br w := (((h.num 2).num 1).num 4).num 2
theorem cread_ok (br : Nat) (s : Rs) (w : World) (hs : s.ok br w) : CallM Tryz.prog 93 [.pointer (some ⟨br, 0, none⟩)] (s.L br) w fun v L => v = .tuple #[kvC (rdC s).1, .int .i64 (rdC s).2] ∧ L = s.c4.L br := by
  have hbl0 := rL_blk s br
  have oA : s.cA.ok br w := hs.num 2
  have oB : s.cB.ok br w := oA.num 1
  have oD : s.cD.ok br w := oB.num 4
  have h1 : ∀ w1, s.ok br w1 → CallM Tryz.prog 90 [.pointer (some ⟨br, 0, none⟩), .int .i64 1] (s.L br) w1 fun v L => v = .int .i64 s.cv.id ∧ L = s.cA.L br := fun w1 h => rnum_ok br s 1 2 (by decide) rfl w1 h
  have h2 : ∀ w1, s.cA.ok br w1 → CallM Tryz.prog 90 [.pointer (some ⟨br, 0, none⟩), .int .i64 0] (s.cA.L br) w1 fun v L => v = .int .i64 s.cv.roles ∧ L = s.cB.L br := fun w1 h => rnum_ok br s.cA 0 1 (by decide) rfl w1 h
  have h3 : ∀ w1, s.cB.ok br w1 → CallM Tryz.prog 90 [.pointer (some ⟨br, 0, none⟩), .int .i64 2] (s.cB.L br) w1 fun v L => v = .int .i64 s.cv.exp ∧ L = s.cD.L br := fun w1 h => rnum_ok br s.cB 2 4 (by decide) rfl w1 h
  have h4 : ∀ w1, s.cD.ok br w1 → CallM Tryz.prog 90 [.pointer (some ⟨br, 0, none⟩), .int .i64 1] (s.cD.L br) w1 fun v L => v = .int .i64 s.cv.ser ∧ L = s.c4.L br := fun w1 h => rnum_ok br s.cD 1 2 (by decide) rfl w1 h
  have hre := fun w1 h => rerr_ok br s.c4 w1 h
  have hck := check_ok s.cv.id s.cv.roles s.cv.exp s.cv.ser
  have hD : rdC s = if s.c4.e ≠ 0 then (cl0, s.c4.e) else if s.cv.right then (s.cv, 0) else (cl0, 3) := rfl
  have hm3 : (br, Obj.cells ⟨[.slice s.c4.q s.c4.xs.length s.c4.cap, .int .i64 s.c4.e]⟩ 173 (0, 0)) ∈ s.c4.L br := by simp [Rs.L]
  generalize hL4 : s.c4.L br = L4 at *
  generalize s.c4 = s4 at *
  generalize hLD : s.cD.L br = LD at *
  generalize s.cD = sD at *
  generalize hLB : s.cB.L br = LB at *
  generalize s.cB = sB at *
  generalize hLA : s.cA.L br = LA at *
  generalize s.cA = sA at *
  generalize s.cv = c at *
  generalize rdC s = rd at *
  generalize hLS : s.L br = LS at *
  refine enterK (tb := tb) Tryz.func93 rfl Tryz.ntmps93 rfl ?_
  by_cases he : s4.e = 0
  · rw [if_neg (fun h => h he)] at hD
    rw [he] at hre hm3
    by_cases hr : c.right
    · rw [if_pos hr] at hD hck
      subst hD
      repeat' (first | (apply R.is1; first | (apply R.isBin; (apply R.pure; exact rfl; (apply Ok1.neq_f; exact rfl; exact rfl; omega))) | (apply R.isCall; first | (apply R.callE (Li := LS) (vs := [.pointer (some ⟨br, 0, none⟩), .int .i64 1]); (iterate 3 exact rfl); (focus ((repeat' (first | exact Ext.all _ | apply Ext.cons | apply Ext.app)); done)); intro w1 hw1; exact h1 w1 (hs.chg hw1.chg hbl0); rintro v Lo ⟨rfl, hq⟩; rw [hq]; clear hq) | (apply R.callE (Li := LA) (vs := [.pointer (some ⟨br, 0, none⟩), .int .i64 0]); (iterate 3 exact rfl); (focus ((repeat' (exact Ext.here _ _)); done)); intro w1 hw1; exact h2 w1 (oA.chg hw1.chg hbl0); rintro v Lo ⟨rfl, hq⟩; rw [hq]; clear hq) | (apply R.callE (Li := LB) (vs := [.pointer (some ⟨br, 0, none⟩), .int .i64 2]); (iterate 3 exact rfl); (focus ((repeat' (exact Ext.here _ _)); done)); intro w1 hw1; exact h3 w1 (oB.chg hw1.chg hbl0); rintro v Lo ⟨rfl, hq⟩; rw [hq]; clear hq) | (apply R.callE (Li := LD) (vs := [.pointer (some ⟨br, 0, none⟩), .int .i64 1]); (iterate 3 exact rfl); (focus ((repeat' (exact Ext.here _ _)); done)); intro w1 hw1; exact h4 w1 (oD.chg hw1.chg hbl0); rintro v Lo ⟨rfl, hq⟩; rw [hq]; clear hq) | (apply R.callV (vs := [.pointer (some ⟨br, 0, none⟩)]); (iterate 3 exact rfl); intro w1 hw1; (apply hre w1; apply hw1.get; apply Ext.memI9 hm3; (focus ((repeat' (first | exact Ext.here _ _ | apply Ext.cons)); done)))) | apply R.callP rfl rfl rfl hck) | (apply R.pure; exact rfl; first | (apply Ok1.move; exact rfl) | (apply Ok1.load; exact rfl; (apply Ld.ownk; exact rfl; exact rfl; exact At.head; exact rfl)) | (apply Ok1.assign; exact rfl) | (apply Ok1.build; (iterate 5 exact rfl))) | (apply R.alloc; (iterate 3 exact rfl); intro)) | (apply R.is0; (apply R.store; (iterate 6 exact rfl); (focus ((repeat' (first | exact Upd.head | apply Upd.tail | apply Upd.right)); done)); exact rfl)) | apply R.nil | (apply T.is; first | apply T.seq | apply T.region | apply T.skip | apply T.ret | (apply T.cond_f; exact rfl)))
      (apply RetOk.ct; exact rfl; ((apply Ld.ownk; exact rfl; exact rfl; (focus ((repeat' (first | exact At.head | apply At.tail | apply At.right)); done)); exact rfl)); exact rfl)
      exact ⟨_, by (focus ((repeat' (first | exact Ext.here _ _ | apply Keep.last | apply Ext.cons)); done)), rfl, rfl⟩
    · rw [if_neg hr] at hD hck
      subst hD
      repeat' (first | (apply R.is1; first | (apply R.isBin; (apply R.pure; exact rfl; first | (apply Ok1.neq_t; exact rfl; exact rfl; omega) | (apply Ok1.neq_f; exact rfl; exact rfl; omega))) | (apply R.isCall; first | (apply R.callE (Li := LS) (vs := [.pointer (some ⟨br, 0, none⟩), .int .i64 1]); (iterate 3 exact rfl); (focus ((repeat' (first | exact Ext.all _ | apply Ext.cons | apply Ext.app)); done)); intro w1 hw1; exact h1 w1 (hs.chg hw1.chg hbl0); rintro v Lo ⟨rfl, hq⟩; rw [hq]; clear hq) | (apply R.callE (Li := LA) (vs := [.pointer (some ⟨br, 0, none⟩), .int .i64 0]); (iterate 3 exact rfl); (focus ((repeat' (exact Ext.here _ _)); done)); intro w1 hw1; exact h2 w1 (oA.chg hw1.chg hbl0); rintro v Lo ⟨rfl, hq⟩; rw [hq]; clear hq) | (apply R.callE (Li := LB) (vs := [.pointer (some ⟨br, 0, none⟩), .int .i64 2]); (iterate 3 exact rfl); (focus ((repeat' (exact Ext.here _ _)); done)); intro w1 hw1; exact h3 w1 (oB.chg hw1.chg hbl0); rintro v Lo ⟨rfl, hq⟩; rw [hq]; clear hq) | (apply R.callE (Li := LD) (vs := [.pointer (some ⟨br, 0, none⟩), .int .i64 1]); (iterate 3 exact rfl); (focus ((repeat' (exact Ext.here _ _)); done)); intro w1 hw1; exact h4 w1 (oD.chg hw1.chg hbl0); rintro v Lo ⟨rfl, hq⟩; rw [hq]; clear hq) | (apply R.callV (vs := [.pointer (some ⟨br, 0, none⟩)]); (iterate 3 exact rfl); intro w1 hw1; (apply hre w1; apply hw1.get; apply Ext.memI9 hm3; (focus ((repeat' (first | exact Ext.here _ _ | apply Ext.cons)); done)))) | apply R.callP rfl rfl rfl hck) | (apply R.pure; exact rfl; first | (apply Ok1.move; exact rfl) | (apply Ok1.load; exact rfl; (apply Ld.ownk; exact rfl; exact rfl; exact At.head; exact rfl)) | (apply Ok1.assign; exact rfl) | (apply Ok1.build; (iterate 5 exact rfl))) | (apply R.alloc; (iterate 3 exact rfl); intro)) | (apply R.is0; (apply R.store; (iterate 6 exact rfl); (focus ((repeat' (first | exact Upd.head | apply Upd.tail | apply Upd.right)); done)); exact rfl)) | apply R.nil | (apply T.is; first | apply T.seq | apply T.region | apply T.skip | apply T.ret | (apply T.cond_t; exact rfl) | (apply T.cond_f; exact rfl)))
      (apply RetOk.ct; exact rfl; ((apply Ld.ownk; exact rfl; exact rfl; (focus ((repeat' (first | exact At.head | apply At.tail | apply At.right)); done)); exact rfl)); exact rfl)
      exact ⟨_, by (focus ((repeat' (first | exact Ext.here _ _ | apply Keep.last | apply Ext.cons)); done)), rfl, rfl⟩
  · rw [if_pos he] at hD
    subst hD
    repeat' (first | (apply R.is1; first | (apply R.isBin; (apply R.pure; exact rfl; (apply Ok1.neq_t; exact rfl; exact rfl; omega))) | (apply R.isCall; first | (apply R.callE (Li := LS) (vs := [.pointer (some ⟨br, 0, none⟩), .int .i64 1]); (iterate 3 exact rfl); (focus ((repeat' (first | exact Ext.all _ | apply Ext.cons | apply Ext.app)); done)); intro w1 hw1; exact h1 w1 (hs.chg hw1.chg hbl0); rintro v Lo ⟨rfl, hq⟩; rw [hq]; clear hq) | (apply R.callE (Li := LA) (vs := [.pointer (some ⟨br, 0, none⟩), .int .i64 0]); (iterate 3 exact rfl); (focus ((repeat' (exact Ext.here _ _)); done)); intro w1 hw1; exact h2 w1 (oA.chg hw1.chg hbl0); rintro v Lo ⟨rfl, hq⟩; rw [hq]; clear hq) | (apply R.callE (Li := LB) (vs := [.pointer (some ⟨br, 0, none⟩), .int .i64 2]); (iterate 3 exact rfl); (focus ((repeat' (exact Ext.here _ _)); done)); intro w1 hw1; exact h3 w1 (oB.chg hw1.chg hbl0); rintro v Lo ⟨rfl, hq⟩; rw [hq]; clear hq) | (apply R.callE (Li := LD) (vs := [.pointer (some ⟨br, 0, none⟩), .int .i64 1]); (iterate 3 exact rfl); (focus ((repeat' (exact Ext.here _ _)); done)); intro w1 hw1; exact h4 w1 (oD.chg hw1.chg hbl0); rintro v Lo ⟨rfl, hq⟩; rw [hq]; clear hq) | (apply R.callV (vs := [.pointer (some ⟨br, 0, none⟩)]); (iterate 3 exact rfl); intro w1 hw1; (apply hre w1; apply hw1.get; apply Ext.memI9 hm3; (focus ((repeat' (first | exact Ext.here _ _ | apply Ext.cons)); done))))) | (apply R.pure; exact rfl; first | (apply Ok1.move; exact rfl) | (apply Ok1.assign; exact rfl) | (apply Ok1.build; (iterate 5 exact rfl))) | (apply R.alloc; (iterate 3 exact rfl); intro)) | (apply R.is0; (apply R.store; (iterate 6 exact rfl); (focus ((repeat' (first | exact Upd.head | apply Upd.tail | apply Upd.right)); done)); exact rfl)) | apply R.nil | (apply T.is; first | apply T.seq | apply T.region | apply T.ret | (apply T.cond_t; exact rfl)))
    all_goals (apply RetOk.ct; exact rfl; ((apply Ld.ownk; exact rfl; exact rfl; (focus ((repeat' (first | exact At.head | apply At.tail | apply At.right)); done)); exact rfl)); exact rfl)
    all_goals exact ⟨_, by (focus ((repeat' (first | exact Ext.here _ _ | apply Keep.last | apply Ext.cons)); done)), rfl, rfl⟩
def rm0 : Rm := ⟨0, cl0, 0⟩
def Rs.o1 (s : Rs) : Rs := (s.num 1).2.2
def Rs.o2 (s : Rs) : Rs := s.o1.c4
def Rs.o3 (s : Rs) : Rs := (s.o2.num 4).2.2
def Rs.rv (s : Rs) : Rm := ⟨(s.num 1).1, (rdC s.o1).1, (s.o2.num 4).1⟩
def rd1 (s : Rs) : Rm × Int := if s.o3.e ≠ 0 then (rm0, s.o3.e) else if (rdC s.o1).2 ≠ 0 then (rm0, 3) else if s.rv.chk ≠ 0 then (rm0, 3) else (s.rv, 0)
theorem Rs.ok.o3 {s : Rs} {br : Nat} {w : World} (h : s.ok br w) : s.o3.ok br w := ((h.num 1).c4).num 4
theorem one_ok (br : Nat) (s : Rs) (w : World) (hs : s.ok br w) : CallM Tryz.prog 92 [.pointer (some ⟨br, 0, none⟩)] (s.L br) w fun v L => v = .tuple #[.agg ⟨(rd1 s).1.v⟩, .int .i64 (rd1 s).2] ∧ L = s.o3.L br := by
  have hbl0 := rL_blk s br
  have oA : s.o1.ok br w := hs.num 1
  have oB : s.o2.ok br w := oA.c4
  have h1 : ∀ w1, s.ok br w1 → CallM Tryz.prog 90 [.pointer (some ⟨br, 0, none⟩), .int .i64 0] (s.L br) w1 fun v L => v = .int .i64 s.rv.kind ∧ L = s.o1.L br := fun w1 h => rnum_ok br s 0 1 (by decide) rfl w1 h
  have h2 : ∀ w1, s.o1.ok br w1 → CallM Tryz.prog 93 [.pointer (some ⟨br, 0, none⟩)] (s.o1.L br) w1 fun v L => v = .tuple #[kvC s.rv.cl, .int .i64 (rdC s.o1).2] ∧ L = s.o2.L br := fun w1 h => cread_ok br s.o1 w1 h
  have h3 : ∀ w1, s.o2.ok br w1 → CallM Tryz.prog 90 [.pointer (some ⟨br, 0, none⟩), .int .i64 2] (s.o2.L br) w1 fun v L => v = .int .i64 s.rv.inc ∧ L = s.o3.L br := fun w1 h => rnum_ok br s.o2 2 4 (by decide) rfl w1 h
  have hre := fun w1 h => rerr_ok br s.o3 w1 h
  have hck := mcheck_ok s.rv
  have hD : rd1 s = if s.o3.e ≠ 0 then (rm0, s.o3.e) else if (rdC s.o1).2 ≠ 0 then (rm0, 3) else if s.rv.chk ≠ 0 then (rm0, 3) else (s.rv, 0) := rfl
  have hm3 : (br, Obj.cells ⟨[.slice s.o3.q s.o3.xs.length s.o3.cap, .int .i64 s.o3.e]⟩ 173 (0, 0)) ∈ s.o3.L br := by simp [Rs.L]
  generalize hL4 : s.o3.L br = L4 at *
  generalize s.o3 = s4 at *
  generalize hLB : s.o2.L br = LB at *
  generalize s.o2 = sB at *
  generalize hec : (rdC s.o1).2 = ec at *
  generalize hLA : s.o1.L br = LA at *
  generalize s.o1 = sA at *
  generalize s.rv = c at *
  generalize rd1 s = rd at *
  generalize hLS : s.L br = LS at *
  clear hec
  refine enterK (tb := tb) Tryz.func92 rfl Tryz.ntmps92 rfl ?_
  by_cases he : s4.e = 0
  · rw [if_neg (fun h => h he)] at hD
    rw [he] at hre hm3
    by_cases hc : ec = 0
    · rw [if_neg (fun h => h hc)] at hD
      subst hc
      by_cases hk : c.chk = 0
      · rw [if_neg (fun h => h hk)] at hD
        rw [hk] at hck
        subst hD
        repeat' (first | (apply R.is1; first | (apply R.isBin; (apply R.pure; exact rfl; (apply Ok1.neq_f; exact rfl; exact rfl; omega))) | (apply R.isCall; first | (apply R.callE (Li := LS) (vs := [.pointer (some ⟨br, 0, none⟩), .int .i64 0]); (iterate 3 exact rfl); (focus ((repeat' (first | exact Ext.all _ | apply Ext.cons)); done)); intro w1 hw1; exact h1 w1 (hs.chg hw1.chg hbl0); rintro v Lo ⟨rfl, hq⟩; rw [hq]; clear hq) | (apply R.callE (Li := LA) (vs := [.pointer (some ⟨br, 0, none⟩)]); (iterate 3 exact rfl); (focus ((repeat' (first | exact Ext.here _ _ | apply Ext.cons | apply Ext.app)); done)); intro w1 hw1; exact h2 w1 (oA.chg hw1.chg hbl0); rintro v Lo ⟨rfl, hq⟩; rw [hq]; clear hq; simp only [kvC]) | (apply R.callE (Li := LB) (vs := [.pointer (some ⟨br, 0, none⟩), .int .i64 2]); (iterate 3 exact rfl); (focus ((repeat' (first | exact Ext.here _ _ | apply Ext.cons)); done)); intro w1 hw1; exact h3 w1 (oB.chg hw1.chg hbl0); rintro v Lo ⟨rfl, hq⟩; rw [hq]; clear hq) | (apply R.callV (vs := [.pointer (some ⟨br, 0, none⟩)]); (iterate 3 exact rfl); intro w1 hw1; (apply hre w1; apply hw1.get; apply Ext.memI9 hm3; (focus ((repeat' (first | exact Ext.here _ _ | apply Ext.cons)); done)))) | apply R.callP rfl rfl rfl hck) | (apply R.pure; exact rfl; first | (apply Ok1.move; exact rfl) | (apply Ok1.load; exact rfl; (apply Ld.ownk; exact rfl; exact rfl; (focus ((repeat' (first | exact At.head | apply At.right)); done)); exact rfl)) | (apply Ok1.assign; exact rfl) | (apply Ok1.build; (iterate 5 exact rfl)) | (apply Ok1.extract; exact rfl; exact rfl) | (apply Ok1.pick_f; exact rfl; exact rfl)) | (apply R.alloc; (iterate 3 exact rfl); intro)) | (apply R.is0; (apply R.store; (iterate 6 exact rfl); (focus ((repeat' (first | exact Upd.head | apply Upd.tail | apply Upd.right)); done)); exact rfl)) | (apply R.isG; (apply R.guard_run; exact rfl; exact rfl)) | apply R.nil | (apply T.is; first | apply T.seq | apply T.region | apply T.block | apply T.skip | apply T.ret | (apply T.cond_f; exact rfl)))
        (apply RetOk.ct; exact rfl; ((apply Ld.ownk; exact rfl; exact rfl; (focus ((repeat' (first | exact At.head | apply At.tail | apply At.right)); done)); exact rfl)); exact rfl)
        exact ⟨_, by (focus ((repeat' (first | exact Ext.here _ _ | apply Keep.last | apply Ext.cons)); done)), rfl, rfl⟩
      · rw [if_pos hk] at hD
        subst hD
        repeat' (first | (apply R.is1; first | (apply R.isBin; (apply R.pure; exact rfl; first | (apply Ok1.neq_t; exact rfl; exact rfl; omega) | (apply Ok1.neq_f; exact rfl; exact rfl; omega))) | (apply R.isCall; first | (apply R.callE (Li := LS) (vs := [.pointer (some ⟨br, 0, none⟩), .int .i64 0]); (iterate 3 exact rfl); (focus ((repeat' (first | exact Ext.all _ | apply Ext.cons)); done)); intro w1 hw1; exact h1 w1 (hs.chg hw1.chg hbl0); rintro v Lo ⟨rfl, hq⟩; rw [hq]; clear hq) | (apply R.callE (Li := LA) (vs := [.pointer (some ⟨br, 0, none⟩)]); (iterate 3 exact rfl); (focus ((repeat' (first | exact Ext.here _ _ | apply Ext.cons | apply Ext.app)); done)); intro w1 hw1; exact h2 w1 (oA.chg hw1.chg hbl0); rintro v Lo ⟨rfl, hq⟩; rw [hq]; clear hq; simp only [kvC]) | (apply R.callE (Li := LB) (vs := [.pointer (some ⟨br, 0, none⟩), .int .i64 2]); (iterate 3 exact rfl); (focus ((repeat' (first | exact Ext.here _ _ | apply Ext.cons)); done)); intro w1 hw1; exact h3 w1 (oB.chg hw1.chg hbl0); rintro v Lo ⟨rfl, hq⟩; rw [hq]; clear hq) | (apply R.callV (vs := [.pointer (some ⟨br, 0, none⟩)]); (iterate 3 exact rfl); intro w1 hw1; (apply hre w1; apply hw1.get; apply Ext.memI9 hm3; (focus ((repeat' (first | exact Ext.here _ _ | apply Ext.cons)); done)))) | apply R.callP rfl rfl rfl hck) | (apply R.pure; exact rfl; first | (apply Ok1.move; exact rfl) | (apply Ok1.load; exact rfl; (apply Ld.ownk; exact rfl; exact rfl; (focus ((repeat' (first | exact At.head | apply At.right)); done)); exact rfl)) | (apply Ok1.assign; exact rfl) | (apply Ok1.build; (iterate 5 exact rfl)) | (apply Ok1.extract; exact rfl; exact rfl) | (apply Ok1.pick_f; exact rfl; exact rfl)) | (apply R.alloc; (iterate 3 exact rfl); intro)) | (apply R.is0; (apply R.store; (iterate 6 exact rfl); (focus ((repeat' (first | exact Upd.head | apply Upd.tail | apply Upd.right)); done)); exact rfl)) | (apply R.isG; (apply R.guard_run; exact rfl; exact rfl)) | apply R.nil | (apply T.is; first | apply T.seq | apply T.region | apply T.block | apply T.ret | (apply T.cond_t; exact rfl) | (apply T.cond_f; exact rfl)))
        all_goals (apply RetOk.ct; exact rfl; ((apply Ld.ownk; exact rfl; exact rfl; (focus ((repeat' (first | exact At.head | apply At.tail | apply At.right)); done)); exact rfl)); exact rfl)
        all_goals exact ⟨_, by (focus ((repeat' (first | exact Ext.here _ _ | apply Keep.last | apply Ext.cons)); done)), rfl, rfl⟩
    · rw [if_pos hc] at hD
      subst hD
      repeat' (first | (apply R.is1; first | (apply R.isBin; (apply R.pure; exact rfl; first | (apply Ok1.neq_t; exact rfl; exact rfl; omega) | (apply Ok1.neq_f; exact rfl; exact rfl; omega))) | (apply R.isCall; first | (apply R.callE (Li := LS) (vs := [.pointer (some ⟨br, 0, none⟩), .int .i64 0]); (iterate 3 exact rfl); (focus ((repeat' (first | exact Ext.all _ | apply Ext.cons)); done)); intro w1 hw1; exact h1 w1 (hs.chg hw1.chg hbl0); rintro v Lo ⟨rfl, hq⟩; rw [hq]; clear hq) | (apply R.callE (Li := LA) (vs := [.pointer (some ⟨br, 0, none⟩)]); (iterate 3 exact rfl); (focus ((repeat' (first | exact Ext.here _ _ | apply Ext.cons | apply Ext.app)); done)); intro w1 hw1; exact h2 w1 (oA.chg hw1.chg hbl0); rintro v Lo ⟨rfl, hq⟩; rw [hq]; clear hq; simp only [kvC]) | (apply R.callE (Li := LB) (vs := [.pointer (some ⟨br, 0, none⟩), .int .i64 2]); (iterate 3 exact rfl); (focus ((repeat' (first | exact Ext.here _ _ | apply Ext.cons)); done)); intro w1 hw1; exact h3 w1 (oB.chg hw1.chg hbl0); rintro v Lo ⟨rfl, hq⟩; rw [hq]; clear hq) | (apply R.callV (vs := [.pointer (some ⟨br, 0, none⟩)]); (iterate 3 exact rfl); intro w1 hw1; (apply hre w1; apply hw1.get; apply Ext.memI9 hm3; (focus ((repeat' (first | exact Ext.here _ _ | apply Ext.cons)); done))))) | (apply R.pure; exact rfl; first | (apply Ok1.move; exact rfl) | (apply Ok1.load; exact rfl; (apply Ld.ownk; exact rfl; exact rfl; (focus ((repeat' (first | exact At.head | apply At.right)); done)); exact rfl)) | (apply Ok1.assign; exact rfl) | (apply Ok1.build; (iterate 5 exact rfl)) | (apply Ok1.extract; exact rfl; exact rfl) | (apply Ok1.pick_t; exact rfl; exact rfl)) | (apply R.alloc; (iterate 3 exact rfl); intro)) | (apply R.is0; (apply R.store; (iterate 6 exact rfl); (focus ((repeat' (first | exact Upd.head | apply Upd.tail | apply Upd.right)); done)); exact rfl)) | (apply R.isG; (apply R.guard_not; (iterate 3 exact rfl))) | apply R.nil | (apply T.is; first | apply T.seq | apply T.region | apply T.block | apply T.ret | (apply T.cond_t; exact rfl) | (apply T.cond_f; exact rfl)))
      all_goals (apply RetOk.ct; exact rfl; ((apply Ld.ownk; exact rfl; exact rfl; (focus ((repeat' (first | exact At.head | apply At.tail | apply At.right)); done)); exact rfl)); exact rfl)
      all_goals exact ⟨_, by (focus ((repeat' (first | exact Ext.here _ _ | apply Keep.last | apply Ext.cons)); done)), rfl, rfl⟩
  · rw [if_pos he] at hD
    subst hD
    repeat' (first | (apply R.is1; first | (apply R.isBin; (apply R.pure; exact rfl; (apply Ok1.neq_t; exact rfl; exact rfl; omega))) | (apply R.isCall; first | (apply R.callE (Li := LS) (vs := [.pointer (some ⟨br, 0, none⟩), .int .i64 0]); (iterate 3 exact rfl); (focus ((repeat' (first | exact Ext.all _ | apply Ext.cons)); done)); intro w1 hw1; exact h1 w1 (hs.chg hw1.chg hbl0); rintro v Lo ⟨rfl, hq⟩; rw [hq]; clear hq) | (apply R.callE (Li := LA) (vs := [.pointer (some ⟨br, 0, none⟩)]); (iterate 3 exact rfl); (focus ((repeat' (first | exact Ext.here _ _ | apply Ext.cons | apply Ext.app)); done)); intro w1 hw1; exact h2 w1 (oA.chg hw1.chg hbl0); rintro v Lo ⟨rfl, hq⟩; rw [hq]; clear hq; simp only [kvC]) | (apply R.callE (Li := LB) (vs := [.pointer (some ⟨br, 0, none⟩), .int .i64 2]); (iterate 3 exact rfl); (focus ((repeat' (first | exact Ext.here _ _ | apply Ext.cons)); done)); intro w1 hw1; exact h3 w1 (oB.chg hw1.chg hbl0); rintro v Lo ⟨rfl, hq⟩; rw [hq]; clear hq) | (apply R.callV (vs := [.pointer (some ⟨br, 0, none⟩)]); (iterate 3 exact rfl); intro w1 hw1; (apply hre w1; apply hw1.get; apply Ext.memI9 hm3; (focus ((repeat' (first | exact Ext.here _ _ | apply Ext.cons)); done))))) | (apply R.pure; exact rfl; first | (apply Ok1.move; exact rfl) | (apply Ok1.load; exact rfl; (apply Ld.ownk; exact rfl; exact rfl; (focus ((repeat' (first | exact At.head | apply At.right)); done)); exact rfl)) | (apply Ok1.assign; exact rfl) | (apply Ok1.build; (iterate 5 exact rfl)) | (apply Ok1.extract; exact rfl; exact rfl)) | (apply R.alloc; (iterate 3 exact rfl); intro)) | (apply R.is0; (apply R.store; (iterate 6 exact rfl); (focus ((repeat' (first | exact Upd.head | apply Upd.tail | apply Upd.right)); done)); exact rfl)) | apply R.nil | (apply T.is; first | apply T.seq | apply T.region | apply T.block | apply T.ret | (apply T.cond_t; exact rfl)))
    all_goals (apply RetOk.ct; exact rfl; ((apply Ld.ownk; exact rfl; exact rfl; (focus ((repeat' (first | exact At.head | apply At.tail | apply At.right)); done)); exact rfl)); exact rfl)
    all_goals exact ⟨_, by (focus ((repeat' (first | exact Ext.here _ _ | apply Keep.last | apply Ext.cons)); done)), rfl, rfl⟩
end Go.Proofs.YtplhnkmmhndkjaaGreat
set_option linter.unusedSimpArgs false
set_option linter.unusedVariables false
namespace Go.Proofs.YtplhnkmmhndkjaaGreat
open Go.RowKit Go.Shelf
set_option maxRecDepth 100000
def rdMl : Nat → Rs → List Rm × Int × Rs
  | 0, s => ([], 0, s)
  | k + 1, s => if (rd1 s).2 ≠ 0 then ([], (rd1 s).2, s.o3) else if (rdMl k s.o3).2.1 ≠ 0 then ([], (rdMl k s.o3).2) else ((rd1 s).1 :: (rdMl k s.o3).1, (rdMl k s.o3).2)
def rdM (s : Rs) : List Rm × Int × Rs :=
  if 20 < (s.num 1).1 then ([], 3, s.o1) else if (rdMl (s.num 1).1.toNat s.o1).2.1 ≠ 0 then ([], (rdMl (s.num 1).1.toNat s.o1).2) else ((rdMl (s.num 1).1.toNat s.o1).1, (rdMl (s.num 1).1.toNat s.o1).2.2.e, (rdMl (s.num 1).1.toNat s.o1).2.2)
def combM (xs : List Rm) (r : List Rm × Int × Rs) : List Rm × Int × Rs := if r.2.1 ≠ 0 then ([], r.2) else (xs ++ r.1, r.2)
theorem combM_nil (k : Nat) (s : Rs) : combM [] (rdMl k s) = rdMl k s := by
  unfold combM
  split
  · rename_i h
    cases k with
    | zero => exact absurd rfl h
    | succ k =>
      simp only [rdMl] at h ⊢
      split
      · rfl
      · split
        · rfl
        · rename_i h1 h2
          rw [if_neg h1, if_neg h2] at h
          exact absurd h h2
  · simp
theorem combM_bad (xs : List Rm) (k : Nat) (s : Rs) (h : (rd1 s).2 ≠ 0) : combM xs (rdMl (k + 1) s) = ([], (rd1 s).2, s.o3) := by
  simp only [rdMl]
  rw [if_pos h]
  unfold combM
  rw [if_pos h]
theorem combM_ok (xs : List Rm) (k : Nat) (s : Rs) (h : (rd1 s).2 = 0) : combM xs (rdMl (k + 1) s) = combM (xs ++ [(rd1 s).1]) (rdMl k s.o3) := by
  by_cases h2 : (rdMl k s.o3).2.1 = 0 <;> simp [rdMl, combM, h, h2]
theorem rd1_e {s : Rs} (h : (rd1 s).2 = 0) : s.o3.e = 0 := by
  unfold rd1 at h
  by_cases he : s.o3.e = 0
  · exact he
  · rw [if_pos he] at h; exact absurd h he
theorem num1_rng {s : Rs} (hb : Byt s.xs) : ∃ n : Nat, (s.num 1).1 = n ∧ n ≤ 255 := by
  have := s.num1_range hb
  exact ⟨(s.num 1).1.toNat, by omega, by omega⟩
theorem mread_ok (br : Nat) (s : Rs) (w : World) (hs : s.ok br w) : CallM Tryz.prog 55 [.pointer (some ⟨br, 0, none⟩)] (s.L br) w fun v L => ∃ ov, OvOk 6 ov (rdM s).1.length (fl Rm.v (rdM s).1) ∧ v = .tuple #[slV ov (rdM s).1.length, .int .i64 (rdM s).2.1] ∧ L = blkL 111 ov (fl Rm.v (rdM s).1) ++ (rdM s).2.2.L br := by
  have hbl0 := rL_blk s br
  obtain ⟨n, hn, hn2⟩ := num1_rng hs.byt
  have h1 : ∀ w1, s.ok br w1 → CallM Tryz.prog 90 [.pointer (some ⟨br, 0, none⟩), .int .i64 0] (s.L br) w1 fun v L => v = .int .i64 (s.num 1).1 ∧ L = s.o1.L br := fun w1 h => rnum_ok br s 0 1 (by decide) rfl w1 h
  have oA : s.o1.ok br w := hs.num 1
  have hD : rdM s = if 20 < (s.num 1).1 then ([], 3, s.o1) else if (rdMl (s.num 1).1.toNat s.o1).2.1 ≠ 0 then ([], (rdMl (s.num 1).1.toNat s.o1).2) else ((rdMl (s.num 1).1.toNat s.o1).1, (rdMl (s.num 1).1.toNat s.o1).2.2.e, (rdMl (s.num 1).1.toNat s.o1).2.2) := rfl
  rw [hn] at hD h1
  simp only [Int.toNat_natCast] at hD
  generalize rdM s = rd at *
  generalize s.o1 = sA at *
  refine enterK (tb := tb) Tryz.func55 rfl Tryz.ntmps55 rfl ?_
  rcases Nat.lt_or_ge 20 n with h20 | h20
  · rw [if_pos (by omega)] at hD
    subst hD
    generalize hLA : sA.L br = LA at *
    generalize hLS : s.L br = LS at *
    repeat' (first | (apply R.is1; first | (apply R.isBin; first | (apply R.pure; exact rfl; first | (apply Ok1.add64; exact rfl; exact rfl; omega; omega) | (apply Ok1.lss_t; exact rfl; exact rfl; omega) | (apply Ok1.lss_f; exact rfl; exact rfl; omega) | (apply Ok1.gtr_t; exact rfl; exact rfl; omega) | (apply Ok1.gtr_f; exact rfl; exact rfl; omega) | (apply Ok1.neq_t; exact rfl; exact rfl; omega) | (apply Ok1.neq_f; exact rfl; exact rfl; omega) | (apply Ok1.neqP; (iterate 5 exact rfl)) | (apply Ok1.neqM; (iterate 5 exact rfl)) | (apply Ok1.neqS; (iterate 5 exact rfl))) | (apply R.lss rfl rfl rfl <;> intro) | (apply R.gtr rfl rfl rfl <;> intro) | (apply R.neq rfl rfl rfl <;> intro) | (apply R.neqF; (iterate 8 exact rfl); all_goals intro)) | (apply R.isCall; first | (apply R.callE (Li := LS) (vs := [.pointer (some ⟨br, 0, none⟩), .int .i64 0]); (iterate 3 exact rfl); (focus ((repeat' (first | exact Ext.none _ | exact Ext.one _ _ | exact Ext.here _ _ | exact Ext.all _ | apply Ext.cons | apply Ext.app | apply Ext.two)); done)); intro w1 hw1; exact h1 w1 (hs.chg hw1.chg hbl0); rintro v Lo ⟨rfl, hq⟩; rw [hq]; clear hq)) | (apply R.pure; exact rfl; first | (apply Ok1.move; exact rfl) | (apply Ok1.load; exact rfl; first | (apply Ld.own1; exact rfl; exact rfl; (focus ((repeat' (first | exact At.head | apply At.tail | apply At.right)); done)); exact rfl) | (apply Ld.ownk; exact rfl; exact rfl; (focus ((repeat' (first | exact At.head | apply At.tail | apply At.right)); done)); exact rfl) | (apply Ld.old1; exact rfl; exact rfl; assumption; (first | exact List.not_mem_nil | assumption)) | (apply Ld.blk1; exact rfl; exact rfl; assumption; (first | exact List.not_mem_nil | assumption); exact rfl) | (apply Ld.blkk; exact rfl; exact rfl; assumption; (first | exact List.not_mem_nil | assumption); exact rfl)) | (apply Ok1.assign; exact rfl) | (apply Ok1.extract; exact rfl; exact rfl)) | (apply R.alloc; (iterate 3 exact rfl); intro) | (apply R.buildSlice; (iterate 12 exact rfl); intro)) | (apply R.is0; first | (apply R.store; (iterate 6 exact rfl); (focus ((repeat' (first | exact Upd.head | apply Upd.tail | apply Upd.right)); done)); exact rfl) | fail) | (apply R.isG; first | (apply R.guard_run; exact rfl; exact rfl) | (apply R.guard_not; (iterate 3 exact rfl)) | (apply R.guard_not0; exact rfl; exact rfl) | (apply R.guard_un; (iterate 3 exact rfl)) | (apply R.guard_un0; exact rfl; exact rfl) | (apply R.guard rfl rfl ?_ (fun h => ⟨rfl, ?_⟩) <;> try intro)) | apply R.nil | (apply T.is; first | apply T.seq | apply T.region | apply T.block | apply T.scope | apply T.label | apply T.skip | apply T.exit | apply T.ret | (apply T.cond_t; exact rfl) | (apply T.cond_f; exact rfl) | (apply T.cond_h; exact rfl; assumption) | (apply T.cond_n; exact rfl; assumption) | (apply T.cond rfl <;> intro)) | apply Rnd.step)
    (apply RetOk.tt; exact rfl; exact rfl)
    exact ⟨LA, by (focus ((repeat' (first | exact Keep.nil _ | exact Ext.one _ _ | exact Ext.here _ _ | exact Ext.all _ | apply Keep.cons | apply Keep.app | apply Keep.last | apply Ext.cons | apply Ext.app)); done)), none, OvOk.start 6, rfl, by first | rfl | (simp only [hLA]; rfl)⟩
  · rw [if_neg (by omega)] at hD
    generalize hLA : sA.L br = LA at *
    generalize hLS : s.L br = LS at *
    repeat' (first | (apply R.is1; first | (apply R.isBin; first | (apply R.pure; exact rfl; first | (apply Ok1.add64; exact rfl; exact rfl; omega; omega) | (apply Ok1.lss_t; exact rfl; exact rfl; omega) | (apply Ok1.lss_f; exact rfl; exact rfl; omega) | (apply Ok1.gtr_t; exact rfl; exact rfl; omega) | (apply Ok1.gtr_f; exact rfl; exact rfl; omega) | (apply Ok1.neq_t; exact rfl; exact rfl; omega) | (apply Ok1.neq_f; exact rfl; exact rfl; omega) | (apply Ok1.neqP; (iterate 5 exact rfl)) | (apply Ok1.neqM; (iterate 5 exact rfl)) | (apply Ok1.neqS; (iterate 5 exact rfl))) | (apply R.lss rfl rfl rfl <;> intro) | (apply R.gtr rfl rfl rfl <;> intro) | (apply R.neq rfl rfl rfl <;> intro) | (apply R.neqF; (iterate 8 exact rfl); all_goals intro)) | (apply R.isCall; first | (apply R.callE (Li := LS) (vs := [.pointer (some ⟨br, 0, none⟩), .int .i64 0]); (iterate 3 exact rfl); (focus ((repeat' (first | exact Ext.none _ | exact Ext.one _ _ | exact Ext.here _ _ | exact Ext.all _ | apply Ext.cons | apply Ext.app | apply Ext.two)); done)); intro w1 hw1; exact h1 w1 (hs.chg hw1.chg hbl0); rintro v Lo ⟨rfl, hq⟩; rw [hq]; clear hq)) | (apply R.pure; exact rfl; first | (apply Ok1.move; exact rfl) | (apply Ok1.load; exact rfl; first | (apply Ld.own1; exact rfl; exact rfl; (focus ((repeat' (first | exact At.head | apply At.tail | apply At.right)); done)); exact rfl) | (apply Ld.ownk; exact rfl; exact rfl; (focus ((repeat' (first | exact At.head | apply At.tail | apply At.right)); done)); exact rfl) | (apply Ld.old1; exact rfl; exact rfl; assumption; (first | exact List.not_mem_nil | assumption)) | (apply Ld.blk1; exact rfl; exact rfl; assumption; (first | exact List.not_mem_nil | assumption); exact rfl) | (apply Ld.blkk; exact rfl; exact rfl; assumption; (first | exact List.not_mem_nil | assumption); exact rfl)) | (apply Ok1.assign; exact rfl) | (apply Ok1.extract; exact rfl; exact rfl)) | (apply R.alloc; (iterate 3 exact rfl); intro) | (apply R.buildSlice; (iterate 12 exact rfl); intro)) | (apply R.is0; first | (apply R.store; (iterate 6 exact rfl); (focus ((repeat' (first | exact Upd.head | apply Upd.tail | apply Upd.right)); done)); exact rfl) | fail) | (apply R.isG; first | (apply R.guard_run; exact rfl; exact rfl) | (apply R.guard_not; (iterate 3 exact rfl)) | (apply R.guard_not0; exact rfl; exact rfl) | (apply R.guard_un; (iterate 3 exact rfl)) | (apply R.guard_un0; exact rfl; exact rfl) | (apply R.guard rfl rfl ?_ (fun h => ⟨rfl, ?_⟩) <;> try intro)) | apply R.nil | (apply T.is; first | apply T.seq | apply T.region | apply T.block | apply T.scope | apply T.label | apply T.skip | apply T.exit | apply T.ret | (apply T.cond_t; exact rfl) | (apply T.cond_f; exact rfl) | (apply T.cond_h; exact rfl; assumption) | (apply T.cond_n; exact rfl; assumption) | (apply T.cond rfl <;> intro)) | apply Rnd.step)
    apply T.loopK (α := Nat × List Rm × Ov × Rs) (I := fun y => y.2.1.length + y.1 = n ∧ OvOk 6 y.2.2.1 y.2.1.length (fl Rm.v y.2.1) ∧ y.2.2.2.ok br w ∧ (y.2.1 ≠ [] → y.2.2.2.e = 0) ∧ rdMl n sA = combM y.2.1 (rdMl y.1 y.2.2.2)) (σi := fun y => [(0, .pointer (some ⟨br, 0, none⟩)), (5, slV y.2.2.1 y.2.1.length), (12, .int .i64 n), (13, .int .i64 y.2.1.length)]) (Li := fun y => blkL 111 y.2.2.1 (fl Rm.v y.2.1) ++ y.2.2.2.L br) (μ := fun y => y.1) (i0 := (n, [], none, sA))
    · exact ⟨by simp, OvOk.start 6, oA, fun h => absurd rfl h, (combM_nil n sA).symm⟩
    · exact ⟨rfl, rfl, rfl, rfl, trivial⟩
    · simp only [hLA]
      show Keep _ LA
      (focus ((repeat' (first | exact Keep.nil _ | exact Ext.one _ _ | exact Ext.here _ _ | exact Ext.all _ | apply Keep.cons | apply Keep.app | apply Keep.last | apply Ext.cons | apply Ext.app)); done))
    · rintro ⟨k, xs, ov, t⟩ ⟨hk, hov, ht, hte, hcb⟩
      simp only at hk hov ht hte hcb ⊢
      rcases Nat.eq_zero_or_pos k with h0 | hpos
      · subst h0
        have hxn : (xs.length : Int) = n := by omega
        have hre := fun w1 h => rerr_ok br t w1 h
        have hm3 : (br, Obj.cells ⟨[.slice t.q t.xs.length t.cap, .int .i64 t.e]⟩ 173 (0, 0)) ∈ t.L br := by simp [Rs.L]
        have hf : rdMl n sA = (xs, 0, t) := by rw [hcb]; simp [rdMl, combM]
        rw [hf, if_neg (fun h => h rfl)] at hD
        simp only at hD
        subst hD
        simp only
        generalize hL3 : t.L br = L3 at *
        repeat' (first | (apply R.is1; first | (apply R.isBin; first | (apply R.pure; exact rfl; first | (apply Ok1.add64; exact rfl; exact rfl; omega; omega) | (apply Ok1.lss_t; exact rfl; exact rfl; omega) | (apply Ok1.lss_f; exact rfl; exact rfl; omega) | (apply Ok1.gtr_t; exact rfl; exact rfl; omega) | (apply Ok1.gtr_f; exact rfl; exact rfl; omega) | (apply Ok1.neq_t; exact rfl; exact rfl; omega) | (apply Ok1.neq_f; exact rfl; exact rfl; omega) | (apply Ok1.neqP; (iterate 5 exact rfl)) | (apply Ok1.neqM; (iterate 5 exact rfl)) | (apply Ok1.neqS; (iterate 5 exact rfl))) | (apply R.lss rfl rfl rfl <;> intro) | (apply R.gtr rfl rfl rfl <;> intro) | (apply R.neq rfl rfl rfl <;> intro) | (apply R.neqF; (iterate 8 exact rfl); all_goals intro)) | (apply R.isCall; first | (apply R.callV (vs := [.pointer (some ⟨br, 0, none⟩)]); (iterate 3 exact rfl); intro w1 hw1; exact hre w1 (hw1.get _ _ (Ext.mem (s := L3) (by (focus ((repeat' (first | exact Ext.none _ | exact Ext.one _ _ | exact Ext.here _ _ | exact Ext.all _ | apply Ext.cons | apply Ext.app | apply Ext.two)); done))) _ hm3)))) | (apply R.pure; exact rfl; first | (apply Ok1.move; exact rfl) | (apply Ok1.load; exact rfl; first | (apply Ld.own1; exact rfl; exact rfl; (focus ((repeat' (first | exact At.head | apply At.tail | apply At.right)); done)); exact rfl) | (apply Ld.ownk; exact rfl; exact rfl; (focus ((repeat' (first | exact At.head | apply At.tail | apply At.right)); done)); exact rfl) | (apply Ld.old1; exact rfl; exact rfl; assumption; (first | exact List.not_mem_nil | assumption)) | (apply Ld.blk1; exact rfl; exact rfl; assumption; (first | exact List.not_mem_nil | assumption); exact rfl) | (apply Ld.blkk; exact rfl; exact rfl; assumption; (first | exact List.not_mem_nil | assumption); exact rfl)) | (apply Ok1.assign; exact rfl) | (apply Ok1.extract; exact rfl; exact rfl)) | (apply R.alloc; (iterate 3 exact rfl); intro) | (apply R.buildSlice; (iterate 12 exact rfl); intro)) | (apply R.is0; first | (apply R.store; (iterate 6 exact rfl); (focus ((repeat' (first | exact Upd.head | apply Upd.tail | apply Upd.right)); done)); exact rfl) | fail) | (apply R.isG; first | (apply R.guard_run; exact rfl; exact rfl) | (apply R.guard_not; (iterate 3 exact rfl)) | (apply R.guard_not0; exact rfl; exact rfl) | (apply R.guard_un; (iterate 3 exact rfl)) | (apply R.guard_un0; exact rfl; exact rfl) | (apply R.guard rfl rfl ?_ (fun h => ⟨rfl, ?_⟩) <;> try intro)) | apply R.nil | (apply T.is; first | apply T.seq | apply T.region | apply T.block | apply T.scope | apply T.label | apply T.skip | apply T.exit | apply T.ret | (apply T.cond_t; exact rfl) | (apply T.cond_f; exact rfl) | (apply T.cond_h; exact rfl; assumption) | (apply T.cond_n; exact rfl; assumption) | (apply T.cond rfl <;> intro)) | apply Rnd.step)
        all_goals (apply RetOk.tt; exact rfl; exact rfl)
        all_goals exact ⟨_, by (focus ((repeat' (first | exact Keep.nil _ | exact Ext.one _ _ | exact Ext.here _ _ | exact Ext.all _ | apply Keep.cons | apply Keep.app | apply Keep.last | apply Ext.cons | apply Ext.app)); done)), ov, hov, rfl, rfl⟩
      · obtain ⟨k', rfl⟩ : ∃ k', k = k' + 1 := ⟨k - 1, by omega⟩
        have hone := fun w1 h => one_ok br t w1 h
        have ht3 := ht.o3
        by_cases he : (rd1 t).2 = 0
        · have hcb2 := hcb.trans (combM_ok xs k' t he)
          have hte3 := rd1_e he
          generalize (rd1 t).1 = x at *
          rw [he] at hone
          generalize hL3 : t.L br = L3 at *
          generalize hL4 : t.o3.L br = L4 at *
          generalize t.o3 = t3 at *
          repeat' (first | (apply R.is1; first | (apply R.isBin; first | (apply R.pure; exact rfl; first | (apply Ok1.add64; exact rfl; exact rfl; omega; omega) | (apply Ok1.lss_t; exact rfl; exact rfl; omega) | (apply Ok1.lss_f; exact rfl; exact rfl; omega) | (apply Ok1.gtr_t; exact rfl; exact rfl; omega) | (apply Ok1.gtr_f; exact rfl; exact rfl; omega) | (apply Ok1.neq_t; exact rfl; exact rfl; omega) | (apply Ok1.neq_f; exact rfl; exact rfl; omega) | (apply Ok1.neqP; (iterate 5 exact rfl)) | (apply Ok1.neqM; (iterate 5 exact rfl)) | (apply Ok1.neqS; (iterate 5 exact rfl))) | (apply R.lss rfl rfl rfl <;> intro) | (apply R.gtr rfl rfl rfl <;> intro) | (apply R.neq rfl rfl rfl <;> intro) | (apply R.neqF; (iterate 8 exact rfl); all_goals intro)) | (apply R.isCall; first | (apply R.callE (Li := L3) (vs := [.pointer (some ⟨br, 0, none⟩)]); (iterate 3 exact rfl); (focus ((repeat' (first | exact Ext.none _ | exact Ext.one _ _ | exact Ext.here _ _ | exact Ext.all _ | apply Ext.cons | apply Ext.app | apply Ext.two)); done)); intro w1 hw1; exact hone w1 (ht.chg hw1.chg hbl0); rintro v Lo ⟨rfl, hq⟩; rw [hq]; clear hq; simp only [Rm.v]) | (apply R.append1; (iterate 12 exact rfl); (focus ((repeat' (first | exact OwnAt.mid hov | exact OwnAt.base hov | exact OwnAt.nil _ | apply OwnAt.tail | apply OwnAt.right)); done)); (focus ((repeat' (first | exact At.head | apply At.tail | apply At.right)); done)); exact rfl; exact rfl; omega; omega; intro b2 j2 k2 hj2)) | (apply R.pure; exact rfl; first | (apply Ok1.move; exact rfl) | (apply Ok1.load; exact rfl; first | (apply Ld.own1; exact rfl; exact rfl; (focus ((repeat' (first | exact At.head | apply At.tail | apply At.right)); done)); exact rfl) | (apply Ld.ownk; exact rfl; exact rfl; (focus ((repeat' (first | exact At.head | apply At.tail | apply At.right)); done)); exact rfl) | (apply Ld.old1; exact rfl; exact rfl; assumption; (first | exact List.not_mem_nil | assumption)) | (apply Ld.blk1; exact rfl; exact rfl; assumption; (first | exact List.not_mem_nil | assumption); exact rfl) | (apply Ld.blkk; exact rfl; exact rfl; assumption; (first | exact List.not_mem_nil | assumption); exact rfl)) | (apply Ok1.assign; exact rfl) | (apply Ok1.extract; exact rfl; exact rfl)) | (apply R.alloc; (iterate 3 exact rfl); intro) | (apply R.buildSlice; (iterate 12 exact rfl); intro)) | (apply R.is0; first | (apply R.store; (iterate 6 exact rfl); (focus ((repeat' (first | exact Upd.head | apply Upd.tail | apply Upd.right)); done)); exact rfl) | fail) | (apply R.isG; first | (apply R.guard_run; exact rfl; exact rfl) | (apply R.guard_not; (iterate 3 exact rfl)) | (apply R.guard_not0; exact rfl; exact rfl) | (apply R.guard_un; (iterate 3 exact rfl)) | (apply R.guard_un0; exact rfl; exact rfl) | (apply R.guard rfl rfl ?_ (fun h => ⟨rfl, ?_⟩) <;> try intro)) | apply R.nil | (apply T.is; first | apply T.seq | apply T.region | apply T.block | apply T.scope | apply T.label | apply T.skip | apply T.exit | apply T.ret | (apply T.cond_t; exact rfl) | (apply T.cond_f; exact rfl) | (apply T.cond_h; exact rfl; assumption) | (apply T.cond_n; exact rfl; assumption) | (apply T.cond rfl <;> intro)) | apply Rnd.step)
          refine ⟨(k', xs ++ [x], some (b2, j2, k2), t3), ?_⟩
          simp only [hL4, List.length_append, List.length_singleton, fl_snoc]
          exact ⟨⟨by omega, OvOk.some (b := b2) hov (m := 1) rfl hj2, ht3, fun _ => hte3, hcb2⟩, by omega, ⟨rfl, rfl, rfl, rfl, trivial⟩, by simp only [blkL]; (focus ((repeat' (first | exact Keep.nil _ | exact Ext.one _ _ | exact Ext.here _ _ | exact Ext.all _ | apply Keep.cons | apply Keep.app | apply Keep.last | apply Ext.cons | apply Ext.app)); done))⟩
        · have hcb2 := hcb.trans (combM_bad xs k' t he)
          rw [hcb2, if_pos he] at hD
          subst hD
          generalize (rd1 t).1 = x at *
          generalize (rd1 t).2 = e at *
          generalize hL3 : t.L br = L3 at *
          generalize hL4 : t.o3.L br = L4 at *
          repeat' (first | (apply R.is1; first | (apply R.isBin; first | (apply R.pure; exact rfl; first | (apply Ok1.add64; exact rfl; exact rfl; omega; omega) | (apply Ok1.lss_t; exact rfl; exact rfl; omega) | (apply Ok1.lss_f; exact rfl; exact rfl; omega) | (apply Ok1.gtr_t; exact rfl; exact rfl; omega) | (apply Ok1.gtr_f; exact rfl; exact rfl; omega) | (apply Ok1.neq_t; exact rfl; exact rfl; omega) | (apply Ok1.neq_f; exact rfl; exact rfl; omega) | (apply Ok1.neqP; (iterate 5 exact rfl)) | (apply Ok1.neqM; (iterate 5 exact rfl)) | (apply Ok1.neqS; (iterate 5 exact rfl))) | (apply R.lss rfl rfl rfl <;> intro) | (apply R.gtr rfl rfl rfl <;> intro) | (apply R.neq rfl rfl rfl <;> intro) | (apply R.neqF; (iterate 8 exact rfl); all_goals intro)) | (apply R.isCall; first | (apply R.callE (Li := L3) (vs := [.pointer (some ⟨br, 0, none⟩)]); (iterate 3 exact rfl); (focus ((repeat' (first | exact Ext.none _ | exact Ext.one _ _ | exact Ext.here _ _ | exact Ext.all _ | apply Ext.cons | apply Ext.app | apply Ext.two)); done)); intro w1 hw1; exact hone w1 (ht.chg hw1.chg hbl0); rintro v Lo ⟨rfl, hq⟩; rw [hq]; clear hq; simp only [Rm.v])) | (apply R.pure; exact rfl; first | (apply Ok1.move; exact rfl) | (apply Ok1.load; exact rfl; first | (apply Ld.own1; exact rfl; exact rfl; (focus ((repeat' (first | exact At.head | apply At.tail | apply At.right)); done)); exact rfl) | (apply Ld.ownk; exact rfl; exact rfl; (focus ((repeat' (first | exact At.head | apply At.tail | apply At.right)); done)); exact rfl) | (apply Ld.old1; exact rfl; exact rfl; assumption; (first | exact List.not_mem_nil | assumption)) | (apply Ld.blk1; exact rfl; exact rfl; assumption; (first | exact List.not_mem_nil | assumption); exact rfl) | (apply Ld.blkk; exact rfl; exact rfl; assumption; (first | exact List.not_mem_nil | assumption); exact rfl)) | (apply Ok1.assign; exact rfl) | (apply Ok1.extract; exact rfl; exact rfl)) | (apply R.alloc; (iterate 3 exact rfl); intro) | (apply R.buildSlice; (iterate 12 exact rfl); intro)) | (apply R.is0; first | (apply R.store; (iterate 6 exact rfl); (focus ((repeat' (first | exact Upd.head | apply Upd.tail | apply Upd.right)); done)); exact rfl) | fail) | (apply R.isG; first | (apply R.guard_run; exact rfl; exact rfl) | (apply R.guard_not; (iterate 3 exact rfl)) | (apply R.guard_not0; exact rfl; exact rfl) | (apply R.guard_un; (iterate 3 exact rfl)) | (apply R.guard_un0; exact rfl; exact rfl) | (apply R.guard rfl rfl ?_ (fun h => ⟨rfl, ?_⟩) <;> try intro)) | apply R.nil | (apply T.is; first | apply T.seq | apply T.region | apply T.block | apply T.scope | apply T.label | apply T.skip | apply T.exit | apply T.ret | (apply T.cond_t; exact rfl) | (apply T.cond_f; exact rfl) | (apply T.cond_h; exact rfl; assumption) | (apply T.cond_n; exact rfl; assumption) | (apply T.cond rfl <;> intro)) | apply Rnd.step)
          all_goals (apply RetOk.tt; exact rfl; exact rfl)
          all_goals exact ⟨L4, by (focus ((repeat' (first | exact Keep.nil _ | exact Ext.one _ _ | exact Ext.here _ _ | exact Ext.all _ | apply Keep.cons | apply Keep.app | apply Keep.last | apply Ext.cons | apply Ext.app)); done)), none, OvOk.start 6, rfl, by first | rfl | (simp only [hL4]; rfl)⟩
end Go.Proofs.YtplhnkmmhndkjaaGreat
set_option linter.unusedSimpArgs false
set_option linter.unusedVariables false
namespace Go.Proofs.YtplhnkmmhndkjaaGreat
open Go.RowKit Go.Shelf
set_option maxRecDepth 100000
def rdCl : Nat → Rs → List Cl × Int × Rs
  | 0, s => ([], 0, s)
  | k + 1, s => if (rdC s).2 ≠ 0 then ([], (rdC s).2, s.c4) else if (rdCl k s.c4).2.1 ≠ 0 then ([], (rdCl k s.c4).2) else ((rdC s).1 :: (rdCl k s.c4).1, (rdCl k s.c4).2)
def combC (xs : List Cl) (r : List Cl × Int × Rs) : List Cl × Int × Rs := if r.2.1 ≠ 0 then ([], r.2) else (xs ++ r.1, r.2)
theorem combC_nil (k : Nat) (s : Rs) : combC [] (rdCl k s) = rdCl k s := by
  unfold combC
  split
  · rename_i h
    cases k with
    | zero => exact absurd rfl h
    | succ k =>
      simp only [rdCl] at h ⊢
      split
      · rfl
      · split
        · rfl
        · rename_i h1 h2
          rw [if_neg h1, if_neg h2] at h
          exact absurd h h2
  · simp
theorem combC_bad (xs : List Cl) (k : Nat) (s : Rs) (h : (rdC s).2 ≠ 0) : combC xs (rdCl (k + 1) s) = ([], (rdC s).2, s.c4) := by
  simp only [rdCl]
  rw [if_pos h]
  unfold combC
  rw [if_pos h]
theorem combC_ok (xs : List Cl) (k : Nat) (s : Rs) (h : (rdC s).2 = 0) : combC xs (rdCl (k + 1) s) = combC (xs ++ [(rdC s).1]) (rdCl k s.c4) := by
  by_cases h2 : (rdCl k s.c4).2.1 = 0 <;> simp [rdCl, combC, h, h2]
/-- What join.Read answers of a reader. -/
def rdR (s : Rs) : List Cl × Int × Rs := rdCl (s.num 1).1.toNat s.o1
def rdJ (s : Rs) : List Cl × Int :=
  if (rdR s).2.1 ≠ 0 then ([], (rdR s).2.1) else if (rdR s).2.2.fin ≠ 0 then ([], (rdR s).2.2.fin) else if ¬ (rdR s).1.Nodup ∨ 16 < (rdR s).1.length then ([], 3) else ((rdR s).1, 0)
theorem RsO.c4 {s : Rs} {M : Lst} (h : RsO s M) : RsO s.c4 M := (((h.num 2).num 1).num 4).num 2
theorem jread_ok (p : Option Addr) (n cap : Nat) (xs : List Int) (hn : n = xs.length) (hbig : n ≤ 1000000000) (hb : Byt xs) (w : World) (hp : RdSl w p u8V xs) :
    CallM Tryz.prog 56 [.slice p n cap] [] w fun v L => ∃ s ov, s.xs = (if n ≤ 1024 then xs else []) ∧ s.e = (if n ≤ 1024 then 0 else 2) ∧ OvOk 4 ov (rdJ s).1.length (fl Cl.v (rdJ s).1) ∧ v = .tuple #[slV ov (rdJ s).1.length, .int .i64 (rdJ s).2] ∧ L = blkL 71 ov (fl Cl.v (rdJ s).1) := by
  have hnew := fun w1 (hc : Chg [] w w1) => rnewr_ok p n cap xs hn hbig hb w1 (hp.chg' hc (fun _ => Off.nil _))
  refine enterK (tb := tb) Tryz.func56 rfl Tryz.ntmps56 rfl ?_
  repeat' (first | (apply R.is1; first | (apply R.isCall; (apply R.callE (vs := [.slice p n cap]); (iterate 3 exact rfl); exact Ext.none _; intro w1 hw1; exact hnew w1 hw1.chg; rintro v Lo ⟨br, s, M, rfl, hs1, hs2, hso, rfl⟩; rw [List.append_assoc])) | (apply R.pure; exact rfl; first | (apply Ok1.move; exact rfl) | (apply Ok1.assign; exact rfl))) | apply R.nil | (apply T.is; first | apply T.seq | apply T.region))
  obtain ⟨N, hN, hN2⟩ := num1_rng hso.byt
  have hsk := hso.ok' br
  have hnum := fun w1 h1 => rnum_ok br s 0 1 (by decide) rfl w1 h1
  rw [hN] at hnum
  have oA : RsO s.o1 M := hso.num 1
  replace hnum : ∀ w1, s.ok br w1 → CallM Tryz.prog 90 [.pointer (some ⟨br, 0, none⟩), .int .i64 0] (s.L br) w1 fun v L => v = .int .i64 N ∧ L = s.o1.L br := hnum
  generalize hLS : s.L br = LS at *
  generalize hLA : s.o1.L br = LA at *
  repeat' (first | (apply R.is1; first | (apply R.isCall; (apply R.callE (Li := LS) (vs := [.pointer (some ⟨br, 0, none⟩), .int .i64 0]); (iterate 3 exact rfl); (focus ((repeat' (exact Ext.here _ _)); done)); intro w1 hw1; exact hnum w1 (hsk _ _ _ _ _ hw1 (by (focus ((repeat' (exact Ext.here _ _)); done))) (Ext.mem (by (focus ((repeat' (exact Ext.here _ _)); done))))); rintro v Lo ⟨rfl, hq⟩; rw [hq]; clear hq)) | (apply R.pure; exact rfl; (apply Ok1.move; exact rfl))) | apply R.nil | (apply T.is; apply T.block))
  have hR : rdR s = rdCl N s.o1 := by unfold rdR; rw [hN]; rfl
  have hJ : rdJ s = if (rdR s).2.1 ≠ 0 then ([], (rdR s).2.1) else if (rdR s).2.2.fin ≠ 0 then ([], (rdR s).2.2.fin) else if ¬ (rdR s).1.Nodup ∨ 16 < (rdR s).1.length then ([], 3) else ((rdR s).1, 0) := rfl
  apply T.loopK (α := Nat × List Cl × Ov × Rs) (I := fun y => y.2.1.length + y.1 = N ∧ OvOk 4 y.2.2.1 y.2.1.length (fl Cl.v y.2.1) ∧ RsO y.2.2.2 M ∧ rdR s = combC y.2.1 (rdCl y.1 y.2.2.2)) (σi := fun y => [(4, .pointer (some ⟨br, 0, none⟩)), (5, slV y.2.2.1 y.2.1.length), (12, .int .i64 N), (13, .int .i64 y.2.1.length)]) (Li := fun y => blkL 71 y.2.2.1 (fl Cl.v y.2.1) ++ (y.2.2.2.L br ++ M)) (μ := fun y => y.1) (i0 := (N, [], none, s.o1))
  · exact ⟨by simp, OvOk.start 4, oA, by rw [hR, combC_nil]⟩
  · exact ⟨rfl, rfl, rfl, rfl, trivial⟩
  · simp only [hLA]
    show Keep _ (LA ++ M)
    (focus ((repeat' (first | exact Ext.here _ _ | apply Keep.app | apply Keep.last)); done))
  · rintro ⟨k, cs, ov, t⟩ ⟨hk, hov, ht, hcb⟩
    simp only at hk hov ht hcb ⊢
    have htk := ht.ok' br
    rcases Nat.eq_zero_or_pos k with h0 | hpos
    · subst h0
      have hxn : (cs.length : Int) = N := by omega
      have hend := fun w1 h => rend_ok br t w1 h
      have hm3 : (br, Obj.cells ⟨[.slice t.q t.xs.length t.cap, .int .i64 t.e]⟩ 173 (0, 0)) ∈ t.L br := by simp [Rs.L]
      have hf : rdR s = (cs, 0, t) := by rw [hcb]; simp [rdCl, combC]
      rw [hf, if_neg (fun h => h rfl)] at hJ
      simp only at hJ
      have htw := fun w1 h1 => jtwice_ok (ovp ov) (ovc ov cs.length) cs (by omega) w1 h1
      generalize hL3 : t.L br = L3 at *
      by_cases hfin : t.fin = 0
      · rw [if_neg (fun h => h hfin)] at hJ
        rw [hfin] at hend
        by_cases hnd : cs.Nodup
        · rw [decide_eq_false (p := ¬ cs.Nodup) (fun h => h hnd)] at htw
          rw [← slV_eq hov] at htw
          rcases Nat.lt_or_ge 16 cs.length with h16 | h16
          · rw [if_pos (.inr h16)] at hJ
            repeat' (first | (apply R.is1; first | (apply R.isBin; (apply R.pure; exact rfl; first | (apply Ok1.lss_f; exact rfl; exact rfl; omega) | (apply Ok1.gtr_t; exact rfl; exact rfl; omega) | (apply Ok1.neq_f; exact rfl; exact rfl; omega))) | (apply R.isCall; first | (apply R.callV (vs := [.pointer (some ⟨br, 0, none⟩)]); (iterate 3 exact rfl); intro w1 hw1; exact hend w1 (hw1.get _ _ (Ext.mem (s := L3) (by (focus ((repeat' (first | exact Ext.here _ _ | apply Ext.app)); done))) _ hm3))) | (apply R.callE (vs := [slV ov cs.length, .func (.func 80) #[] #[]]); (iterate 3 exact rfl); exact Ext.none _; intro w1 hw1; exact htw w1 (RdSl.own' hw1 (Ext.mem (by (focus ((repeat' (exact Ext.here _ _)); done)))) hov Cl.v_len4); rintro v Lo ⟨rfl, rfl⟩) | (apply R.pure; exact rfl; apply Ok1.lenOv; (iterate 3 exact rfl); exact hov)) | (apply R.pure; exact rfl; first | (apply Ok1.move; exact rfl) | (apply Ok1.assign; exact rfl) | (apply Ok1.pick_f; exact rfl; exact rfl))) | (apply R.isG; (apply R.guard_run; exact rfl; exact rfl)) | apply R.nil | (apply T.is; first | apply T.seq | apply T.region | apply T.skip | apply T.exit | apply T.ret | (apply T.cond_t; exact rfl) | (apply T.cond_f; exact rfl)))
            all_goals (apply RetOk.tt; exact rfl; exact rfl)
            all_goals exact ⟨[], by (focus ((repeat' (exact Keep.nil _)); done)), s, none, hs1, hs2, by rw [hJ]; exact OvOk.start 4, by rw [hJ]; rfl, by rw [hJ]; rfl⟩
          · rw [if_neg (fun h => h.elim (fun h => h hnd) (fun h => by omega))] at hJ
            repeat' (first | (apply R.is1; first | (apply R.isBin; (apply R.pure; exact rfl; first | (apply Ok1.lss_f; exact rfl; exact rfl; omega) | (apply Ok1.gtr_f; exact rfl; exact rfl; omega) | (apply Ok1.neq_f; exact rfl; exact rfl; omega))) | (apply R.isCall; first | (apply R.callV (vs := [.pointer (some ⟨br, 0, none⟩)]); (iterate 3 exact rfl); intro w1 hw1; exact hend w1 (hw1.get _ _ (Ext.mem (s := L3) (by (focus ((repeat' (first | exact Ext.here _ _ | apply Ext.app)); done))) _ hm3))) | (apply R.callE (vs := [slV ov cs.length, .func (.func 80) #[] #[]]); (iterate 3 exact rfl); exact Ext.none _; intro w1 hw1; exact htw w1 (RdSl.own' hw1 (Ext.mem (by (focus ((repeat' (exact Ext.here _ _)); done)))) hov Cl.v_len4); rintro v Lo ⟨rfl, rfl⟩) | (apply R.pure; exact rfl; apply Ok1.lenOv; (iterate 3 exact rfl); exact hov)) | (apply R.pure; exact rfl; first | (apply Ok1.move; exact rfl) | (apply Ok1.assign; exact rfl) | (apply Ok1.pick_f; exact rfl; exact rfl))) | (apply R.isG; (apply R.guard_run; exact rfl; exact rfl)) | apply R.nil | (apply T.is; first | apply T.seq | apply T.region | apply T.skip | apply T.exit | apply T.ret | (apply T.cond_f; exact rfl)))
            all_goals (apply RetOk.tt; exact rfl; exact rfl)
            all_goals exact ⟨blkL 71 ov (fl Cl.v cs), by (focus ((repeat' (first | exact Ext.here _ _ | apply Keep.last | apply Ext.app)); done)), s, ov, hs1, hs2, by rw [hJ]; exact hov, by rw [hJ], by rw [hJ]⟩
        · rw [decide_eq_true (p := ¬ cs.Nodup) hnd] at htw
          rw [← slV_eq hov] at htw
          rw [if_pos (.inl hnd)] at hJ
          repeat' (first | (apply R.is1; first | (apply R.isBin; (apply R.pure; exact rfl; first | (apply Ok1.lss_f; exact rfl; exact rfl; omega) | (apply Ok1.neq_f; exact rfl; exact rfl; omega))) | (apply R.isCall; first | (apply R.callV (vs := [.pointer (some ⟨br, 0, none⟩)]); (iterate 3 exact rfl); intro w1 hw1; exact hend w1 (hw1.get _ _ (Ext.mem (s := L3) (by (focus ((repeat' (first | exact Ext.here _ _ | apply Ext.app)); done))) _ hm3))) | (apply R.callE (vs := [slV ov cs.length, .func (.func 80) #[] #[]]); (iterate 3 exact rfl); exact Ext.none _; intro w1 hw1; exact htw w1 (RdSl.own' hw1 (Ext.mem (by (focus ((repeat' (exact Ext.here _ _)); done)))) hov Cl.v_len4); rintro v Lo ⟨rfl, rfl⟩)) | (apply R.pure; exact rfl; first | (apply Ok1.move; exact rfl) | (apply Ok1.assign; exact rfl) | (apply Ok1.pick_t; exact rfl; exact rfl))) | (apply R.isG; (apply R.guard_not; (iterate 3 exact rfl))) | apply R.nil | (apply T.is; first | apply T.seq | apply T.region | apply T.skip | apply T.exit | apply T.ret | (apply T.cond_t; exact rfl) | (apply T.cond_f; exact rfl)))
          all_goals (apply RetOk.tt; exact rfl; exact rfl)
          all_goals exact ⟨[], by (focus ((repeat' (exact Keep.nil _)); done)), s, none, hs1, hs2, by rw [hJ]; exact OvOk.start 4, by rw [hJ]; rfl, by rw [hJ]; rfl⟩
      · rw [if_pos hfin] at hJ
        repeat' (first | (apply R.is1; first | (apply R.isBin; (apply R.pure; exact rfl; first | (apply Ok1.lss_f; exact rfl; exact rfl; omega) | (apply Ok1.neq_t; exact rfl; exact rfl; omega))) | (apply R.isCall; (apply R.callV (vs := [.pointer (some ⟨br, 0, none⟩)]); (iterate 3 exact rfl); intro w1 hw1; exact hend w1 (hw1.get _ _ (Ext.mem (s := L3) (by (focus ((repeat' (first | exact Ext.here _ _ | apply Ext.app)); done))) _ hm3)))) | (apply R.pure; exact rfl; first | (apply Ok1.move; exact rfl) | (apply Ok1.assign; exact rfl))) | apply R.nil | (apply T.is; first | apply T.seq | apply T.region | apply T.exit | apply T.ret | (apply T.cond_t; exact rfl) | (apply T.cond_f; exact rfl)))
        all_goals (apply RetOk.tt; exact rfl; exact rfl)
        all_goals exact ⟨[], by (focus ((repeat' (exact Keep.nil _)); done)), s, none, hs1, hs2, by rw [hJ]; exact OvOk.start 4, by rw [hJ]; rfl, by rw [hJ]; rfl⟩
    · obtain ⟨k', rfl⟩ : ∃ k', k = k' + 1 := ⟨k - 1, by omega⟩
      have hone := fun w1 h => cread_ok br t w1 h
      have ht3 := ht.c4
      by_cases he : (rdC t).2 = 0
      · have hcb2 := hcb.trans (combC_ok cs k' t he)
        generalize (rdC t).1 = x at *
        rw [he] at hone
        generalize hL3 : t.L br = L3 at *
        generalize hL4 : t.c4.L br = L4 at *
        generalize t.c4 = t3 at *
        repeat' (first | (apply R.is1; first | (apply R.isBin; (apply R.pure; exact rfl; first | (apply Ok1.add64; exact rfl; exact rfl; omega; omega) | (apply Ok1.lss_t; exact rfl; exact rfl; omega) | (apply Ok1.neq_f; exact rfl; exact rfl; omega))) | (apply R.isCall; first | (apply R.callE (Li := L3) (vs := [.pointer (some ⟨br, 0, none⟩)]); (iterate 3 exact rfl); (focus ((repeat' (first | exact Ext.here _ _ | apply Ext.app)); done)); intro w1 hw1; exact hone w1 (htk _ _ _ _ _ hw1 (by (focus ((repeat' (first | exact Ext.here _ _ | apply Ext.app)); done))) (Ext.mem (by (focus ((repeat' (first | exact Ext.all _ | apply Ext.app)); done))))); rintro v Lo ⟨rfl, hq⟩; rw [hq]; clear hq; simp only [kvC]) | (apply R.append1; (iterate 12 exact rfl); (focus ((repeat' (first | exact OwnAt.mid hov | apply OwnAt.tail | apply OwnAt.right)); done)); exact At.head; exact rfl; exact rfl; omega; omega; intro b2 j2 k2 hj2)) | (apply R.pure; exact rfl; first | (apply Ok1.move; exact rfl) | (apply Ok1.load; exact rfl; (apply Ld.ownk; exact rfl; exact rfl; exact At.head; exact rfl)) | (apply Ok1.assign; exact rfl) | (apply Ok1.extract; exact rfl; exact rfl)) | (apply R.alloc; (iterate 3 exact rfl); intro) | (apply R.buildSlice; (iterate 12 exact rfl); intro)) | (apply R.is0; (apply R.store; (iterate 6 exact rfl); exact Upd.head; exact rfl)) | apply R.nil | (apply T.is; first | apply T.seq | apply T.region | apply T.block | apply T.skip | (apply T.cond_t; exact rfl) | (apply T.cond_f; exact rfl)))
        refine ⟨(k', cs ++ [x], some (b2, j2, k2), t3), ?_⟩
        simp only [hL4, List.length_append, List.length_singleton, fl_snoc]
        exact ⟨⟨by omega, OvOk.some (b := b2) hov (m := 1) rfl hj2, ht3, hcb2⟩, by omega, ⟨rfl, rfl, rfl, rfl, trivial⟩, by simp only [blkL, List.cons_append, List.nil_append]; (focus ((repeat' (first | exact Ext.one _ _ | exact Ext.here _ _ | exact Ext.all _ | apply Keep.cons | apply Keep.app | apply Keep.last | apply Ext.cons)); done))⟩
      · have hcb2 := hcb.trans (combC_bad cs k' t he)
        rw [hcb2, if_pos he] at hJ
        simp only at hJ
        generalize (rdC t).1 = x at *
        generalize (rdC t).2 = e at *
        generalize hL3 : t.L br = L3 at *
        generalize hL4 : t.c4.L br = L4 at *
        repeat' (first | (apply R.is1; first | (apply R.isBin; (apply R.pure; exact rfl; first | (apply Ok1.lss_t; exact rfl; exact rfl; omega) | (apply Ok1.neq_t; exact rfl; exact rfl; omega))) | (apply R.isCall; (apply R.callE (Li := L3) (vs := [.pointer (some ⟨br, 0, none⟩)]); (iterate 3 exact rfl); (focus ((repeat' (first | exact Ext.here _ _ | apply Ext.app)); done)); intro w1 hw1; exact hone w1 (htk _ _ _ _ _ hw1 (by (focus ((repeat' (first | exact Ext.here _ _ | apply Ext.app)); done))) (Ext.mem (by (focus ((repeat' (first | exact Ext.all _ | apply Ext.app)); done))))); rintro v Lo ⟨rfl, hq⟩; rw [hq]; clear hq; simp only [kvC])) | (apply R.pure; exact rfl; first | (apply Ok1.move; exact rfl) | (apply Ok1.assign; exact rfl) | (apply Ok1.extract; exact rfl; exact rfl)) | (apply R.alloc; (iterate 3 exact rfl); intro)) | (apply R.is0; (apply R.store; (iterate 6 exact rfl); exact Upd.head; exact rfl)) | apply R.nil | (apply T.is; first | apply T.seq | apply T.region | apply T.block | apply T.skip | apply T.ret | (apply T.cond_t; exact rfl)))
        all_goals (apply RetOk.tt; exact rfl; exact rfl)
        all_goals exact ⟨[], by (focus ((repeat' (exact Keep.nil _)); done)), s, none, hs1, hs2, by rw [hJ]; exact OvOk.start 4, by rw [hJ]; rfl, by rw [hJ]; rfl⟩
end Go.Proofs.YtplhnkmmhndkjaaGreat
set_option linter.unusedSimpArgs false
set_option linter.unusedVariables false
namespace Go.Proofs.YtplhnkmmhndkjaaGreat
open Go.RowKit Go.Shelf
set_option maxRecDepth 100000
theorem Rs.eqv.c4 {s t : Rs} (h : s.eqv t) : s.c4.eqv t.c4 ∧ s.cv = t.cv := by
  obtain ⟨a1, _, a3⟩ := h.num 2
  obtain ⟨b1, _, b3⟩ := a3.num 1
  obtain ⟨c1, _, c3⟩ := b3.num 4
  obtain ⟨d1, _, d3⟩ := c3.num 2
  exact ⟨d3, by simp only [Rs.cv, Rs.cA, Rs.cB, Rs.cD]; rw [a1, b1, c1, d1]⟩
theorem eqv_rdC {s t : Rs} (h : s.eqv t) : rdC s = rdC t := by
  unfold rdC
  rw [h.c4.2, h.c4.1.2]
theorem Rs.eqv.o3 {s t : Rs} (h : s.eqv t) : s.o3.eqv t.o3 ∧ s.rv = t.rv := by
  obtain ⟨a1, _, a3⟩ := h.num 1
  have a4 : s.o1.eqv t.o1 := a3
  obtain ⟨b1, b2⟩ := a4.c4
  have b3 : s.o2.eqv t.o2 := b1
  obtain ⟨c1, _, c3⟩ := b3.num 4
  exact ⟨c3, by simp only [Rs.rv]; rw [a1, (eqv_rdC a4), c1]⟩
theorem eqv_rd1 {s t : Rs} (h : s.eqv t) : rd1 s = rd1 t := by
  have a4 : s.o1.eqv t.o1 := (h.num 1).2.2
  unfold rd1
  rw [h.o3.2, h.o3.1.2, (eqv_rdC a4)]
theorem eqv_rdMl : ∀ (k : Nat) {s t : Rs}, s.eqv t → (rdMl k s).1 = (rdMl k t).1 ∧ (rdMl k s).2.1 = (rdMl k t).2.1 ∧ (rdMl k s).2.2.eqv (rdMl k t).2.2
  | 0, s, t, h => ⟨rfl, rfl, h⟩
  | k + 1, s, t, h => by
    obtain ⟨h1, h2, h3⟩ := eqv_rdMl k h.o3.1
    by_cases he : (rd1 t).2 = 0 <;> by_cases hf : (rdMl k t.o3).2.1 = 0 <;> simp [rdMl, eqv_rd1 h, he, hf, h1, h2, h3, h.o3.1]
theorem eqv_rdM {s t : Rs} (h : s.eqv t) : (rdM s).1 = (rdM t).1 ∧ (rdM s).2.1 = (rdM t).2.1 ∧ (rdM s).2.2.eqv (rdM t).2.2 := by
  obtain ⟨a1, _, a3⟩ := h.num 1
  have a4 : s.o1.eqv t.o1 := a3
  obtain ⟨h1, h2, h3⟩ := eqv_rdMl (t.num 1).1.toNat a4
  unfold rdM
  rw [a1, h2]
  by_cases h20 : 20 < (t.num 1).1
  · rw [if_pos h20, if_pos h20]; exact ⟨rfl, rfl, a4⟩
  · rw [if_neg h20, if_neg h20]
    by_cases hf : (rdMl (t.num 1).1.toNat t.o1).2.1 = 0
    · rw [if_neg (fun x => x hf), if_neg (fun x => x hf)]
      exact ⟨h1, h3.2, h3⟩
    · rw [if_pos hf, if_pos hf]
      exact ⟨rfl, h2, h3⟩
theorem eqv_rdCl : ∀ (k : Nat) {s t : Rs}, s.eqv t → (rdCl k s).1 = (rdCl k t).1 ∧ (rdCl k s).2.1 = (rdCl k t).2.1 ∧ (rdCl k s).2.2.eqv (rdCl k t).2.2
  | 0, s, t, h => ⟨rfl, rfl, h⟩
  | k + 1, s, t, h => by
    obtain ⟨h1, h2, h3⟩ := eqv_rdCl k h.c4.1
    by_cases he : (rdC t).2 = 0 <;> by_cases hf : (rdCl k t.c4).2.1 = 0 <;> simp [rdCl, eqv_rdC h, he, hf, h1, h2, h3, h.c4.1]
theorem eqv_rdJ {s t : Rs} (h : s.eqv t) : rdJ s = rdJ t := by
  obtain ⟨a1, _, a3⟩ := h.num 1
  have a4 : s.o1.eqv t.o1 := a3
  obtain ⟨h1, h2, h3⟩ := eqv_rdCl (t.num 1).1.toNat a4
  unfold rdJ rdR
  rw [a1, h1, h2, h3.fin]
theorem Rs.eqv.nx {s t : Rs} (h : s.eqv t) (w : Nat) : ∀ k, (s.nx w k).eqv (t.nx w k)
  | 0 => h
  | k + 1 => ((h.nx w k).num w).2.2
theorem Rs.eqv.nv {s t : Rs} (h : s.eqv t) (w k : Nat) : s.nv w k = t.nv w k := by
  unfold Rs.nv
  apply List.map_congr_left
  intro j _
  exact ((h.nx w j).num w).1
theorem Rs.eqv.rdF {s t : Rs} (h : s.eqv t) : s.rdF.eqv t.rdF := (h.nx 2 4).nx 1 8
theorem eqv_rdD {s t : Rs} (h : s.eqv t) : rdD s = rdD t := by
  unfold rdD
  rw [h.rdF.2, h.nv 2 4, (h.nx 2 4).nv 1 8]
/-- A reader of some bytes. -/
def R0 (xs : List Int) : Rs := ⟨none, 0, xs, 0⟩
theorem eqv0 {s : Rs} {xs : List Int} (h1 : s.xs = xs) (h2 : s.e = 0) : s.eqv (R0 xs) := ⟨h1, h2⟩
/-- What is left never grows. -/
theorem Rs.num_shrink (s : Rs) (k : Nat) : (s.num k).2.2.xs.length ≤ s.xs.length := by
  unfold Rs.num
  split
  · simp only [Rs.fail]; split <;> simp
  · split
    · simp [Rs.drop]
    · unfold Rs.fail; split <;> simp [Rs.drop]
theorem Rs.c4_shrink (s : Rs) : s.c4.xs.length ≤ s.xs.length :=
  Nat.le_trans (Rs.num_shrink _ 2) (Nat.le_trans (Rs.num_shrink _ 4) (Nat.le_trans (Rs.num_shrink _ 1) (Rs.num_shrink s 2)))
theorem Rs.o3_shrink (s : Rs) : s.o3.xs.length ≤ s.xs.length := Nat.le_trans (Rs.num_shrink _ 4) (Nat.le_trans (Rs.c4_shrink _) (Rs.num_shrink s 1))
theorem rdMl_shrink : ∀ (k : Nat) (s : Rs), (rdMl k s).2.2.xs.length ≤ s.xs.length
  | 0, s => Nat.le_refl _
  | k + 1, s => by
    simp only [rdMl]
    split
    · exact s.o3_shrink
    · split
      · exact Nat.le_trans (rdMl_shrink k s.o3) s.o3_shrink
      · exact Nat.le_trans (rdMl_shrink k s.o3) s.o3_shrink
theorem rdM_shrink (s : Rs) : (rdM s).2.2.xs.length ≤ s.xs.length := by
  have h1 : s.o1.xs.length ≤ s.xs.length := Rs.num_shrink s 1
  unfold rdM
  split
  · exact h1
  · split
    · exact Nat.le_trans (rdMl_shrink _ _) h1
    · exact Nat.le_trans (rdMl_shrink _ _) h1
theorem Rs.nx_shrink (s : Rs) (w : Nat) : ∀ k, (s.nx w k).xs.length ≤ s.xs.length
  | 0 => Nat.le_refl _
  | k + 1 => Nat.le_trans (Rs.num_shrink _ w) (s.nx_shrink w k)
theorem Rs.rdF_shrink (s : Rs) : s.rdF.xs.length ≤ s.xs.length := Nat.le_trans (Rs.nx_shrink _ 1 8) (Rs.nx_shrink s 2 4)
theorem RsO.nx {s : Rs} {M : Lst} (h : RsO s M) (w : Nat) : ∀ k, RsO (s.nx w k) M
  | 0 => h
  | k + 1 => (h.nx w k).num w
theorem RsO.rdF {s : Rs} {M : Lst} (h : RsO s M) : RsO s.rdF M := (h.nx 2 4).nx 1 8
theorem RsO.o3 {s : Rs} {M : Lst} (h : RsO s M) : RsO s.o3 M := ((h.num 1).c4).num 4
theorem rdD_len (s : Rs) : (rdD s).1.length = 4 ∧ (rdD s).2.1.length = 8 := by
  unfold rdD
  split
  · exact ⟨rfl, rfl⟩
  · split
    · exact ⟨Rs.nv_len _ _ _, Rs.nv_len _ _ _⟩
    · exact ⟨rfl, rfl⟩
/-- What sync.Parse answers of some bytes: the digest, rumours, claims, what is wrong. -/
structure Gsp where
  vs : List Int
  p8 : List Int
  rs : List Rm
  cs : List Cl
  e : Int
def z4 : List Int := [0, 0, 0, 0]
def z8 : List Int := [0, 0, 0, 0, 0, 0, 0, 0]
def pM (xs : List Int) : List Rm × Int × Rs := rdM (R0 xs).rdF
def pY (xs : List Int) : List Int := xs.drop (xs.length - (pM xs).2.2.xs.length)
def pG (xs : List Int) : Gsp :=
  if (rdD (R0 xs)).2.2 ≠ 0 then ⟨z4, z8, [], [], (rdD (R0 xs)).2.2⟩
  else if (pM xs).2.1 ≠ 0 then ⟨z4, z8, [], [], (pM xs).2.1⟩
  else if (rdJ (R0 (pY xs))).2 ≠ 0 then ⟨z4, z8, [], [], (rdJ (R0 (pY xs))).2⟩
  else if 505 < xs.length then ⟨z4, z8, [], [], 2⟩
  else ⟨(rdD (R0 xs)).1, (rdD (R0 xs)).2.1, (pM xs).1, (rdJ (R0 (pY xs))).1, 0⟩
end Go.Proofs.YtplhnkmmhndkjaaGreat
set_option linter.unusedSimpArgs false
set_option linter.unusedVariables false
namespace Go.Proofs.YtplhnkmmhndkjaaGreat
open Go.RowKit Go.Shelf
set_option maxRecDepth 100000
theorem jread0_ok (p : Option Addr) (n cap : Nat) (xs : List Int) (hn : n = xs.length) (hbig : n ≤ 1024) (hb : Byt xs) (w : World) (hp : RdSl w p u8V xs) :
    CallM Tryz.prog 56 [.slice p n cap] [] w fun v L => ∃ ov, OvOk 4 ov (rdJ (R0 xs)).1.length (fl Cl.v (rdJ (R0 xs)).1) ∧ v = .tuple #[slV ov (rdJ (R0 xs)).1.length, .int .i64 (rdJ (R0 xs)).2] ∧ L = blkL 71 ov (fl Cl.v (rdJ (R0 xs)).1) := by
  refine (jread_ok p n cap xs hn (by omega) hb w hp).to9 ?_
  rintro v L ⟨s, ov, h1, h2, h3, h4, h5⟩
  rw [if_pos hbig] at h1 h2
  rw [eqv_rdJ (eqv0 h1 h2)] at h3 h4 h5
  exact ⟨ov, h3, h4, h5⟩
theorem sparse_ok (p : Option Addr) (n cap : Nat) (xs : List Int) (hn : n = xs.length) (hbig : n ≤ 1024) (hcap : n ≤ cap) (hb : Byt xs) (w : World) (hp : RdSl w p u8V xs) :
    CallM Tryz.prog 17 [.slice p n cap] [] w fun v L => ∃ ov1 ov2, OvOk 6 ov1 (pG xs).rs.length (fl Rm.v (pG xs).rs) ∧ OvOk 4 ov2 (pG xs).cs.length (fl Cl.v (pG xs).cs) ∧ v = .tuple #[.agg ⟨goC (dgV (pG xs).vs (pG xs).p8) (.slice (ovp ov1) (pG xs).rs.length (ovc ov1 (pG xs).rs.length)) (.slice (ovp ov2) (pG xs).cs.length (ovc ov2 (pG xs).cs.length))⟩, .int .i64 (pG xs).e] ∧ L = blkL 111 ov1 (fl Rm.v (pG xs).rs) ++ blkL 71 ov2 (fl Cl.v (pG xs).cs) := by
  have hnew := fun w1 (hc : Chg [] w w1) => rnewr_ok p n cap xs hn (by omega) hb w1 (hp.chg' hc (fun _ => Off.nil _))
  simp only [if_pos hbig] at hnew
  have hG : pG xs = if (rdD (R0 xs)).2.2 ≠ 0 then ⟨z4, z8, [], [], (rdD (R0 xs)).2.2⟩ else if (pM xs).2.1 ≠ 0 then ⟨z4, z8, [], [], (pM xs).2.1⟩ else if (rdJ (R0 (pY xs))).2 ≠ 0 then ⟨z4, z8, [], [], (rdJ (R0 (pY xs))).2⟩ else if 505 < xs.length then ⟨z4, z8, [], [], 2⟩ else ⟨(rdD (R0 xs)).1, (rdD (R0 xs)).2.1, (pM xs).1, (rdJ (R0 (pY xs))).1, 0⟩ := rfl
  have hjr := fun w1 (hc : Chg [] w w1) i (hi : i ≤ n) => jread0_ok (sufP p cap i 1) (n - i) (cap - i) (xs.drop i) (by rw [List.length_drop, hn]) (by omega) (fun y hy => hb y (List.mem_of_mem_drop hy)) w1 ((hp.suf u8V_len (by omega) (by omega)).chg' hc (fun _ => Off.nil _))
  have hpy : pY xs = xs.drop (xs.length - (pM xs).2.2.xs.length) := rfl
  have hpm : pM xs = rdM (R0 xs).rdF := rfl
  have hsh : (pM xs).2.2.xs.length ≤ xs.length := Nat.le_trans (rdM_shrink _) (Rs.rdF_shrink (R0 xs))
  have hlen4 := rdD_len (R0 xs)
  have hzl := fun R P => goC_len (D := dgV z4 z8) (by rfl) R P
  generalize pG xs = G at *
  refine enterK (tb := tb) Tryz.func17 rfl Tryz.ntmps17 rfl ?_
  repeat' (first | (apply R.is1; first | (apply R.isCall; (apply R.callE (vs := [.slice p n cap]); (iterate 3 exact rfl); exact Ext.none _; intro w1 hw1; exact hnew w1 hw1.chg; rintro v Lo ⟨br, s, M, rfl, hs1, hs2, hso, rfl⟩; rw [List.append_assoc])) | (apply R.pure; exact rfl; first | (apply Ok1.move; exact rfl) | (apply Ok1.assign; exact rfl)) | (apply R.alloc; (iterate 3 exact rfl); intro)) | apply R.nil | (apply T.is; first | apply T.seq | apply T.region))
  have hq0 := eqv0 hs1 hs2
  have hsk := hso.ok' br
  have hrd := fun w1 h1 => read9_ok br s w1 h1
  rw [eqv_rdD hq0] at hrd
  have hfo := hso.rdF
  have hfk := hfo.ok' br
  have hmr := fun w1 h1 => mread_ok br s.rdF w1 h1
  obtain ⟨hM1, hM2, hM3, hM4⟩ := eqv_rdM hq0.rdF
  rw [← hpm] at hM1 hM2 hM3
  rw [hM1, hM2] at hmr
  have hlf := fun w1 h => rleft_ok br (rdM s.rdF).2.2 w1 h
  rw [hM3] at hlf
  have hmL : (br, Obj.cells ⟨[.slice (rdM s.rdF).2.2.q (pM xs).2.2.xs.length (rdM s.rdF).2.2.cap, .int .i64 (rdM s.rdF).2.2.e]⟩ 173 (0, 0)) ∈ (rdM s.rdF).2.2.L br := by simp [Rs.L, hM3]
  generalize hLM : (rdM s.rdF).2.2.L br = LM at *
  generalize (rdM s.rdF).2.2.q = q9 at *
  generalize (rdM s.rdF).2.2.cap = c9 at *
  generalize (rdM s.rdF).2.2.e = e9 at *
  generalize hLF : s.rdF.L br = LF at *
  generalize hLS : s.L br = LS at *
  generalize hDD : rdD (R0 xs) = D at *
  obtain ⟨dv, dp, de⟩ := D
  simp only at *
  have hdD := dg_len hlen4.1 hlen4.2
  have hD1 := dg_one dv dp
  generalize hMM : pM xs = PM at *
  obtain ⟨rs, me, tt⟩ := PM
  simp only at *
  clear hMM hpm hM1 hM2 hM3 hM4 hnew
  generalize hyl : tt.xs.length = yl at *
  clear hyl
  have hjr2 := fun w1 hc => hjr w1 hc (n - yl) (by omega)
  have e1 : n - (n - yl) = yl := by omega
  have e2 : xs.drop (n - yl) = pY xs := by rw [hpy, hn]
  rw [e1, e2] at hjr2
  have hi : ((n : Int) - (yl : Int)) = ((n - yl : Nat) : Int) := by omega
  generalize rdJ (R0 (pY xs)) = J at *
  obtain ⟨cs, je⟩ := J
  simp only at *
  clear hpy hjr e2
  have hgD := dg_len hlen4.1 hlen4.2
  generalize hdg : dgV dv dp = DG at *
  have hlenG := fun R P => goC_len hgD R P
  by_cases hde : de = 0
  case neg =>
    rw [if_pos hde] at hG
    subst hG
    repeat' (first | (apply R.is1; first | (apply R.isBin; (apply R.pure; exact rfl; (apply Ok1.neq_t; exact rfl; exact rfl; omega))) | (apply R.isCall; (apply R.callE (Li := LS) (vs := [.pointer (some ⟨br, 0, none⟩)]); (iterate 3 exact rfl); (focus ((repeat' (exact Ext.here _ _)); done)); intro w1 hw1; exact hrd w1 (hsk _ _ _ _ _ hw1 (by (focus ((repeat' (exact Ext.here _ _)); done))) (Ext.mem (by (focus ((repeat' (exact Ext.here _ _)); done))))); rintro v Lo ⟨rfl, hq⟩; rw [hq]; clear hq)) | (apply R.pure; exact rfl; first | (apply Ok1.move; exact rfl) | (apply Ok1.assign; exact rfl) | (apply Ok1.build; (iterate 5 exact rfl)) | (apply Ok1.extract; exact rfl; exact rfl)) | (apply R.alloc; (iterate 3 exact rfl); intro)) | (apply R.is0; first | (apply R.store; (iterate 4 exact rfl); exact hgD; exact hD1; exact Upd.head; exact setE_all (by rw [hgD]; rfl)) | (apply R.store; (iterate 6 exact rfl); (focus ((repeat' (first | exact Upd.head | apply Upd.tail | apply Upd.right)); done)); exact rfl)) | apply R.nil | (apply T.is; first | apply T.seq | apply T.region | apply T.ret | (apply T.cond_t; exact rfl)))
    all_goals (apply RetOk.ct; exact rfl; ((apply Ld.ownk; exact rfl; exact rfl; (focus ((repeat' (first | exact At.head | apply At.tail | apply At.right)); done)); exact rfl)); exact rfl)
    all_goals exact ⟨[], by (focus ((repeat' (exact Keep.nil _)); done)), none, none, OvOk.start 6, OvOk.start 4, rfl, rfl⟩
  subst hde
  rw [if_neg (fun h => h rfl)] at hG
  by_cases hme : me = 0
  case neg =>
    rw [if_pos hme] at hG
    subst hG
    repeat' (first | (apply R.is1; first | (apply R.isBin; (apply R.pure; exact rfl; first | (apply Ok1.neq_t; exact rfl; exact rfl; omega) | (apply Ok1.neq_f; exact rfl; exact rfl; omega))) | (apply R.isCall; first | (apply R.callE (Li := LS) (vs := [.pointer (some ⟨br, 0, none⟩)]); (iterate 3 exact rfl); (focus ((repeat' (first | exact Ext.here _ _ | apply Ext.cons | apply Ext.app)); done)); intro w1 hw1; exact hrd w1 (hsk _ _ _ _ _ hw1 (by (focus ((repeat' (exact Ext.here _ _)); done))) (Ext.mem (by (focus ((repeat' (exact Ext.here _ _)); done))))); rintro v Lo ⟨rfl, hq⟩; rw [hq]; clear hq) | (apply R.callE (Li := LF) (vs := [.pointer (some ⟨br, 0, none⟩)]); (iterate 3 exact rfl); (focus ((repeat' (first | exact Ext.here _ _ | apply Ext.cons)); done)); intro w1 hw1; exact hmr w1 (hfk _ _ _ _ _ hw1 (by (focus ((repeat' (first | exact Ext.here _ _ | apply Ext.cons)); done))) (Ext.mem (by (focus ((repeat' (first | exact Ext.here _ _ | apply Ext.cons)); done))))); rintro v Lo ⟨ov1, hov1, rfl, hq⟩; rw [hq]; clear hq; rw [List.append_assoc, slV_eq hov1])) | (apply R.pure; exact rfl; first | (apply Ok1.move; exact rfl) | (apply Ok1.assign; exact rfl) | (apply Ok1.build; (iterate 5 exact rfl)) | (apply Ok1.extract; exact rfl; exact rfl)) | (apply R.alloc; (iterate 3 exact rfl); intro)) | (apply R.is0; first | (apply R.store; (iterate 4 exact rfl); exact hgD; exact hD1; exact Upd.head; exact setE_all (by rw [hgD]; rfl)) | (apply R.store; (iterate 6 exact rfl); (focus ((repeat' (first | exact Upd.head | apply Upd.tail | apply Upd.right)); done)); exact rfl)) | apply R.nil | (apply T.is; first | apply T.seq | apply T.region | apply T.skip | apply T.ret | (apply T.cond_t; exact rfl) | (apply T.cond_f; exact rfl)))
    all_goals (apply RetOk.ct; exact rfl; ((apply Ld.ownk; exact rfl; exact rfl; (focus ((repeat' (first | exact At.head | apply At.tail | apply At.right)); done)); exact rfl)); exact rfl)
    all_goals exact ⟨[], by (focus ((repeat' (exact Keep.nil _)); done)), none, none, OvOk.start 6, OvOk.start 4, rfl, rfl⟩
  subst hme
  rw [if_neg (fun h => h rfl)] at hG
  by_cases hje : je = 0
  case neg =>
    rw [if_pos hje] at hG
    subst hG
    repeat' (first | (apply R.is1; first | (apply R.isBin; (apply R.pure; exact rfl; first | (apply Ok1.sub64; exact rfl; exact rfl; omega; omega) | (apply Ok1.neq_t; exact rfl; exact rfl; omega) | (apply Ok1.neq_f; exact rfl; exact rfl; omega))) | (apply R.isCall; first | (apply R.callE (Li := LS) (vs := [.pointer (some ⟨br, 0, none⟩)]); (iterate 3 exact rfl); (focus ((repeat' (first | exact Ext.here _ _ | apply Ext.cons | apply Ext.app)); done)); intro w1 hw1; exact hrd w1 (hsk _ _ _ _ _ hw1 (by (focus ((repeat' (exact Ext.here _ _)); done))) (Ext.mem (by (focus ((repeat' (exact Ext.here _ _)); done))))); rintro v Lo ⟨rfl, hq⟩; rw [hq]; clear hq) | (apply R.callE (Li := LF) (vs := [.pointer (some ⟨br, 0, none⟩)]); (iterate 3 exact rfl); (focus ((repeat' (first | exact Ext.here _ _ | apply Ext.cons | apply Ext.app)); done)); intro w1 hw1; exact hmr w1 (hfk _ _ _ _ _ hw1 (by (focus ((repeat' (first | exact Ext.here _ _ | apply Ext.cons)); done))) (Ext.mem (by (focus ((repeat' (first | exact Ext.here _ _ | apply Ext.cons)); done))))); rintro v Lo ⟨ov1, hov1, rfl, hq⟩; rw [hq]; clear hq; rw [List.append_assoc, slV_eq hov1]) | (apply R.callV (vs := [.pointer (some ⟨br, 0, none⟩)]); (iterate 3 exact rfl); intro w1 hw1; (apply hlf w1; apply hw1.get; apply Ext.memI9 hmL; (focus ((repeat' (first | exact Ext.here _ _ | apply Ext.app)); done)))) | (apply R.callE (vs := [.slice (sufP p cap (n - yl) 1) (n - (n - yl)) (cap - (n - yl))]); (iterate 3 exact rfl); exact Ext.none _; intro w1 hw1; rw [e1]; exact hjr2 w1 hw1.chg; rintro v Lo ⟨ov2, hov2, rfl, rfl⟩; rw [slV_eq hov2]) | (apply R.pure; exact rfl; (apply Ok1.lenS; (iterate 3 exact rfl)))) | (apply R.pure; exact rfl; first | (apply Ok1.sufR (i := n - yl); (iterate 5 exact rfl); (rw [← hi]; exact rfl); omega; omega) | (apply Ok1.move; exact rfl) | (apply Ok1.assign; exact rfl) | (apply Ok1.build; (iterate 5 exact rfl)) | (apply Ok1.extract; exact rfl; exact rfl)) | (apply R.alloc; (iterate 3 exact rfl); intro)) | (apply R.is0; first | (apply R.store; (iterate 4 exact rfl); exact hgD; exact hD1; exact Upd.head; exact setE_all (by rw [hgD]; rfl)) | (apply R.store; (iterate 6 exact rfl); (focus ((repeat' (first | exact Upd.head | apply Upd.tail | apply Upd.right)); done)); exact rfl)) | apply R.nil | (apply T.is; first | apply T.seq | apply T.region | apply T.block | apply T.skip | apply T.ret | (apply T.cond_t; exact rfl) | (apply T.cond_f; exact rfl)))
    all_goals (apply RetOk.ct; exact rfl; ((apply Ld.ownk; exact rfl; exact rfl; (focus ((repeat' (first | exact At.head | apply At.tail | apply At.right)); done)); exact rfl)); exact rfl)
    all_goals exact ⟨[], by (focus ((repeat' (exact Keep.nil _)); done)), none, none, OvOk.start 6, OvOk.start 4, rfl, rfl⟩
  subst hje
  rw [if_neg (fun h => h rfl)] at hG
  rcases Nat.lt_or_ge 505 n with h5 | h5
  · rw [if_pos (by omega)] at hG
    subst hG
    repeat' (first | (apply R.is1; first | (apply R.isBin; (apply R.pure; exact rfl; first | (apply Ok1.sub64; exact rfl; exact rfl; omega; omega) | (apply Ok1.gtr_t; exact rfl; exact rfl; omega) | (apply Ok1.neq_f; exact rfl; exact rfl; omega))) | (apply R.isCall; first | (apply R.callE (Li := LS) (vs := [.pointer (some ⟨br, 0, none⟩)]); (iterate 3 exact rfl); (focus ((repeat' (first | exact Ext.here _ _ | apply Ext.cons | apply Ext.app)); done)); intro w1 hw1; exact hrd w1 (hsk _ _ _ _ _ hw1 (by (focus ((repeat' (exact Ext.here _ _)); done))) (Ext.mem (by (focus ((repeat' (exact Ext.here _ _)); done))))); rintro v Lo ⟨rfl, hq⟩; rw [hq]; clear hq) | (apply R.callE (Li := LF) (vs := [.pointer (some ⟨br, 0, none⟩)]); (iterate 3 exact rfl); (focus ((repeat' (first | exact Ext.here _ _ | apply Ext.cons | apply Ext.app)); done)); intro w1 hw1; exact hmr w1 (hfk _ _ _ _ _ hw1 (by (focus ((repeat' (first | exact Ext.here _ _ | apply Ext.cons)); done))) (Ext.mem (by (focus ((repeat' (first | exact Ext.here _ _ | apply Ext.cons)); done))))); rintro v Lo ⟨ov1, hov1, rfl, hq⟩; rw [hq]; clear hq; rw [List.append_assoc, slV_eq hov1]) | (apply R.callV (vs := [.pointer (some ⟨br, 0, none⟩)]); (iterate 3 exact rfl); intro w1 hw1; (apply hlf w1; apply hw1.get; apply Ext.memI9 hmL; (focus ((repeat' (first | exact Ext.here _ _ | apply Ext.app)); done)))) | (apply R.callE (vs := [.slice (sufP p cap (n - yl) 1) (n - (n - yl)) (cap - (n - yl))]); (iterate 3 exact rfl); exact Ext.none _; intro w1 hw1; rw [e1]; exact hjr2 w1 hw1.chg; rintro v Lo ⟨ov2, hov2, rfl, rfl⟩; rw [slV_eq hov2]) | (apply R.pure; exact rfl; (apply Ok1.lenS; (iterate 3 exact rfl)))) | (apply R.pure; exact rfl; first | (apply Ok1.sufR (i := n - yl); (iterate 5 exact rfl); (rw [← hi]; exact rfl); omega; omega) | (apply Ok1.move; exact rfl) | (apply Ok1.assign; exact rfl) | (apply Ok1.build; (iterate 5 exact rfl)) | (apply Ok1.extract; exact rfl; exact rfl)) | (apply R.alloc; (iterate 3 exact rfl); intro)) | (apply R.is0; first | (apply R.store; (iterate 4 exact rfl); exact hgD; exact hD1; exact Upd.head; exact setE_all (by rw [hgD]; rfl)) | (apply R.store; (iterate 6 exact rfl); (focus ((repeat' (first | exact Upd.head | apply Upd.tail | apply Upd.right)); done)); exact rfl)) | apply R.nil | (apply T.is; first | apply T.seq | apply T.region | apply T.block | apply T.skip | apply T.ret | (apply T.cond_t; exact rfl) | (apply T.cond_f; exact rfl)))
    all_goals (apply RetOk.ct; exact rfl; ((apply Ld.ownk; exact rfl; exact rfl; (focus ((repeat' (first | exact At.head | apply At.tail | apply At.right)); done)); exact rfl)); exact rfl)
    all_goals exact ⟨[], by (focus ((repeat' (exact Keep.nil _)); done)), none, none, OvOk.start 6, OvOk.start 4, rfl, rfl⟩
  · rw [if_neg (by omega)] at hG
    subst hG
    simp only [hdg]
    repeat' (first | (apply R.is1; first | (apply R.isBin; (apply R.pure; exact rfl; first | (apply Ok1.sub64; exact rfl; exact rfl; omega; omega) | (apply Ok1.gtr_f; exact rfl; exact rfl; omega) | (apply Ok1.neq_f; exact rfl; exact rfl; omega))) | (apply R.isCall; first | (apply R.callE (Li := LS) (vs := [.pointer (some ⟨br, 0, none⟩)]); (iterate 3 exact rfl); (focus ((repeat' (first | exact Ext.here _ _ | apply Ext.cons | apply Ext.app)); done)); intro w1 hw1; exact hrd w1 (hsk _ _ _ _ _ hw1 (by (focus ((repeat' (exact Ext.here _ _)); done))) (Ext.mem (by (focus ((repeat' (exact Ext.here _ _)); done))))); rintro v Lo ⟨rfl, hq⟩; rw [hq]; clear hq) | (apply R.callE (Li := LF) (vs := [.pointer (some ⟨br, 0, none⟩)]); (iterate 3 exact rfl); (focus ((repeat' (first | exact Ext.here _ _ | apply Ext.cons | apply Ext.app)); done)); intro w1 hw1; exact hmr w1 (hfk _ _ _ _ _ hw1 (by (focus ((repeat' (first | exact Ext.here _ _ | apply Ext.cons)); done))) (Ext.mem (by (focus ((repeat' (first | exact Ext.here _ _ | apply Ext.cons)); done))))); rintro v Lo ⟨ov1, hov1, rfl, hq⟩; rw [hq]; clear hq; rw [List.append_assoc, slV_eq hov1]) | (apply R.callV (vs := [.pointer (some ⟨br, 0, none⟩)]); (iterate 3 exact rfl); intro w1 hw1; (apply hlf w1; apply hw1.get; apply Ext.memI9 hmL; (focus ((repeat' (first | exact Ext.here _ _ | apply Ext.app)); done)))) | (apply R.callE (vs := [.slice (sufP p cap (n - yl) 1) (n - (n - yl)) (cap - (n - yl))]); (iterate 3 exact rfl); exact Ext.none _; intro w1 hw1; rw [e1]; exact hjr2 w1 hw1.chg; rintro v Lo ⟨ov2, hov2, rfl, rfl⟩; rw [slV_eq hov2]) | (apply R.pure; exact rfl; (apply Ok1.lenS; (iterate 3 exact rfl)))) | (apply R.pure; exact rfl; first | (apply Ok1.sufR (i := n - yl); (iterate 5 exact rfl); (rw [← hi]; exact rfl); omega; omega) | (apply Ok1.load; exact rfl; (apply Ld.ownk; exact rfl; exact rfl; (focus ((repeat' (first | exact At.head | apply At.right)); done)); exact subE_all hgD)) | (apply Ok1.build; (iterate 4 exact rfl); exact build12 (Φ := fun D => fillE _ _ [(0, .agg ⟨D⟩), (1, (.slice (ovp ov1) rs.length (ovc ov1 rs.length))), (2, (.slice (ovp ov2) cs.length (ovc ov2 cs.length)))] = some (goC D (.slice (ovp ov1) rs.length (ovc ov1 rs.length)) (.slice (ovp ov2) cs.length (ovc ov2 cs.length)))) hgD (fun _ _ _ _ _ _ _ _ _ _ _ _ => rfl)) | (apply Ok1.move; exact rfl) | (apply Ok1.assign; exact rfl) | (apply Ok1.extract; exact rfl; exact rfl)) | (apply R.alloc; (iterate 3 exact rfl); intro)) | (apply R.is0; first | (apply R.store; (iterate 4 exact rfl); exact hgD; exact hD1; exact Upd.head; exact setE_all (by rw [hgD]; rfl)) | (apply R.store; (iterate 4 exact rfl); exact hlenG _ _; exact goC_one hD1 _ _ _ _ _ _; (focus ((repeat' (first | exact Upd.head | apply Upd.tail | apply Upd.right)); done)); exact setE_all (by rw [hlenG]; rfl))) | apply R.nil | (apply T.is; first | apply T.seq | apply T.region | apply T.block | apply T.skip | apply T.ret | (apply T.cond_f; exact rfl)))
    (apply RetOk.ct; exact rfl; (apply Ld.ownk; exact rfl; exact rfl; (focus ((repeat' (first | exact At.head | apply At.tail | apply At.right)); done)); exact subE_all (hlenG _ _)); exact rfl)
    exact ⟨_, by (focus ((repeat' (first | exact Ext.here _ _ | apply Keep.app | apply Keep.last | apply Ext.app)); done)), ov1, ov2, hov1, hov2, rfl, rfl⟩
end Go.Proofs.YtplhnkmmhndkjaaGreat
set_option linter.unusedSimpArgs false
set_option linter.unusedVariables false
namespace Go.Proofs.YtplhnkmmhndkjaaGreat
open Go.RowKit Go.Shelf
set_option maxRecDepth 100000
section
variable {X : Cx} {σ : Env} {L : Lst} {ty t : TypeId} {pos : String} {af : Array Edge} {x y : Operand} {r : TRow} {xs ys : List Value} {ks : List TK}
theorem Ok1.neqFq9 {d : Option Nat} {g : Option (Nat × Bool)} {ty2 : TypeId} {q : Bool} (hx : ev σ x = some (.agg ⟨xs⟩)) (hy : ev σ y = some (.agg ⟨ys⟩)) (ht : X.tb.row t = some r) (hk : r.k.agg = some true) (hf : flatE X.tb 8 t = some ks) (h1 : allOk ks xs = true) (h2 : allOk ks ys = true) (hq : xs = ys ↔ q = false) :
    Ok1 X ⟨d, .binOp .neq t x y ty2, ty, pos, af, g⟩ σ L (.bool q) := by
  have h := Ok1.neqF (X := X) (L := L) (ty2 := ty2) (d := d) (ty := ty) (pos := pos) (af := af) (g := g) hx hy ht hk hf h1 h2
  have e : ∀ (i : Decidable (xs ≠ ys)), @decide (xs ≠ ys) i = q := by intro i; cases q <;> simp_all
  rw [e] at h
  exact h
end
theorem dg_allok {vs p8 : List Int} (hv : vs.length = 4) (hp : p8.length = 8) : allOk [.int .i64, .int .i64, .int .i64, .int .i64, .int .u8, .int .u8, .int .u8, .int .u8, .int .u8, .int .u8, .int .u8, .int .u8] (dgV vs p8) = true := by
  obtain ⟨a, b, c, d, e, f, g, h, i, j, k, l, rfl, rfl⟩ := dgx hv hp
  rfl
theorem known25_ok : CallP Tryz.prog 16 [] (.bool true) := by
  have hb := fun w1 => gbytes_ok [0, 0, 0, 0] [0, 0, 0, 0, 0, 0, 0, 0] rfl rfl (fun x hx => by simp at hx; omega) none none 0 0 [] [] (by decide) w1 (.inl rfl) (.inl rfl)
  have hE : gE [0, 0, 0, 0] [] [] = 0 := by decide
  have hl := gI_len (vs := [0, 0, 0, 0]) (p8 := [0, 0, 0, 0, 0, 0, 0, 0]) rfl rfl [] []
  rw [hE] at hb
  generalize gI [0, 0, 0, 0] [0, 0, 0, 0, 0, 0, 0, 0] [] [] = G at *
  rw [show G.length = 18 from hl] at hb
  refine enterP (tb := tb) Tryz.func16 rfl Tryz.ntmps16 rfl fun w => ?_
  repeat' (first | (apply R.is1; first | (apply R.isBin; first | (apply R.pure; exact rfl; first | (apply Ok1.eql_t; exact rfl; exact rfl; omega) | (apply Ok1.eql_f; exact rfl; exact rfl; omega) | (apply Ok1.eqlP; (iterate 5 exact rfl)) | (apply Ok1.eqlM; (iterate 5 exact rfl)) | (apply Ok1.eqlS; (iterate 5 exact rfl))) | (apply R.eql rfl rfl rfl <;> intro) | (apply R.eqlF; (iterate 8 exact rfl); all_goals intro)) | (apply R.isCall; first | (apply R.callE; (iterate 3 exact rfl); exact Ext.none _; intro w1 hw1; exact hb w1; rintro v Lo (⟨h0, _⟩ | ⟨_, ov, hov, rfl, rfl⟩); exact absurd rfl h0) | (apply R.pure; exact rfl; apply Ok1.lenOv; (iterate 3 exact rfl); first | exact hov) | (apply R.pure; exact rfl; first | (apply Ok1.lenS; (iterate 3 exact rfl)) | (apply Ok1.lenStr; (iterate 3 exact rfl)) | (apply Ok1.lenMm; (iterate 3 exact rfl); (focus ((repeat' (first | exact At.head | apply At.tail | apply At.right)); done))) | (apply Ok1.lenM_nil; (iterate 3 exact rfl)))) | (apply R.pure; exact rfl; first | (apply Ok1.move; exact rfl) | (apply Ok1.assign; exact rfl) | (apply Ok1.build; (iterate 5 exact rfl)) | (apply Ok1.extract; exact rfl; exact rfl) | (apply Ok1.pick_t; exact rfl; exact rfl) | (apply Ok1.pick_f; exact rfl; exact rfl) | (apply Ok1.pick_h; exact rfl; assumption; exact rfl) | (apply Ok1.pick_n; exact rfl; assumption; exact rfl) | (apply Ok1.buildA; (iterate 6 exact rfl)))) | (apply R.is0; first | fail) | (apply R.isG; first | (apply R.guard_run; exact rfl; exact rfl) | (apply R.guard_not; (iterate 3 exact rfl)) | (apply R.guard_not0; exact rfl; exact rfl) | (apply R.guard_un; (iterate 3 exact rfl)) | (apply R.guard_un0; exact rfl; exact rfl) | (apply R.guard rfl rfl ?_ (fun h => ⟨rfl, ?_⟩) <;> try intro)) | apply R.nil | (apply T.is; first | apply T.seq | apply T.region | apply T.block | apply T.scope | apply T.label | apply T.skip | apply T.exit | apply T.ret | (apply T.cond_t; exact rfl) | (apply T.cond_f; exact rfl) | (apply T.cond_h; exact rfl; assumption) | (apply T.cond_n; exact rfl; assumption) | (apply T.cond rfl <;> intro)) | apply Rnd.step)
  (apply RetOk.t; exact rfl)
  rfl
theorem gto_ok' (xv xp : List Int) (hxv : xv.length = 4) (hxp : xp.length = 8) (pR pP : Option Addr) (cR cP : Nat) (rs : List Rm) (cs : List Cl) (w : World) (hR : RdSl w pR Rm.v rs) (hP : RdSl w pP Cl.v cs) :
    CallM Tryz.prog 5 [.agg ⟨goC (dgV xv xp) (.slice pR rs.length cR) (.slice pP cs.length cP)⟩] [] w fun v L => ∃ ov1 ov2, OvOk 6 ov1 (rs.take 22).length (fl Rm.v (rs.take 22)) ∧ OvOk 4 ov2 (cs.take 18).length (fl Cl.v (cs.take 18)) ∧ v = .agg ⟨goC (dgV xv xp) (.slice (ovp ov1) (rs.take 22).length (ovc ov1 (rs.take 22).length)) (.slice (ovp ov2) (cs.take 18).length (ovc ov2 (cs.take 18).length))⟩ ∧ L = blkL 111 ov1 (fl Rm.v (rs.take 22)) ++ blkL 71 ov2 (fl Cl.v (cs.take 18)) := by
  have h := gto_ok xv xp hxv hxp pR pP cR cP rs cs w hR hP
  rw [Nat.min_comm, ← List.length_take, Nat.min_comm cs.length, ← List.length_take] at h
  exact h
theorem ovc_leS {sz n : Nat} {ov : Ov} {xs : List Value} (h : OvOk sz ov n xs) : n ≤ ovc ov n := by
  obtain ⟨_, h⟩ := h
  cases ov with
  | none => simp only at h; simp [ovc, h]
  | some y => simp [ovc]
end Go.Proofs.YtplhnkmmhndkjaaGreat
set_option linter.unusedSimpArgs false
set_option linter.unusedVariables false
namespace Go.Proofs.YtplhnkmmhndkjaaGreat
open Go.RowKit Go.Shelf
set_option maxRecDepth 100000
theorem requal_ok (p1 p2 : Option Addr) (c1 c2 : Nat) (xs : List Rm) (hlen : xs.length ≤ 1000000) (w : World) (h1 : RdSl w p1 Rm.v xs) (h2 : RdSl w p2 Rm.v xs) : CallW Tryz.prog 49 [.slice p1 xs.length c1, .slice p2 xs.length c2] w fun v _ => v = .bool true := by
  refine enterW (tb := tb) Tryz.func49 rfl Tryz.ntmps49 rfl ?_
  repeat' (first | (apply R.is1; first | (apply R.isBin; (apply R.pure; exact rfl; (apply Ok1.neq_f; exact rfl; exact rfl; omega))) | (apply R.isCall; (apply R.pure; exact rfl; (apply Ok1.lenS; (iterate 3 exact rfl)))) | (apply R.pure; exact rfl; first | (apply Ok1.move; exact rfl) | (apply Ok1.assign; exact rfl))) | apply R.nil | (apply T.is; first | apply T.seq | apply T.region | apply T.block | apply T.skip | (apply T.cond_f; exact rfl)))
  apply T.loopK (α := Nat) (I := fun i => i ≤ xs.length) (σi := fun i => [(0, .slice p1 xs.length c1), (1, .slice p2 xs.length c2), (12, .int .i64 xs.length), (13, .int .i64 i)]) (Li := fun _ => []) (μ := fun i => xs.length - i) (i0 := 0)
  · exact Nat.zero_le _
  · exact ⟨rfl, rfl, rfl, rfl, trivial⟩
  · exact Keep.nil _
  · rintro i hi
    rcases Nat.lt_or_ge i xs.length with hlt | hge
    · obtain ⟨r, hr⟩ : ∃ r, xs[i]? = some r := ⟨_, List.getElem?_eq_getElem (by omega)⟩
      obtain ⟨b, o, hpe, H⟩ := h1.at hr
      replace H := H 6 Rm.v_len
      obtain ⟨b', o', hpe', H'⟩ := h2.at hr
      replace H' := H' 6 Rm.v_len
      repeat' (first | (apply R.is1; first | (apply R.isBin; (apply R.pure; exact rfl; first | (apply Ok1.add64; exact rfl; exact rfl; omega; omega) | (apply Ok1.lss_t; exact rfl; exact rfl; omega))) | (apply R.pure; exact rfl; first | (apply Ok1.move; exact rfl) | (apply Ok1.assign; exact rfl))) | apply R.nil | (apply T.is; first | (apply T.draw (id := 6); ((apply A.take 0; exact rfl; exact rfl; kernel_rfl; kernel_rfl; kernel_rfl; (apply Ok1.move; exact rfl)) <;> (apply A.take 1; exact rfl; exact rfl; kernel_rfl; kernel_rfl; kernel_rfl; (apply Ok1.move; exact rfl)) <;> (apply A.take 2; exact rfl; exact rfl; kernel_rfl; kernel_rfl; kernel_rfl; (apply Ok1.indexAddrP; (iterate 4 exact rfl); (exact hpe); exact rfl; omega; omega)) <;> (apply A.take 3; exact rfl; exact rfl; kernel_rfl; kernel_rfl; kernel_rfl; (apply Ok1.load; exact rfl; (apply Ld.rowk0 H; exact rfl; exact List.not_mem_nil; (iterate 3 exact rfl)))) <;> (apply A.take 4; exact rfl; exact rfl; kernel_rfl; kernel_rfl; kernel_rfl; (apply Ok1.move; exact rfl)) <;> (apply A.take 5; exact rfl; exact rfl; kernel_rfl; kernel_rfl; kernel_rfl; (apply Ok1.move; exact rfl)) <;> (apply A.take 6; exact rfl; exact rfl; kernel_rfl; kernel_rfl; kernel_rfl; (apply Ok1.indexAddrP; (iterate 4 exact rfl); (exact hpe'); exact rfl; omega; omega)) <;> (apply A.take 7; exact rfl; exact rfl; kernel_rfl; kernel_rfl; kernel_rfl; (apply Ok1.load; exact rfl; (apply Ld.rowk0 H'; exact rfl; exact List.not_mem_nil; (iterate 3 exact rfl)))) <;> ((apply A.take 8; exact rfl; exact rfl; kernel_rfl; kernel_rfl; kernel_rfl; (apply Ok1.neqFq9 (xs := r.v) (ys := r.v) (q := false); (iterate 7 exact rfl); exact ⟨fun _ => rfl, fun _ => rfl⟩))) <;> (apply A.done; kernel_rfl))) | apply T.seq | apply T.region | apply T.block | apply T.skip | (apply T.cond_t; exact rfl) | (apply T.cond_f; exact rfl)))
      exact ⟨i + 1, by omega, by omega, ⟨rfl, rfl, rfl, rfl, trivial⟩, Keep.nil _⟩
    · repeat' (first | (apply R.is1; first | (apply R.isBin; (apply R.pure; exact rfl; (apply Ok1.lss_f; exact rfl; exact rfl; omega))) | (apply R.pure; exact rfl; (apply Ok1.assign; exact rfl))) | apply R.nil | (apply T.is; first | apply T.seq | apply T.region | apply T.exit | apply T.ret | (apply T.cond_f; exact rfl)))
      (apply RetOk.t; exact rfl)
      rfl
theorem cequal_ok (p1 p2 : Option Addr) (c1 c2 : Nat) (xs : List Cl) (hlen : xs.length ≤ 1000000) (w : World) (h1 : RdSl w p1 Cl.v xs) (h2 : RdSl w p2 Cl.v xs) : CallW Tryz.prog 50 [.slice p1 xs.length c1, .slice p2 xs.length c2] w fun v _ => v = .bool true := by
  refine enterW (tb := tb) Tryz.func50 rfl Tryz.ntmps50 rfl ?_
  repeat' (first | (apply R.is1; first | (apply R.isBin; (apply R.pure; exact rfl; (apply Ok1.neq_f; exact rfl; exact rfl; omega))) | (apply R.isCall; (apply R.pure; exact rfl; (apply Ok1.lenS; (iterate 3 exact rfl)))) | (apply R.pure; exact rfl; first | (apply Ok1.move; exact rfl) | (apply Ok1.assign; exact rfl))) | apply R.nil | (apply T.is; first | apply T.seq | apply T.region | apply T.block | apply T.skip | (apply T.cond_f; exact rfl)))
  apply T.loopK (α := Nat) (I := fun i => i ≤ xs.length) (σi := fun i => [(0, .slice p1 xs.length c1), (1, .slice p2 xs.length c2), (12, .int .i64 xs.length), (13, .int .i64 i)]) (Li := fun _ => []) (μ := fun i => xs.length - i) (i0 := 0)
  · exact Nat.zero_le _
  · exact ⟨rfl, rfl, rfl, rfl, trivial⟩
  · exact Keep.nil _
  · rintro i hi
    rcases Nat.lt_or_ge i xs.length with hlt | hge
    · obtain ⟨r, hr⟩ : ∃ r, xs[i]? = some r := ⟨_, List.getElem?_eq_getElem (by omega)⟩
      obtain ⟨b, o, hpe, H⟩ := h1.at hr
      replace H := H 4 Cl.v_len4
      obtain ⟨b', o', hpe', H'⟩ := h2.at hr
      replace H' := H' 4 Cl.v_len4
      repeat' (first | (apply R.is1; first | (apply R.isBin; (apply R.pure; exact rfl; first | (apply Ok1.add64; exact rfl; exact rfl; omega; omega) | (apply Ok1.lss_t; exact rfl; exact rfl; omega))) | (apply R.pure; exact rfl; first | (apply Ok1.move; exact rfl) | (apply Ok1.assign; exact rfl))) | apply R.nil | (apply T.is; first | (apply T.draw (id := 6); ((apply A.take 0; exact rfl; exact rfl; kernel_rfl; kernel_rfl; kernel_rfl; (apply Ok1.move; exact rfl)) <;> (apply A.take 1; exact rfl; exact rfl; kernel_rfl; kernel_rfl; kernel_rfl; (apply Ok1.move; exact rfl)) <;> (apply A.take 2; exact rfl; exact rfl; kernel_rfl; kernel_rfl; kernel_rfl; (apply Ok1.indexAddrP; (iterate 4 exact rfl); (exact hpe); exact rfl; omega; omega)) <;> (apply A.take 3; exact rfl; exact rfl; kernel_rfl; kernel_rfl; kernel_rfl; (apply Ok1.load; exact rfl; (apply Ld.rowk0 H; exact rfl; exact List.not_mem_nil; (iterate 3 exact rfl)))) <;> (apply A.take 4; exact rfl; exact rfl; kernel_rfl; kernel_rfl; kernel_rfl; (apply Ok1.move; exact rfl)) <;> (apply A.take 5; exact rfl; exact rfl; kernel_rfl; kernel_rfl; kernel_rfl; (apply Ok1.move; exact rfl)) <;> (apply A.take 6; exact rfl; exact rfl; kernel_rfl; kernel_rfl; kernel_rfl; (apply Ok1.indexAddrP; (iterate 4 exact rfl); (exact hpe'); exact rfl; omega; omega)) <;> (apply A.take 7; exact rfl; exact rfl; kernel_rfl; kernel_rfl; kernel_rfl; (apply Ok1.load; exact rfl; (apply Ld.rowk0 H'; exact rfl; exact List.not_mem_nil; (iterate 3 exact rfl)))) <;> ((apply A.take 8; exact rfl; exact rfl; kernel_rfl; kernel_rfl; kernel_rfl; (apply Ok1.neqFq9 (xs := r.v) (ys := r.v) (q := false); (iterate 7 exact rfl); exact ⟨fun _ => rfl, fun _ => rfl⟩))) <;> (apply A.done; kernel_rfl))) | apply T.seq | apply T.region | apply T.block | apply T.skip | (apply T.cond_t; exact rfl) | (apply T.cond_f; exact rfl)))
      exact ⟨i + 1, by omega, by omega, ⟨rfl, rfl, rfl, rfl, trivial⟩, Keep.nil _⟩
    · repeat' (first | (apply R.is1; first | (apply R.isBin; (apply R.pure; exact rfl; (apply Ok1.lss_f; exact rfl; exact rfl; omega))) | (apply R.pure; exact rfl; (apply Ok1.assign; exact rfl))) | apply R.nil | (apply T.is; first | apply T.seq | apply T.region | apply T.exit | apply T.ret | (apply T.cond_f; exact rfl)))
      (apply RetOk.t; exact rfl)
      rfl
theorem ssame_ok (xv xp : List Int) (hxv : xv.length = 4) (hxp : xp.length = 8) (p1 p2 q1 q2 : Option Addr) (c1 c2 d1 d2 : Nat) (rs : List Rm) (cs : List Cl) (hrl : rs.length ≤ 1000) (hcl : cs.length ≤ 1000) (w : World) (hr1 : RdSl w p1 Rm.v rs) (hr2 : RdSl w p2 Rm.v rs) (hc1 : RdSl w q1 Cl.v cs) (hc2 : RdSl w q2 Cl.v cs) :
    CallW Tryz.prog 11 [.agg ⟨goC (dgV xv xp) (.slice p1 rs.length c1) (.slice q1 cs.length d1)⟩, .agg ⟨goC (dgV xv xp) (.slice p2 rs.length c2) (.slice q2 cs.length d2)⟩] w fun v _ => v = .bool true := by
  have hD := dg_len hxv hxp
  have hDk := dg_allok hxv hxp
  generalize dgV xv xp = D at *
  have hR := fun w1 (hc : Chg [] w w1) => requal_ok p1 p2 c1 c2 rs (by omega) w1 (hr1.chg' hc (fun _ => Off.nil _)) (hr2.chg' hc (fun _ => Off.nil _))
  have hC := fun w1 (hc : Chg [] w w1) => cequal_ok q1 q2 d1 d2 cs (by omega) w1 (hc1.chg' hc (fun _ => Off.nil _)) (hc2.chg' hc (fun _ => Off.nil _))
  refine enterW (tb := tb) Tryz.func11 rfl Tryz.ntmps11 rfl ?_
  repeat' (first | (apply R.is1; first | (apply R.isBin; (apply R.pure; exact rfl; (apply Ok1.eqlFq2 (xs := D) (ys := D) (q := true); (iterate 5 exact rfl); exact hDk; exact hDk; exact ⟨fun _ => rfl, fun _ => rfl⟩))) | (apply R.isCall; first | (apply R.callV (vs := [.slice p1 rs.length c1, .slice p2 rs.length c2]); (iterate 3 exact rfl); intro w1 hw1; exact hR w1 hw1.chg) | (apply R.callV (vs := [.slice q1 cs.length d1, .slice q2 cs.length d2]); (iterate 3 exact rfl); intro w1 hw1; exact hC w1 hw1.chg)) | (apply R.pure; exact rfl; first | (apply Ok1.load; exact rfl; first | (apply Ld.ownk; exact rfl; exact rfl; (focus ((repeat' (first | exact At.head | apply At.tail)); done)); exact goC_D hD _ _) | (apply Ld.own1; exact rfl; exact rfl; (focus ((repeat' (first | exact At.head | apply At.tail)); done)); exact goC_R hD _ _) | (apply Ld.own1; exact rfl; exact rfl; (focus ((repeat' (first | exact At.head | apply At.tail)); done)); exact goC_P hD _ _)) | (apply Ok1.move; exact rfl) | (apply Ok1.fieldAddr; (iterate 5 exact rfl)) | (apply Ok1.assign; exact rfl) | (apply Ok1.pick_t; exact rfl; exact rfl)) | (apply R.box; (iterate 3 exact rfl); intro)) | (apply R.isG; (apply R.guard_run; exact rfl; exact rfl)) | apply R.nil | (apply T.is; first | apply T.seq | apply T.region | apply T.ret))
  all_goals (apply RetOk.t; exact rfl)
  all_goals rfl
section
variable {X : Cx} {σ : Env} {L : Lst} {Rp : Value → Lst → Prop} {a b c' ta tb : Nat} {u v z : Value} {p q : Addr}
theorem RetOk.tct (h1 : look σ a = some u) (h2 : look σ b = some (.pointer (some p))) (h3 : Ld X L tb p v) (h4 : look σ c' = some z) (h : Rp (.tuple ⟨[u, v, z]⟩) L) : RetOk X [.tmp a, .cell b tb, .tmp c'] Rp σ L := ⟨[u, v, z], .tmp h1 (.cell h2 h3 (.tmp h4 .nil)), h⟩
theorem RetOk.cct (h1 : look σ a = some (.pointer (some p))) (h2 : Ld X L ta p u) (h3 : look σ b = some (.pointer (some q))) (h4 : Ld X L tb q v) (h5 : look σ c' = some z) (h : Rp (.tuple ⟨[u, v, z]⟩) L) : RetOk X [.cell a ta, .cell b tb, .tmp c'] Rp σ L := ⟨[u, v, z], .cell h1 h2 (.cell h3 h4 (.tmp h5 .nil)), h⟩
end
def NR (a b : Int) : Prop := 1 ≤ a ∧ a ≤ 65535 ∧ 1 ≤ b ∧ b ≤ 2147483647
instance (a b : Int) : Decidable (NR a b) := by unfold NR; infer_instance
theorem nonce_ok (a b : Int) : CallP Tryz.prog 86 [.agg ⟨[.int .i64 a, .int .i64 b]⟩] (.int .i64 (if NR a b then 0 else 10)) := by
  refine enterP (tb := tb) Tryz.func86 rfl Tryz.ntmps86 rfl fun w => ?_
  repeat' (first | (apply R.is1; first | (apply R.isBin; first | (apply R.lss rfl rfl rfl <;> intro) | (apply R.gtr rfl rfl rfl <;> intro)) | (apply R.pure; exact rfl; first | (apply Ok1.move; exact rfl) | (apply Ok1.fieldAddr; (iterate 5 exact rfl)) | (apply Ok1.load; exact rfl; (apply Ld.own1; exact rfl; exact rfl; exact At.head; exact rfl)) | (apply Ok1.assign; exact rfl) | (apply Ok1.pick_t; exact rfl; exact rfl) | (apply Ok1.pick_f; exact rfl; exact rfl)) | (apply R.box; (iterate 3 exact rfl); intro)) | (apply R.isG; first | (apply R.guard_run; exact rfl; exact rfl) | (apply R.guard_not; (iterate 3 exact rfl))) | apply R.nil | (apply T.is; first | apply T.seq | apply T.region | apply T.skip | apply T.ret | (apply T.cond_t; exact rfl) | (apply T.cond_f; exact rfl)))
  all_goals (apply RetOk.t; exact rfl)
  all_goals first
    | (rw [if_pos (by unfold NR; omega)]; done)
    | (rw [if_neg (by unfold NR; omega)]; done)
def Rs.wA (s : Rs) : Rs := (s.num 2).2.2
def Rs.wB (s : Rs) : Rs := (s.wA.num 4).2.2
def Rs.wv (s : Rs) : Int × Int := ((s.num 2).1, (s.wA.num 4).1)
def rdW (s : Rs) : (Int × Int) × Int := if s.wB.e ≠ 0 then ((0, 0), s.wB.e) else if NR s.wv.1 s.wv.2 then (s.wv, 0) else ((0, 0), 3)
theorem wread_ok (br : Nat) (s : Rs) (w : World) (hs : s.ok br w) : CallM Tryz.prog 58 [.pointer (some ⟨br, 0, none⟩)] (s.L br) w fun v L => v = .tuple #[.agg ⟨[.int .i64 (rdW s).1.1, .int .i64 (rdW s).1.2]⟩, .int .i64 (rdW s).2] ∧ L = s.wB.L br := by
  have hbl0 := rL_blk s br
  have oA : s.wA.ok br w := hs.num 2
  have h1 : ∀ w1, s.ok br w1 → CallM Tryz.prog 90 [.pointer (some ⟨br, 0, none⟩), .int .i64 1] (s.L br) w1 fun v L => v = .int .i64 s.wv.1 ∧ L = s.wA.L br := fun w1 h => rnum_ok br s 1 2 (by decide) rfl w1 h
  have h2 : ∀ w1, s.wA.ok br w1 → CallM Tryz.prog 90 [.pointer (some ⟨br, 0, none⟩), .int .i64 2] (s.wA.L br) w1 fun v L => v = .int .i64 s.wv.2 ∧ L = s.wB.L br := fun w1 h => rnum_ok br s.wA 2 4 (by decide) rfl w1 h
  have hre := fun w1 h => rerr_ok br s.wB w1 h
  have hck := nonce_ok s.wv.1 s.wv.2
  have hD : rdW s = if s.wB.e ≠ 0 then ((0, 0), s.wB.e) else if NR s.wv.1 s.wv.2 then (s.wv, 0) else ((0, 0), 3) := rfl
  have hm3 : (br, Obj.cells ⟨[.slice s.wB.q s.wB.xs.length s.wB.cap, .int .i64 s.wB.e]⟩ 173 (0, 0)) ∈ s.wB.L br := by simp [Rs.L]
  generalize hL4 : s.wB.L br = L4 at *
  generalize s.wB = s4 at *
  generalize hLA : s.wA.L br = LA at *
  generalize s.wA = sA at *
  generalize s.wv = c at *
  generalize rdW s = rd at *
  generalize hLS : s.L br = LS at *
  refine enterK (tb := tb) Tryz.func58 rfl Tryz.ntmps58 rfl ?_
  by_cases he : s4.e = 0
  · rw [if_neg (fun h => h he)] at hD
    rw [he] at hre hm3
    by_cases hr : NR c.1 c.2
    · rw [if_pos hr] at hD hck
      subst hD
      repeat' (first | (apply R.is1; first | (apply R.isBin; (apply R.pure; exact rfl; (apply Ok1.neq_f; exact rfl; exact rfl; omega))) | (apply R.isCall; first | (apply R.callE (Li := LS) (vs := [.pointer (some ⟨br, 0, none⟩), .int .i64 1]); (iterate 3 exact rfl); (focus ((repeat' (first | exact Ext.all _ | apply Ext.cons)); done)); intro w1 hw1; exact h1 w1 (hs.chg hw1.chg hbl0); rintro v Lo ⟨rfl, hq⟩; rw [hq]; clear hq) | (apply R.callE (Li := LA) (vs := [.pointer (some ⟨br, 0, none⟩), .int .i64 2]); (iterate 3 exact rfl); (focus ((repeat' (exact Ext.here _ _)); done)); intro w1 hw1; exact h2 w1 (oA.chg hw1.chg hbl0); rintro v Lo ⟨rfl, hq⟩; rw [hq]; clear hq) | (apply R.callV (vs := [.pointer (some ⟨br, 0, none⟩)]); (iterate 3 exact rfl); intro w1 hw1; (apply hre w1; apply hw1.get; apply Ext.memI9 hm3; (focus ((repeat' (first | exact Ext.here _ _ | apply Ext.cons)); done)))) | apply R.callP rfl rfl rfl hck) | (apply R.pure; exact rfl; first | (apply Ok1.move; exact rfl) | (apply Ok1.load; exact rfl; (apply Ld.ownk; exact rfl; exact rfl; exact At.head; exact rfl)) | (apply Ok1.assign; exact rfl) | (apply Ok1.build; (iterate 5 exact rfl))) | (apply R.alloc; (iterate 3 exact rfl); intro)) | (apply R.is0; (apply R.store; (iterate 6 exact rfl); (focus ((repeat' (first | exact Upd.head | apply Upd.tail | apply Upd.right)); done)); exact rfl)) | apply R.nil | (apply T.is; first | apply T.seq | apply T.region | apply T.skip | apply T.ret | (apply T.cond_f; exact rfl)))
      (apply RetOk.ct; exact rfl; ((apply Ld.ownk; exact rfl; exact rfl; (focus ((repeat' (first | exact At.head | apply At.tail | apply At.right)); done)); exact rfl)); exact rfl)
      exact ⟨_, by (focus ((repeat' (first | exact Ext.here _ _ | apply Keep.last | apply Ext.cons)); done)), rfl, rfl⟩
    · rw [if_neg hr] at hD hck
      subst hD
      repeat' (first | (apply R.is1; first | (apply R.isBin; (apply R.pure; exact rfl; first | (apply Ok1.neq_t; exact rfl; exact rfl; omega) | (apply Ok1.neq_f; exact rfl; exact rfl; omega))) | (apply R.isCall; first | (apply R.callE (Li := LS) (vs := [.pointer (some ⟨br, 0, none⟩), .int .i64 1]); (iterate 3 exact rfl); (focus ((repeat' (first | exact Ext.all _ | apply Ext.cons)); done)); intro w1 hw1; exact h1 w1 (hs.chg hw1.chg hbl0); rintro v Lo ⟨rfl, hq⟩; rw [hq]; clear hq) | (apply R.callE (Li := LA) (vs := [.pointer (some ⟨br, 0, none⟩), .int .i64 2]); (iterate 3 exact rfl); (focus ((repeat' (exact Ext.here _ _)); done)); intro w1 hw1; exact h2 w1 (oA.chg hw1.chg hbl0); rintro v Lo ⟨rfl, hq⟩; rw [hq]; clear hq) | (apply R.callV (vs := [.pointer (some ⟨br, 0, none⟩)]); (iterate 3 exact rfl); intro w1 hw1; (apply hre w1; apply hw1.get; apply Ext.memI9 hm3; (focus ((repeat' (first | exact Ext.here _ _ | apply Ext.cons)); done)))) | apply R.callP rfl rfl rfl hck) | (apply R.pure; exact rfl; first | (apply Ok1.move; exact rfl) | (apply Ok1.load; exact rfl; (apply Ld.ownk; exact rfl; exact rfl; exact At.head; exact rfl)) | (apply Ok1.assign; exact rfl) | (apply Ok1.build; (iterate 5 exact rfl))) | (apply R.alloc; (iterate 3 exact rfl); intro)) | (apply R.is0; (apply R.store; (iterate 6 exact rfl); (focus ((repeat' (first | exact Upd.head | apply Upd.tail | apply Upd.right)); done)); exact rfl)) | apply R.nil | (apply T.is; first | apply T.seq | apply T.region | apply T.skip | apply T.ret | (apply T.cond_t; exact rfl) | (apply T.cond_f; exact rfl)))
      (apply RetOk.ct; exact rfl; ((apply Ld.ownk; exact rfl; exact rfl; (focus ((repeat' (first | exact At.head | apply At.tail | apply At.right)); done)); exact rfl)); exact rfl)
      exact ⟨_, by (focus ((repeat' (first | exact Ext.here _ _ | apply Keep.last | apply Ext.cons)); done)), rfl, rfl⟩
  · rw [if_pos he] at hD
    subst hD
    repeat' (first | (apply R.is1; first | (apply R.isBin; (apply R.pure; exact rfl; (apply Ok1.neq_t; exact rfl; exact rfl; omega))) | (apply R.isCall; first | (apply R.callE (Li := LS) (vs := [.pointer (some ⟨br, 0, none⟩), .int .i64 1]); (iterate 3 exact rfl); (focus ((repeat' (first | exact Ext.all _ | apply Ext.cons)); done)); intro w1 hw1; exact h1 w1 (hs.chg hw1.chg hbl0); rintro v Lo ⟨rfl, hq⟩; rw [hq]; clear hq) | (apply R.callE (Li := LA) (vs := [.pointer (some ⟨br, 0, none⟩), .int .i64 2]); (iterate 3 exact rfl); (focus ((repeat' (exact Ext.here _ _)); done)); intro w1 hw1; exact h2 w1 (oA.chg hw1.chg hbl0); rintro v Lo ⟨rfl, hq⟩; rw [hq]; clear hq) | (apply R.callV (vs := [.pointer (some ⟨br, 0, none⟩)]); (iterate 3 exact rfl); intro w1 hw1; (apply hre w1; apply hw1.get; apply Ext.memI9 hm3; (focus ((repeat' (first | exact Ext.here _ _ | apply Ext.cons)); done))))) | (apply R.pure; exact rfl; first | (apply Ok1.move; exact rfl) | (apply Ok1.assign; exact rfl) | (apply Ok1.build; (iterate 5 exact rfl))) | (apply R.alloc; (iterate 3 exact rfl); intro)) | (apply R.is0; (apply R.store; (iterate 6 exact rfl); (focus ((repeat' (first | exact Upd.head | apply Upd.tail | apply Upd.right)); done)); exact rfl)) | apply R.nil | (apply T.is; first | apply T.seq | apply T.region | apply T.ret | (apply T.cond_t; exact rfl)))
    all_goals (apply RetOk.ct; exact rfl; ((apply Ld.ownk; exact rfl; exact rfl; (focus ((repeat' (first | exact At.head | apply At.tail | apply At.right)); done)); exact rfl)); exact rfl)
    all_goals exact ⟨_, by (focus ((repeat' (first | exact Ext.here _ _ | apply Keep.last | apply Ext.cons)); done)), rfl, rfl⟩
theorem Rs.num_many {s : Rs} {k : Nat} (he : s.e = 0) (h : k ≤ s.xs.length) (hv : beN (s.xs.take k) ≤ 9223372036854775807) : s.num k = (beN (s.xs.take k), true, s.drop k) := by
  unfold Rs.num
  rw [if_neg (by omega), if_pos hv]
end Go.Proofs.YtplhnkmmhndkjaaGreat
set_option linter.unusedSimpArgs false
set_option linter.unusedVariables false
namespace Go.Proofs.YtplhnkmmhndkjaaGreat
open Go.RowKit Go.Shelf
set_option maxRecDepth 100000
def ZK (z k : Nat) : Prop := z = 0 ∧ k = 1 ∨ z = 1 ∧ k = 2 ∨ z = 2 ∧ k = 4
theorem nums0 {xs : List Int} (hb : Byt xs) : numsI 0 xs = xs := by
  induction xs with
  | nil => rfl
  | cons a l ih =>
    have ha := hb a (by simp)
    have := ih (fun y hy => hb y (List.mem_cons_of_mem _ hy))
    simp only [numsI, List.flatMap_cons] at this ⊢
    rw [num0 ha.1 ha.2, this]
    rfl
theorem drop_suffix {a b xs : List Int} (e : xs = a ++ b) : xs.drop (xs.length - b.length) = b := by subst e; simp
end Go.Proofs.YtplhnkmmhndkjaaGreat
set_option linter.unusedSimpArgs false
set_option linter.unusedVariables false
namespace Go.Proofs.YtplhnkmmhndkjaaGreat
open Go.RowKit Go.Shelf
set_option maxRecDepth 100000
theorem pG_len (xs : List Int) : (pG xs).vs.length = 4 ∧ (pG xs).p8.length = 8 := by
  have h := rdD_len (R0 xs)
  unfold pG
  split
  · exact ⟨rfl, rfl⟩
  · split
    · exact ⟨rfl, rfl⟩
    · split
      · exact ⟨rfl, rfl⟩
      · split
        · exact ⟨rfl, rfl⟩
        · exact h
end Go.Proofs.YtplhnkmmhndkjaaGreat
set_option linter.unusedSimpArgs false
set_option linter.unusedVariables false
namespace Go.Proofs.YtplhnkmmhndkjaaGreat
open Go.RowKit Go.Shelf Go.Sort
set_option maxRecDepth 100000
theorem refCheck_ok (r : Rm) : CallP Tryz.prog 83 [.agg ⟨r.v⟩] (.int .i64 r.chk) := by
  have hR := right_ok r.cl.id r.cl.roles r.cl.exp r.cl.ser
  by_cases hr : r.cl.right
  · have hr' : Cl.right ⟨r.cl.id, r.cl.roles, r.cl.exp, r.cl.ser⟩ := hr
    rw [decide_eq_true hr'] at hR
    refine enterP (tb := tb) Tryz.func83 rfl Tryz.ntmps83 rfl fun w => ?_
    simp only [Rm.v]
    repeat' (first | (apply R.is1; first | (apply R.isBin; first | (apply R.pure; exact rfl; first | (apply Ok1.lss_t; exact rfl; exact rfl; omega) | (apply Ok1.lss_f; exact rfl; exact rfl; omega) | (apply Ok1.gtr_t; exact rfl; exact rfl; omega) | (apply Ok1.gtr_f; exact rfl; exact rfl; omega)) | (apply R.lss rfl rfl rfl <;> intro) | (apply R.gtr rfl rfl rfl <;> intro)) | (apply R.isCall; first | apply R.callP rfl rfl rfl hR) | (apply R.pure; exact rfl; first | (apply Ok1.move; exact rfl) | (apply Ok1.fieldAddr; (iterate 5 exact rfl)) | (apply Ok1.load; exact rfl; first | (apply Ld.own1; exact rfl; exact rfl; (focus ((repeat' (first | exact At.head | apply At.tail | apply At.right)); done)); exact rfl) | (apply Ld.ownk; exact rfl; exact rfl; (focus ((repeat' (first | exact At.head | apply At.tail | apply At.right)); done)); exact rfl) | (apply Ld.old1; exact rfl; exact rfl; assumption; (first | exact List.not_mem_nil | assumption)) | (apply Ld.blk1; exact rfl; exact rfl; assumption; (first | exact List.not_mem_nil | assumption); exact rfl) | (apply Ld.blkk; exact rfl; exact rfl; assumption; (first | exact List.not_mem_nil | assumption); exact rfl)) | (apply Ok1.assign; exact rfl) | (apply Ok1.pick_t; exact rfl; exact rfl) | (apply Ok1.pick_f; exact rfl; exact rfl) | (apply Ok1.pick_h; exact rfl; assumption; exact rfl) | (apply Ok1.pick_n; exact rfl; assumption; exact rfl) | (apply Ok1.not_t; exact rfl) | (apply Ok1.not_f; exact rfl) | (apply Ok1.not; exact rfl) | (apply Ok1.neg; exact rfl)) | (apply R.box; (iterate 3 exact rfl); intro)) | (apply R.is0; first | fail) | (apply R.isG; first | (apply R.guard_run; exact rfl; exact rfl) | (apply R.guard_not; (iterate 3 exact rfl)) | (apply R.guard_not0; exact rfl; exact rfl) | (apply R.guard_un; (iterate 3 exact rfl)) | (apply R.guard_un0; exact rfl; exact rfl) | (apply R.guard rfl rfl ?_ (fun h => ⟨rfl, ?_⟩) <;> try intro)) | apply R.nil | (apply T.is; first | apply T.seq | apply T.region | apply T.block | apply T.scope | apply T.label | apply T.skip | apply T.exit | apply T.ret | (apply T.cond_t; exact rfl) | (apply T.cond_f; exact rfl) | (apply T.cond_h; exact rfl; assumption) | (apply T.cond_n; exact rfl; assumption) | (apply T.cond rfl <;> intro)) | apply Rnd.step)
    all_goals (apply RetOk.t; exact rfl)
    all_goals simp only [Rm.chk, hr, not_true, false_or]
    all_goals congr 1
    all_goals repeat' split
    all_goals first | rfl | omega
  · have hr' : ¬ Cl.right ⟨r.cl.id, r.cl.roles, r.cl.exp, r.cl.ser⟩ := hr
    rw [decide_eq_false hr'] at hR
    refine enterP (tb := tb) Tryz.func83 rfl Tryz.ntmps83 rfl fun w => ?_
    simp only [Rm.v]
    repeat' (first | (apply R.is1; first | (apply R.isBin; first | (apply R.pure; exact rfl; first | (apply Ok1.lss_t; exact rfl; exact rfl; omega) | (apply Ok1.lss_f; exact rfl; exact rfl; omega) | (apply Ok1.gtr_t; exact rfl; exact rfl; omega) | (apply Ok1.gtr_f; exact rfl; exact rfl; omega)) | (apply R.lss rfl rfl rfl <;> intro) | (apply R.gtr rfl rfl rfl <;> intro)) | (apply R.isCall; first | apply R.callP rfl rfl rfl hR) | (apply R.pure; exact rfl; first | (apply Ok1.move; exact rfl) | (apply Ok1.fieldAddr; (iterate 5 exact rfl)) | (apply Ok1.load; exact rfl; first | (apply Ld.own1; exact rfl; exact rfl; (focus ((repeat' (first | exact At.head | apply At.tail | apply At.right)); done)); exact rfl) | (apply Ld.ownk; exact rfl; exact rfl; (focus ((repeat' (first | exact At.head | apply At.tail | apply At.right)); done)); exact rfl) | (apply Ld.old1; exact rfl; exact rfl; assumption; (first | exact List.not_mem_nil | assumption)) | (apply Ld.blk1; exact rfl; exact rfl; assumption; (first | exact List.not_mem_nil | assumption); exact rfl) | (apply Ld.blkk; exact rfl; exact rfl; assumption; (first | exact List.not_mem_nil | assumption); exact rfl)) | (apply Ok1.assign; exact rfl) | (apply Ok1.pick_t; exact rfl; exact rfl) | (apply Ok1.pick_f; exact rfl; exact rfl) | (apply Ok1.pick_h; exact rfl; assumption; exact rfl) | (apply Ok1.pick_n; exact rfl; assumption; exact rfl) | (apply Ok1.not_t; exact rfl) | (apply Ok1.not_f; exact rfl) | (apply Ok1.not; exact rfl) | (apply Ok1.neg; exact rfl)) | (apply R.box; (iterate 3 exact rfl); intro)) | (apply R.is0; first | fail) | (apply R.isG; first | (apply R.guard_run; exact rfl; exact rfl) | (apply R.guard_not; (iterate 3 exact rfl)) | (apply R.guard_not0; exact rfl; exact rfl) | (apply R.guard_un; (iterate 3 exact rfl)) | (apply R.guard_un0; exact rfl; exact rfl) | (apply R.guard rfl rfl ?_ (fun h => ⟨rfl, ?_⟩) <;> try intro)) | apply R.nil | (apply T.is; first | apply T.seq | apply T.region | apply T.block | apply T.scope | apply T.label | apply T.skip | apply T.exit | apply T.ret | (apply T.cond_t; exact rfl) | (apply T.cond_f; exact rfl) | (apply T.cond_h; exact rfl; assumption) | (apply T.cond_n; exact rfl; assumption) | (apply T.cond rfl <;> intro)) | apply Rnd.step)
    all_goals (apply RetOk.t; exact rfl)
    all_goals simp only [Rm.chk, hr, not_false_eq_true, true_or, if_true]
    all_goals congr 1
    all_goals repeat' split
    all_goals first | rfl | omega
end Go.Proofs.YtplhnkmmhndkjaaGreat
set_option linter.unusedSimpArgs false
set_option linter.unusedVariables false
namespace Go.Proofs.YtplhnkmmhndkjaaGreat
open Go.RowKit Go.Shelf
set_option maxRecDepth 100000
/-- Bytes that can be read in each world in which the blocks ex are as they are told. -/
def RdX (w : World) (p : Option Addr) (ex : Lst) (k : List Int) : Prop := k = [] ∨ ∃ b o, p = some ⟨b, o, none⟩ ∧ ∀ w1 L1, Hp w [] L1 w1 → (∀ z ∈ ex, z ∈ L1) → ∀ (i : Nat) v, k[i]? = some v → w1.cell? ⟨b, o + (i : Int).toNat * 1, none⟩ = some (.int .u8 v)
theorem RdX.of {w : World} {p : Option Addr} {k : List Int} (h : RdSl w p u8V k) : RdX w p [] k := by
  rcases h with h | ⟨b, o, hp, h⟩
  · exact .inl h
  · refine .inr ⟨b, o, hp, fun w1 L1 hw1 _ i v hv => ?_⟩
    obtain ⟨hi, rfl⟩ := List.getElem?_eq_some_iff.1 hv
    rw [fl_u8] at h
    rw [show o + (i : Int).toNat * 1 = o + i by omega]
    refine hw1.old ((h i (by rw [u8s_len]; exact hi)).trans ?_) List.not_mem_nil
    simp [u8s, hi]
theorem RdX.own {w : World} {b : Nat} {e : TypeId} {fz : Nat × Nat} {k : List Int} : RdX w (some ⟨b, 0, none⟩) [(b, .cells ⟨u8s k⟩ e fz)] k := by
  refine .inr ⟨b, 0, rfl, fun w1 L1 hw1 hin i v hv => ?_⟩
  obtain ⟨hi, rfl⟩ := List.getElem?_eq_some_iff.1 hv
  have h1 := hw1.get b _ (hin _ List.mem_cons_self)
  rw [show 0 + (i : Int).toNat * 1 = i by omega]
  simp [World.cell?, h1, u8s, hi]
end Go.Proofs.YtplhnkmmhndkjaaGreat
set_option linter.unusedSimpArgs false
set_option linter.unusedVariables false
namespace Go.Proofs.YtplhnkmmhndkjaaGreat
open Go.RowKit Go.Shelf
set_option maxRecDepth 100000
theorem vwidth_ok (s : Nat) (h : s ≤ 2) : CallP Tryz.prog 114 [.int .i64 s] (.int .i64 ((2 ^ s : Nat) : Int)) := by
  have hs : s = 0 ∨ s = 1 ∨ s = 2 := by omega
  refine enterP (tb := tb) Tryz.func114 rfl Tryz.ntmps114 rfl fun w => ?_
  rcases hs with rfl | rfl | rfl
  all_goals repeat' (first | (apply R.is1; first | (apply R.pure; exact rfl; first | (apply Ok1.move; exact rfl) | (apply Ok1.assign; exact rfl) | (apply Ok1.build; (iterate 5 exact rfl)) | (apply Ok1.index1; (iterate 6 exact rfl); omega; omega; exact rfl) | (apply Ok1.indexk; (iterate 6 exact rfl); omega; omega; exact rfl) | (apply Ok1.buildA; (iterate 6 exact rfl)))) | (apply R.is0; first | fail) | (apply R.isG; first | (apply R.guard_run; exact rfl; exact rfl) | (apply R.guard_not; (iterate 3 exact rfl)) | (apply R.guard_not0; exact rfl; exact rfl) | (apply R.guard_un; (iterate 3 exact rfl)) | (apply R.guard_un0; exact rfl; exact rfl) | (apply R.guard rfl rfl ?_ (fun h => ⟨rfl, ?_⟩) <;> try intro)) | apply R.nil | (apply T.is; first | apply T.seq | apply T.region | apply T.block | apply T.scope | apply T.label | apply T.skip | apply T.exit | apply T.ret | (apply T.cond_t; exact rfl) | (apply T.cond_f; exact rfl) | (apply T.cond_h; exact rfl; assumption) | (apply T.cond_n; exact rfl; assumption) | (apply T.cond rfl <;> intro)) | apply Rnd.step)
  all_goals (apply RetOk.t; exact rfl)
  all_goals rfl
def beI : Nat → Int → List Int → List Int
  | 0, _, a => a
  | w + 1, n, a => beI w (n / 256) (n % 256 :: a)
theorem beI_len : ∀ (w : Nat) (n : Int) (a : List Int), (beI w n a).length = w + a.length
  | 0, _, a => by simp [beI]
  | w + 1, n, a => by rw [beI, beI_len w]; simp; omega
theorem vout_ok (s : Nat) (hs : s ≤ 2) (n : Int) (h0 : 0 ≤ n) (h1 : n ≤ 1099511627776) (w : World) : CallM Tryz.prog 82 [.agg ⟨[.int .i64 s, .int .i64 n, .slice none 0 0]⟩] [] w fun v L => ∃ ov, OvOk 1 ov (2 ^ s) (u8s (beI (2 ^ s) n [])) ∧ v = slV ov (2 ^ s) ∧ L = blkL 5 ov (u8s (beI (2 ^ s) n [])) := by
  have hw := vwidth_ok s hs
  have hs4 : (s : Int) ≠ 4 := by omega
  have hpw : 2 ^ s ≤ 4 := by
    have : s = 0 ∨ s = 1 ∨ s = 2 := by omega
    rcases this with rfl | rfl | rfl <;> decide
  have hbl := beI_len (2 ^ s) n []
  generalize hW : 2 ^ s = W at *
  rw [List.length_nil, Nat.add_zero] at hbl
  obtain ⟨V, hV⟩ : ∃ V, V = beI W n [] := ⟨_, rfl⟩
  rw [← hV] at hbl ⊢
  refine enterK (tb := tb) Tryz.func82 rfl Tryz.ntmps82 rfl ?_
  repeat' (first | (apply R.is1; first | (apply R.isBin; first | (apply R.pure; exact rfl; first | (apply Ok1.add64; exact rfl; exact rfl; omega; omega) | (apply Ok1.lss_t; exact rfl; exact rfl; omega) | (apply Ok1.lss_f; exact rfl; exact rfl; omega) | (apply Ok1.eql_t; exact rfl; exact rfl; omega) | (apply Ok1.eql_f; exact rfl; exact rfl; omega) | (apply Ok1.quo64; exact rfl; exact rfl; omega; omega; omega) | (apply Ok1.remN; exact rfl; exact rfl; omega; omega) | (apply Ok1.eqlP; (iterate 5 exact rfl)) | (apply Ok1.eqlM; (iterate 5 exact rfl)) | (apply Ok1.eqlS; (iterate 5 exact rfl))) | (apply R.lss rfl rfl rfl <;> intro) | (apply R.eql rfl rfl rfl <;> intro) | (apply R.eqlF; (iterate 8 exact rfl); all_goals intro)) | (apply R.isCall; first | (apply R.pure; exact rfl; first | (apply Ok1.lenS; (iterate 3 exact rfl)) | (apply Ok1.lenStr; (iterate 3 exact rfl)) | (apply Ok1.lenMm; (iterate 3 exact rfl); (focus ((repeat' (first | exact At.head | apply At.tail | apply At.right)); done))) | (apply Ok1.lenM_nil; (iterate 3 exact rfl)))) | (apply R.pure; exact rfl; first | (apply Ok1.move; exact rfl) | (apply Ok1.fieldAddr; (iterate 5 exact rfl)) | (apply Ok1.load; exact rfl; first | (apply Ld.own1; exact rfl; exact rfl; (focus ((repeat' (first | exact At.head | apply At.tail | apply At.right)); done)); exact rfl) | (apply Ld.ownk; exact rfl; exact rfl; (focus ((repeat' (first | exact At.head | apply At.tail | apply At.right)); done)); exact rfl) | (apply Ld.old1; exact rfl; exact rfl; assumption; (first | exact List.not_mem_nil | assumption)) | (apply Ld.blk1; exact rfl; exact rfl; assumption; (first | exact List.not_mem_nil | assumption); exact rfl) | (apply Ld.blkk; exact rfl; exact rfl; assumption; (first | exact List.not_mem_nil | assumption); exact rfl)) | (apply Ok1.assign; exact rfl) | (apply Ok1.convI64; (iterate 5 exact rfl); omega; omega) | (apply Ok1.convU64; (iterate 5 exact rfl); omega; omega) | (apply Ok1.convU32; (iterate 5 exact rfl); omega; omega) | (apply Ok1.convU8; (iterate 5 exact rfl); omega; omega) | (apply Ok1.conv; (iterate 5 exact rfl))) | (apply R.box; (iterate 3 exact rfl); intro) | (apply R.buildSlice; (iterate 12 exact rfl); intro)) | (apply R.is0; first | fail) | (apply R.isG; first | (apply R.guard_run; exact rfl; exact rfl) | (apply R.guard_not; (iterate 3 exact rfl)) | (apply R.guard_not0; exact rfl; exact rfl) | (apply R.guard_un; (iterate 3 exact rfl)) | (apply R.guard_un0; exact rfl; exact rfl) | (apply R.guard rfl rfl ?_ (fun h => ⟨rfl, ?_⟩) <;> try intro)) | apply R.nil | (apply T.is; first | apply T.seq | apply T.region | apply T.block | apply T.scope | apply T.label | apply T.skip | apply T.exit | apply T.ret | (apply T.cond_t; exact rfl) | (apply T.cond_f; exact rfl) | (apply T.cond_h; exact rfl; assumption) | (apply T.cond_n; exact rfl; assumption) | (apply T.cond rfl <;> intro)) | apply Rnd.step)
  rename_i bF
  apply T.loopK (α := Nat × Ov × List Int × Int) (I := fun y => y.1 ≤ W ∧ y.2.2.1.length = y.1 ∧ OvOk 1 y.2.1 y.2.2.1.length (u8s y.2.2.1) ∧ 0 ≤ y.2.2.2 ∧ y.2.2.2 ≤ 1099511627776 ∧ beI (W - y.1) y.2.2.2 y.2.2.1 = V) (σi := fun y => [(1, .pointer (some ⟨bF, 0, none⟩)), (3, .slice (ovp y.2.1) y.2.2.1.length (ovc y.2.1 y.2.2.1.length)), (4, .int .i64 y.2.2.2), (5, .int .i64 y.1)]) (Li := fun y => (bF, .cells ⟨[.int .i64 s, .int .i64 n, .slice none 0 0]⟩ 164 (0, 0)) :: blkL 5 y.2.1 (u8s y.2.2.1)) (μ := fun y => W - y.1) (i0 := (0, none, [], n))
  · exact ⟨Nat.zero_le _, rfl, OvOk.start 1, h0, h1, hV.symm⟩
  · exact ⟨rfl, rfl, rfl, rfl, trivial⟩
  · (focus ((repeat' (first | exact Keep.nil _ | exact Ext.one _ _ | exact Ext.here _ _ | exact Ext.all _ | apply Keep.cons | apply Keep.app | apply Keep.last | apply Ext.cons | apply Ext.app)); done))
  · rintro ⟨i, ov, bs, m⟩ ⟨hi, hl, hov, hm0, hm1, hbe⟩
    simp only at hi hl hov hm0 hm1 hbe ⊢
    rcases Nat.lt_or_ge i W with hlt | hge
    · have hb2 : beI (W - (i + 1)) (m / 256) (m % 256 :: bs) = V := by
        rw [show W - i = (W - (i + 1)) + 1 by omega] at hbe; exact hbe
      repeat' (first | (apply R.is1; first | (apply R.isBin; first | (apply R.pure; exact rfl; first | (apply Ok1.add64; exact rfl; exact rfl; omega; omega) | (apply Ok1.lss_t; exact rfl; exact rfl; omega) | (apply Ok1.lss_f; exact rfl; exact rfl; omega) | (apply Ok1.eql_t; exact rfl; exact rfl; omega) | (apply Ok1.eql_f; exact rfl; exact rfl; omega) | (apply Ok1.quo64; exact rfl; exact rfl; omega; omega; omega) | (apply Ok1.remN; exact rfl; exact rfl; omega; omega) | (apply Ok1.eqlP; (iterate 5 exact rfl)) | (apply Ok1.eqlM; (iterate 5 exact rfl)) | (apply Ok1.eqlS; (iterate 5 exact rfl))) | (apply R.lss rfl rfl rfl <;> intro) | (apply R.eql rfl rfl rfl <;> intro) | (apply R.eqlF; (iterate 8 exact rfl); all_goals intro)) | (apply R.isCall; first | apply R.callP rfl rfl rfl hw | (apply R.appendRd (xs := bs) (v := u8V) (sz := 1) (ov := some (_, 0, [])) (n := 1) (old := [.int .u8 (m % 256)]); (iterate 12 exact rfl); exact ⟨rfl, rfl⟩; (focus ((repeat' (first | exact Ext.none _ | exact Ext.one _ _ | exact Ext.here _ _ | exact Ext.all _ | apply Ext.cons | apply Ext.app | apply Ext.two)); done)); exact rfl; exact u8V_len; exact rfl; (intro w1 hw1; exact rdown hov hw1 (Ext.mem (by (focus ((repeat' (first | exact Ext.none _ | exact Ext.one _ _ | exact Ext.here _ _ | exact Ext.all _ | apply Ext.cons | apply Ext.app | apply Ext.two)); done))))); (focus (rw [fl_u8]; exact u8s_one bs)); omega; intro ov1 hov1 hsome; rw [fl_u8, Nat.add_comm] at hov1; change OvOk 1 ov1 (m % 256 :: bs).length (u8s (m % 256 :: bs)) at hov1; rw [fl_u8]) | (apply R.pure; exact rfl; first | (apply Ok1.lenS; (iterate 3 exact rfl)) | (apply Ok1.lenStr; (iterate 3 exact rfl)) | (apply Ok1.lenMm; (iterate 3 exact rfl); (focus ((repeat' (first | exact At.head | apply At.tail | apply At.right)); done))) | (apply Ok1.lenM_nil; (iterate 3 exact rfl)))) | (apply R.pure; exact rfl; first | (apply Ok1.move; exact rfl) | (apply Ok1.fieldAddr; (iterate 5 exact rfl)) | (apply Ok1.load; exact rfl; first | (apply Ld.own1; exact rfl; exact rfl; (focus ((repeat' (first | exact At.head | apply At.tail | apply At.right)); done)); exact rfl) | (apply Ld.ownk; exact rfl; exact rfl; (focus ((repeat' (first | exact At.head | apply At.tail | apply At.right)); done)); exact rfl) | (apply Ld.old1; exact rfl; exact rfl; assumption; (first | exact List.not_mem_nil | assumption)) | (apply Ld.blk1; exact rfl; exact rfl; assumption; (first | exact List.not_mem_nil | assumption); exact rfl) | (apply Ld.blkk; exact rfl; exact rfl; assumption; (first | exact List.not_mem_nil | assumption); exact rfl)) | (apply Ok1.assign; exact rfl) | (apply Ok1.convI64; (iterate 5 exact rfl); omega; omega) | (apply Ok1.convU64; (iterate 5 exact rfl); omega; omega) | (apply Ok1.convU32; (iterate 5 exact rfl); omega; omega) | (apply Ok1.convU8; (iterate 5 exact rfl); omega; omega) | (apply Ok1.conv; (iterate 5 exact rfl))) | (apply R.box; (iterate 3 exact rfl); intro) | (apply R.buildSlice; (iterate 12 exact rfl); intro)) | (apply R.is0; first | fail) | (apply R.isG; first | (apply R.guard_run; exact rfl; exact rfl) | (apply R.guard_not; (iterate 3 exact rfl)) | (apply R.guard_not0; exact rfl; exact rfl) | (apply R.guard_un; (iterate 3 exact rfl)) | (apply R.guard_un0; exact rfl; exact rfl) | (apply R.guard rfl rfl ?_ (fun h => ⟨rfl, ?_⟩) <;> try intro)) | apply R.nil | (apply T.is; first | apply T.seq | apply T.region | apply T.block | apply T.scope | apply T.label | apply T.skip | apply T.exit | apply T.ret | (apply T.cond_t; exact rfl) | (apply T.cond_f; exact rfl) | (apply T.cond_h; exact rfl; assumption) | (apply T.cond_n; exact rfl; assumption) | (apply T.cond rfl <;> intro)) | apply Rnd.step)
      exact ⟨(i + 1, ov1, m % 256 :: bs, m / 256), ⟨by simp only; omega, by simp only [List.length_cons, hl], hov1, by simp only; omega, by simp only; omega, hb2⟩, by simp only; omega, ⟨rfl, by simp only; rw [← slV_eq hov1, List.length_cons, Nat.add_comm]; rfl, rfl, rfl, trivial⟩, by (focus ((repeat' (first | exact Keep.nil _ | exact Ext.one _ _ | exact Ext.here _ _ | exact Ext.all _ | apply Keep.cons | apply Keep.app | apply Keep.last | apply Ext.cons | apply Ext.app)); done))⟩
    · have he : i = W := by omega
      subst he
      rw [Nat.sub_self] at hbe
      have hbv : bs = V := hbe
      subst hbv
      rw [← slV_eq hov]
      repeat' (first | (apply R.is1; first | (apply R.isBin; first | (apply R.pure; exact rfl; first | (apply Ok1.add64; exact rfl; exact rfl; omega; omega) | (apply Ok1.lss_t; exact rfl; exact rfl; omega) | (apply Ok1.lss_f; exact rfl; exact rfl; omega) | (apply Ok1.eql_t; exact rfl; exact rfl; omega) | (apply Ok1.eql_f; exact rfl; exact rfl; omega) | (apply Ok1.quo64; exact rfl; exact rfl; omega; omega; omega) | (apply Ok1.remN; exact rfl; exact rfl; omega; omega) | (apply Ok1.eqlP; (iterate 5 exact rfl)) | (apply Ok1.eqlM; (iterate 5 exact rfl)) | (apply Ok1.eqlS; (iterate 5 exact rfl))) | (apply R.lss rfl rfl rfl <;> intro) | (apply R.eql rfl rfl rfl <;> intro) | (apply R.eqlF; (iterate 8 exact rfl); all_goals intro)) | (apply R.isCall; first | apply R.callP rfl rfl rfl hw | (apply R.pure; exact rfl; first | (apply Ok1.lenS; (iterate 3 exact rfl)) | (apply Ok1.lenStr; (iterate 3 exact rfl)) | (apply Ok1.lenMm; (iterate 3 exact rfl); (focus ((repeat' (first | exact At.head | apply At.tail | apply At.right)); done))) | (apply Ok1.lenM_nil; (iterate 3 exact rfl)))) | (apply R.pure; exact rfl; first | (apply Ok1.move; exact rfl) | (apply Ok1.fieldAddr; (iterate 5 exact rfl)) | (apply Ok1.load; exact rfl; first | (apply Ld.own1; exact rfl; exact rfl; (focus ((repeat' (first | exact At.head | apply At.tail | apply At.right)); done)); exact rfl) | (apply Ld.ownk; exact rfl; exact rfl; (focus ((repeat' (first | exact At.head | apply At.tail | apply At.right)); done)); exact rfl) | (apply Ld.old1; exact rfl; exact rfl; assumption; (first | exact List.not_mem_nil | assumption)) | (apply Ld.blk1; exact rfl; exact rfl; assumption; (first | exact List.not_mem_nil | assumption); exact rfl) | (apply Ld.blkk; exact rfl; exact rfl; assumption; (first | exact List.not_mem_nil | assumption); exact rfl)) | (apply Ok1.assign; exact rfl) | (apply Ok1.convI64; (iterate 5 exact rfl); omega; omega) | (apply Ok1.convU64; (iterate 5 exact rfl); omega; omega) | (apply Ok1.convU32; (iterate 5 exact rfl); omega; omega) | (apply Ok1.convU8; (iterate 5 exact rfl); omega; omega) | (apply Ok1.conv; (iterate 5 exact rfl))) | (apply R.box; (iterate 3 exact rfl); intro) | (apply R.buildSlice; (iterate 12 exact rfl); intro)) | (apply R.is0; first | fail) | (apply R.isG; first | (apply R.guard_run; exact rfl; exact rfl) | (apply R.guard_not; (iterate 3 exact rfl)) | (apply R.guard_not0; exact rfl; exact rfl) | (apply R.guard_un; (iterate 3 exact rfl)) | (apply R.guard_un0; exact rfl; exact rfl) | (apply R.guard rfl rfl ?_ (fun h => ⟨rfl, ?_⟩) <;> try intro)) | apply R.nil | (apply T.is; first | apply T.seq | apply T.region | apply T.block | apply T.scope | apply T.label | apply T.skip | apply T.exit | apply T.ret | (apply T.cond_t; exact rfl) | (apply T.cond_f; exact rfl) | (apply T.cond_h; exact rfl; assumption) | (apply T.cond_n; exact rfl; assumption) | (apply T.cond rfl <;> intro)) | apply Rnd.step)
      (apply RetOk.t; exact rfl)
      rw [hl] at hov ⊢
      exact ⟨_, by (focus ((repeat' (first | exact Keep.nil _ | exact Ext.one _ _ | exact Ext.here _ _ | exact Ext.all _ | apply Keep.cons | apply Keep.app | apply Keep.last | apply Ext.cons | apply Ext.app)); done)), ov, hov, rfl, rfl⟩
theorem be4 (n : Int) : beI 4 n [] = len4 n := by
  have h2 : n / 256 / 256 = n / 65536 := by omega
  have h3 : n / 65536 / 256 = n / 16777216 := by omega
  simp only [beI, len4, h2, h3]
theorem vcbytes_ok (c : Cl) (hr : c.right) (w : World) : CallM Tryz.prog 84 [kvC c] [] w fun v L => ∃ ov, OvOk 1 ov 9 (u8s (clI c)) ∧ v = slV ov 9 ∧ L = blkL 5 ov (u8s (clI c)) := by
  unfold Cl.right at hr
  have ho_id := vout_ok 1 (by decide) c.id (by omega) (by omega)
  have ho_exp := vout_ok 2 (by decide) c.exp (by omega) (by omega)
  have ho_ser := vout_ok 1 (by decide) c.ser (by omega) (by omega)
  simp only [show 2 ^ 1 = 2 from rfl] at ho_id ho_ser
  simp only [show 2 ^ 2 = 4 from rfl] at ho_exp
  have hcl : u8s (clI c) = u8s (beI 2 c.id []) ++ [.int .u8 c.roles] ++ u8s (beI 4 c.exp []) ++ u8s (beI 2 c.ser []) := by
    rw [be4]
    have : c.roles % 256 = c.roles := by omega
    unfold clI numI
    simp only [this, u8s_app]
    rfl
  refine enterK (tb := tb) Tryz.func84 rfl Tryz.ntmps84 rfl ?_
  simp only [kvC]
  repeat' (first | (apply R.is1; first | (apply R.isCall; first | (apply R.callE (vs := [.agg ⟨[.int .i64 1, .int .i64 c.id, .slice none 0 0]⟩]); (iterate 3 exact rfl); exact Ext.none _; intro w1 hw1; exact ho_id w1; rintro v Lo ⟨ov1, hov1, rfl, rfl⟩) | (apply R.callE (vs := [.agg ⟨[.int .i64 2, .int .i64 c.exp, .slice none 0 0]⟩]); (iterate 3 exact rfl); exact Ext.none _; intro w1 hw1; exact ho_exp w1; rintro v Lo ⟨ov3, hov3, rfl, rfl⟩; rw [slV_eq hov3]) | (apply R.callE (vs := [.agg ⟨[.int .i64 1, .int .i64 c.ser, .slice none 0 0]⟩]); (iterate 3 exact rfl); exact Ext.none _; intro w1 hw1; exact ho_ser w1; rintro v Lo ⟨ov5, hov5, rfl, rfl⟩; rw [slV_eq hov5]) | (apply R.append1; (iterate 12 exact rfl); (focus ((repeat' (first | exact OwnAt.mid hov1 | exact OwnAt.base hov1 | exact OwnAt.nil _ | apply OwnAt.tail | apply OwnAt.right)); done)); (focus ((repeat' (first | exact At.head | apply At.tail | apply At.right)); done)); exact rfl; exact rfl; omega; omega; intro b2 j2 k2 hj2) | (apply R.appendRd (xs := beI 4 c.exp []) (v := u8V) (sz := 1) (ov := some (b2, j2, k2)) (n := 2 + 1) (old := u8s (beI 2 c.id []) ++ [.int .u8 c.roles]); (iterate 12 exact rfl); exact hov1.some (b := b2) (ys := [.int .u8 c.roles]) (m := 1) rfl hj2; (focus ((repeat' (first | exact Ext.none _ | exact Ext.one _ _ | exact Ext.here _ _ | exact Ext.all _ | apply Ext.cons | apply Ext.app | apply Ext.two)); done)); exact rfl; exact u8V_len; exact rfl; (intro w1 hw1; exact rdown hov3 hw1 (Ext.mem (by (focus ((repeat' (first | exact Ext.none _ | exact Ext.one _ _ | exact Ext.here _ _ | exact Ext.all _ | apply Ext.cons | apply Ext.app | apply Ext.two)); done))))); (focus (rw [fl_u8]; exact u8s_one _)); omega; intro ov4 hov4 _; rw [fl_u8] at hov4; rw [fl_u8]) | (apply R.appendRd (xs := beI 2 c.ser []) (v := u8V) (sz := 1) (ov := ov4) (n := 2 + 1 + 4) (old := u8s (beI 2 c.id []) ++ [.int .u8 c.roles] ++ u8s (beI 4 c.exp [])); (iterate 12 exact rfl); exact hov4; (focus ((repeat' (first | exact Ext.none _ | exact Ext.one _ _ | exact Ext.here _ _ | exact Ext.all _ | apply Ext.cons | apply Ext.app | apply Ext.two)); done)); exact rfl; exact u8V_len; exact rfl; (intro w1 hw1; exact rdown hov5 hw1 (Ext.mem (by (focus ((repeat' (first | exact Ext.none _ | exact Ext.one _ _ | exact Ext.here _ _ | exact Ext.all _ | apply Ext.cons | apply Ext.app | apply Ext.two)); done))))); (focus (rw [fl_u8]; exact u8s_one _)); omega; intro ov6 hov6 _; rw [fl_u8] at hov6; rw [fl_u8])) | (apply R.pure; exact rfl; first | (apply Ok1.move; exact rfl) | (apply Ok1.fieldAddr; (iterate 5 exact rfl)) | (apply Ok1.load; exact rfl; first | (apply Ld.own1; exact rfl; exact rfl; (focus ((repeat' (first | exact At.head | apply At.tail | apply At.right)); done)); exact rfl) | (apply Ld.ownk; exact rfl; exact rfl; (focus ((repeat' (first | exact At.head | apply At.tail | apply At.right)); done)); exact rfl) | (apply Ld.old1; exact rfl; exact rfl; assumption; (first | exact List.not_mem_nil | assumption)) | (apply Ld.blk1; exact rfl; exact rfl; assumption; (first | exact List.not_mem_nil | assumption); exact rfl) | (apply Ld.blkk; exact rfl; exact rfl; assumption; (first | exact List.not_mem_nil | assumption); exact rfl)) | (apply Ok1.assign; exact rfl) | (apply Ok1.build; (iterate 5 exact rfl)) | (apply Ok1.buildA; (iterate 6 exact rfl)) | (apply Ok1.convI64; (iterate 5 exact rfl); omega; omega) | (apply Ok1.convU64; (iterate 5 exact rfl); omega; omega) | (apply Ok1.convU32; (iterate 5 exact rfl); omega; omega) | (apply Ok1.convU8; (iterate 5 exact rfl); omega; omega) | (apply Ok1.conv; (iterate 5 exact rfl))) | (apply R.box; (iterate 3 exact rfl); intro) | (apply R.buildSlice; (iterate 12 exact rfl); intro)) | (apply R.is0; first | fail) | (apply R.isG; first | (apply R.guard_run; exact rfl; exact rfl) | (apply R.guard_not; (iterate 3 exact rfl)) | (apply R.guard_not0; exact rfl; exact rfl) | (apply R.guard_un; (iterate 3 exact rfl)) | (apply R.guard_un0; exact rfl; exact rfl) | (apply R.guard rfl rfl ?_ (fun h => ⟨rfl, ?_⟩) <;> try intro)) | apply R.nil | (apply T.is; first | apply T.seq | apply T.region | apply T.block | apply T.scope | apply T.label | apply T.skip | apply T.exit | apply T.ret | (apply T.cond_t; exact rfl) | (apply T.cond_f; exact rfl) | (apply T.cond_h; exact rfl; assumption) | (apply T.cond_n; exact rfl; assumption) | (apply T.cond rfl <;> intro)) | apply Rnd.step)
  (apply RetOk.t; exact rfl)
  rw [← hcl] at hov6 ⊢
  exact ⟨_, by (focus ((repeat' (first | exact Keep.nil _ | exact Ext.one _ _ | exact Ext.here _ _ | exact Ext.all _ | apply Keep.cons | apply Keep.app | apply Keep.last | apply Ext.cons | apply Ext.app)); done)), ov6, hov6, rfl, rfl⟩
end Go.Proofs.YtplhnkmmhndkjaaGreat
set_option linter.unusedSimpArgs false
set_option linter.unusedVariables false
namespace Go.Proofs.YtplhnkmmhndkjaaGreat
open Go.RowKit Go.Shelf
set_option maxRecDepth 100000
theorem mref_ok (p : Option Addr) (cap : Nat) (rs : List Rm) (w : World) (hp : RdSl w p Rm.v rs) (hl : rs.length ≤ 20) :
    CallM Tryz.prog 47 [.slice p rs.length cap] [] w fun v L => (rmE rs ≠ 0 ∧ v = .tuple #[.slice none 0 0, .int .i64 (rmE rs)] ∧ L = []) ∨ rmE rs = 0 ∧ ∃ ov, OvOk 1 ov (1 + 14 * rs.length) (u8s (rmsI rs.length rs)) ∧ v = .tuple #[slV ov (1 + 14 * rs.length), .int .i64 0] ∧ L = blkL 5 ov (u8s (rmsI rs.length rs)) := by
  refine enterK (tb := tb) Tryz.func47 rfl Tryz.ntmps47 rfl ?_
  repeat' (first | (apply R.is1; first | (apply R.isBin; (apply R.pure; exact rfl; (apply Ok1.gtr_f; exact rfl; exact rfl; omega))) | (apply R.isCall; (apply R.pure; exact rfl; (apply Ok1.lenS; (iterate 3 exact rfl)))) | (apply R.pure; exact rfl; first | (apply Ok1.move; exact rfl) | (apply Ok1.assign; exact rfl) | (apply Ok1.convU8; (iterate 5 exact rfl); omega; omega)) | (apply R.buildSlice; (iterate 12 exact rfl); intro)) | apply R.nil | (apply T.is; first | apply T.seq | apply T.region | apply T.block | apply T.skip | (apply T.cond_f; exact rfl)))
  rename_i b0
  apply T.loopK (α := Nat × Ov) (I := fun y => y.1 ≤ rs.length ∧ (∀ x ∈ rs.take y.1, x.chk = 0) ∧ OvOk 1 y.2 (1 + 14 * y.1) (u8s (rmsI rs.length (rs.take y.1)))) (σi := fun y => [(0, .slice p rs.length cap), (4, slV y.2 (1 + 14 * y.1)), (5, .int .i64 y.1)]) (Li := fun y => blkL 5 y.2 (u8s (rmsI rs.length (rs.take y.1)))) (μ := fun y => rs.length - y.1) (i0 := (0, some (b0, 0, [])))
  · exact ⟨Nat.zero_le _, by simp, rfl, rfl⟩
  · exact ⟨rfl, rfl, rfl, trivial⟩
  · (focus ((repeat' (first | exact Keep.nil _ | exact Ext.one _ _ | apply Keep.cons)); done))
  · rintro ⟨i, ov⟩ ⟨hi, hck, hov⟩
    simp only at hi hck hov ⊢
    rcases Nat.lt_or_ge i rs.length with hlt | hge
    · obtain ⟨r, hr⟩ : ∃ r, rs[i]? = some r := ⟨_, List.getElem?_eq_getElem (by omega)⟩
      obtain ⟨b, o, hpe, H⟩ := hp.at hr
      replace H := H 6 Rm.v_len
      have hmc := refCheck_ok r
      by_cases hc : r.chk = 0
      · obtain ⟨hrt, hk0, hk3, hi0, hi1⟩ := chk_right hc
        have hcb := fun w1 => vcbytes_ok r.cl hrt w1
        have hdo := fun w1 => dout_ok 2 r.inc ⟨hi0, .inr (.inr ⟨rfl, by omega⟩)⟩ w1
        rw [hc] at hmc
        have hn4 : numI 2 r.inc = [r.inc / 16777216, r.inc / 65536 % 256, r.inc / 256 % 256, r.inc % 256] := by
          show len4 r.inc = _
          simp only [len4, List.cons.injEq, and_true]
          omega
        generalize hB : rmsI rs.length (rs.take i) = B at *
        generalize hC : clI r.cl = C at *
        have hi4 : (numI 2 r.inc).length = 4 := rfl
        rw [hi4] at hdo
        generalize hI : numI 2 r.inc = I4 at *
        repeat' (first | (apply R.is1; first | (apply R.isBin; (apply R.pure; exact rfl; first | (apply Ok1.add64; exact rfl; exact rfl; omega; omega) | (apply Ok1.lss_t; exact rfl; exact rfl; omega) | (apply Ok1.neq_f; exact rfl; exact rfl; omega))) | (apply R.isCall; first | apply R.callP rfl rfl rfl hmc | (apply R.callE (vs := [.agg ⟨fldV 2 r.inc⟩]); (iterate 3 exact rfl); exact Ext.none _; intro w1 hw1; exact hdo w1; rintro v Lo ⟨ovd, hovd, rfl, rfl⟩) | (apply R.appendSl (ov := ov3) (n := 1 + 14 * i + 1 + 9) (old := u8s B ++ [Value.int .u8 r.kind] ++ u8s C) (ov2 := ovd) (m := 4) (news := u8s I4) (e3 := 5); (iterate 12 exact rfl); exact hov3; exact hovd; (focus ((repeat' (first | exact Ext.here _ _ | apply Ext.app)); done)); exact Ext.mem (by (focus ((repeat' (exact Ext.here _ _)); done))); exact u8s_one _; omega; intro ov4 hov4) | (apply R.pure; exact rfl; (apply Ok1.lenS; (iterate 3 exact rfl)))) | (apply R.pure; exact rfl; first | (apply Ok1.indexAddrP; (iterate 4 exact rfl); exact hpe; exact rfl; omega; omega) | (apply Ok1.load; exact rfl; first | (apply Ld.rowk0 H; exact rfl; exact List.not_mem_nil; (iterate 3 exact rfl)) | (apply Ld.row1 H; exact rfl; exact List.not_mem_nil; (iterate 3 exact rfl))) | (apply Ok1.move; exact rfl) | (apply Ok1.fieldAddr; (iterate 5 exact rfl)) | (apply Ok1.assign; exact rfl) | (apply Ok1.build; (iterate 5 exact rfl)))) | apply R.nil | (apply T.is; first | (apply T.drawC (id := 10) [] (by decide); ((apply A.take 0; exact rfl; exact rfl; kernel_rfl; kernel_rfl; kernel_rfl; (apply Ok1.move; exact rfl)) <;> (apply A.take 1; exact rfl; exact rfl; kernel_rfl; kernel_rfl; kernel_rfl; (apply Ok1.move; exact rfl)) <;> (apply A.take 2; exact rfl; exact rfl; kernel_rfl; kernel_rfl; kernel_rfl; (apply Ok1.move; exact rfl)) <;> (apply A.take 3; exact rfl; exact rfl; kernel_rfl; kernel_rfl; kernel_rfl; (apply Ok1.indexAddrP; (iterate 4 exact rfl); exact hpe; exact rfl; omega; omega)) <;> (apply A.take 4; exact rfl; exact rfl; kernel_rfl; kernel_rfl; kernel_rfl; (apply Ok1.fieldAddr; (iterate 5 exact rfl))) <;> (apply A.take 5; exact rfl; exact rfl; kernel_rfl; kernel_rfl; kernel_rfl; (apply Ok1.load; exact rfl; (apply Ld.row0 H; exact rfl; exact List.not_mem_nil; (iterate 3 exact rfl)))) <;> (apply A.take 6; exact rfl; exact rfl; kernel_rfl; kernel_rfl; kernel_rfl; (apply Ok1.convU8; (iterate 5 exact rfl); omega; omega)) <;> (apply A.take 9; exact rfl; exact rfl; kernel_rfl; kernel_rfl; kernel_rfl; (apply Ok1.move; exact rfl)) <;> (apply A.take 10; exact rfl; exact rfl; kernel_rfl; kernel_rfl; kernel_rfl; (apply Ok1.move; exact rfl)) <;> (apply A.take 11; exact rfl; exact rfl; kernel_rfl; kernel_rfl; kernel_rfl; (apply Ok1.indexAddrP; (iterate 4 exact rfl); exact hpe; exact rfl; omega; omega)) <;> (apply A.take 12; exact rfl; exact rfl; kernel_rfl; kernel_rfl; kernel_rfl; (apply Ok1.fieldAddr; (iterate 5 exact rfl))) <;> (apply A.take 13; exact rfl; exact rfl; kernel_rfl; kernel_rfl; kernel_rfl; (apply Ok1.load; exact rfl; (apply Ld.rowk H; exact rfl; exact List.not_mem_nil; (iterate 3 exact rfl)))) <;> (apply A.one 7; kernel_rfl; exact rfl; (((apply R.buildSlice; (iterate 12 exact rfl); intro))); apply R.nil; refine ⟨?_, ?_⟩; (focus ((repeat' (exact trivial))))) <;> (apply A.one 8; kernel_rfl; exact rfl; ((((apply R.append1; (iterate 12 exact rfl); (focus ((repeat' (first | exact OwnAt.base hov | apply OwnAt.tail)); done)); exact At.head; exact rfl; exact rfl; omega; omega; intro b2 j2 k2 hj2); have hov2 := OvOk.some (b := b2) hov (ys := [Value.int .u8 r.kind]) (m := 1) rfl hj2))); apply R.nil; refine ⟨?_, ?_⟩; (focus ((repeat' (exact trivial))))) <;> (apply A.one 14; kernel_rfl; exact rfl; (((apply R.callE (vs := [kvC r.cl]); (iterate 3 exact rfl); exact Ext.none _; intro w1 hw1; exact hcb w1; rintro v Lo ⟨ovc1, hovc, rfl, rfl⟩))); apply R.nil; refine ⟨?_, ?_⟩; (focus ((repeat' (exact trivial))))) <;> (apply A.one 15; kernel_rfl; exact rfl; (((apply R.appendSl (ov := some (b2, j2, k2)) (n := 1 + 14 * i + 1) (old := u8s B ++ [Value.int .u8 r.kind]) (ov2 := ovc1) (m := 9) (news := u8s C) (e3 := 5); (iterate 12 exact rfl); exact hov2; exact hovc; (focus ((repeat' (first | exact Ext.one _ _ | apply Ext.app)); done)); exact Ext.mem (by (focus ((repeat' (exact Ext.here _ _)); done))); exact u8s_one _; omega; intro ov3 hov3))); apply R.nil; refine ⟨?_, ?_⟩; (focus ((repeat' (exact trivial))))) <;> (apply A.take 16; exact rfl; exact rfl; kernel_rfl; kernel_rfl; kernel_rfl; (apply Ok1.assign; exact rfl)) <;> (apply A.done; kernel_rfl))) | apply T.seq | apply T.region | apply T.block | apply T.skip | (apply T.cond_t; exact rfl) | (apply T.cond_f; exact rfl)))
        all_goals
          have hB1 : u8s (rmsI rs.length (rs.take (i + 1))) = u8s B ++ [Value.int .u8 r.kind] ++ u8s C ++ u8s I4 := by
            rw [← hB, ← hC, hn4]
            simp only [rmsI, List.take_add_one, hr, Option.toList, List.map_append, List.flatten_append, List.map_cons, List.map_nil, List.flatten_cons, List.flatten_nil, rmI, List.append_nil]
            simp only [u8s, List.map_append, List.map_cons, List.map_nil, List.cons_append, List.append_assoc, List.nil_append]
          have hck1 : ∀ x ∈ rs.take (i + 1), x.chk = 0 := fun x hx => by
            rw [List.take_add_one, hr] at hx
            rcases List.mem_append.1 hx with h | h
            · exact hck x h
            · simp only [Option.toList, List.mem_singleton] at h
              rw [h]; exact hc
          have hn1 : 1 + 14 * (i + 1) = 1 + 14 * i + 1 + 9 + 4 := by omega
          refine ⟨(i + 1, ov4), ?_⟩
          simp only [hB1, hn1]
          exact ⟨⟨by omega, hck1, hov4⟩, by omega, ⟨rfl, rfl, rfl, trivial⟩, by (focus ((repeat' (first | exact Ext.here _ _ | apply Keep.last)); done))⟩
      · repeat' (first | (apply R.is1; first | (apply R.isBin; (apply R.pure; exact rfl; first | (apply Ok1.lss_t; exact rfl; exact rfl; omega) | (apply Ok1.neq_t; exact rfl; exact rfl; omega))) | (apply R.isCall; first | apply R.callP rfl rfl rfl hmc | (apply R.pure; exact rfl; (apply Ok1.lenS; (iterate 3 exact rfl)))) | (apply R.pure; exact rfl; first | (apply Ok1.indexAddrP; (iterate 4 exact rfl); exact hpe; exact rfl; omega; omega) | (apply Ok1.load; exact rfl; (apply Ld.rowk0 H; exact rfl; exact List.not_mem_nil; (iterate 3 exact rfl))) | (apply Ok1.move; exact rfl) | (apply Ok1.assign; exact rfl))) | apply R.nil | (apply T.is; first | apply T.seq | apply T.region | apply T.block | apply T.skip | apply T.ret | (apply T.cond_t; exact rfl)))
        all_goals (apply RetOk.tt; exact rfl; exact rfl)
        all_goals have he := rmE_at hck hr hc
        all_goals exact ⟨_, by (focus ((repeat' (exact Keep.nil _)); done)), .inl ⟨by rw [he]; exact hc, by rw [he], rfl⟩⟩
    · have him : i = rs.length := by omega
      subst him
      rw [List.take_length] at hov hck ⊢
      repeat' (first | (apply R.is1; first | (apply R.isBin; (apply R.pure; exact rfl; (apply Ok1.lss_f; exact rfl; exact rfl; omega))) | (apply R.isCall; (apply R.pure; exact rfl; (apply Ok1.lenS; (iterate 3 exact rfl)))) | (apply R.pure; exact rfl; first | (apply Ok1.move; exact rfl) | (apply Ok1.assign; exact rfl))) | apply R.nil | (apply T.is; first | apply T.seq | apply T.region | apply T.exit | apply T.ret | (apply T.cond_f; exact rfl)))
      (apply RetOk.tt; exact rfl; exact rfl)
      exact ⟨_, by (focus ((repeat' (first | exact Ext.all _ | apply Keep.last)); done)), .inr ⟨rmE_ok hck, ov, hov, rfl, rfl⟩⟩
theorem mref_long (p : Option Addr) (n cap : Nat) (hl : 20 < n) : CallP Tryz.prog 47 [.slice p n cap] (.tuple #[.slice none 0 0, .int .i64 2]) := by
  refine enterP (tb := tb) Tryz.func47 rfl Tryz.ntmps47 rfl fun w => ?_
  repeat' (first | (apply R.is1; first | (apply R.isBin; (apply R.pure; exact rfl; (apply Ok1.gtr_t; exact rfl; exact rfl; omega))) | (apply R.isCall; (apply R.pure; exact rfl; (apply Ok1.lenS; (iterate 3 exact rfl)))) | (apply R.pure; exact rfl; first | (apply Ok1.move; exact rfl) | (apply Ok1.assign; exact rfl))) | apply R.nil | (apply T.is; first | apply T.seq | apply T.region | apply T.ret | (apply T.cond_t; exact rfl)))
  (apply RetOk.tt; exact rfl; exact rfl)
  rfl
theorem dtw_ok (p : Option Addr) (cap : Nat) (cs : List Cl) (w : World) (hp : RdSl w p Cl.v cs) (hl : cs.length ≤ 1000) : CallW Tryz.prog 85 [.slice p cs.length cap] w fun v _ => v = .bool (decide (¬ cs.Nodup)) := by
  refine enterW (tb := tb) Tryz.func85 rfl Tryz.ntmps85 rfl ?_
  repeat' (first | (apply R.is1; (apply R.pure; exact rfl; (apply Ok1.assign; exact rfl))) | apply R.nil | (apply T.is; first | apply T.seq | apply T.region | apply T.block))
  apply T.loopK (α := Nat) (I := fun i => i ≤ cs.length ∧ (cs.take i).Nodup) (σi := fun i => [(0, .slice p cs.length cap), (3, .int .i64 i)]) (Li := fun _ => []) (μ := fun i => cs.length - i) (i0 := 0)
  · exact ⟨Nat.zero_le _, by simp⟩
  · exact ⟨rfl, rfl, trivial⟩
  · exact Keep.nil _
  · rintro i ⟨hi, hnd⟩
    rcases Nat.lt_or_ge i cs.length with hlt | hge
    · obtain ⟨c, hc⟩ : ∃ c, cs[i]? = some c := ⟨_, List.getElem?_eq_getElem (by omega)⟩
      obtain ⟨b, o, hpe, H⟩ := hp.at hc
      replace H := H 4 Cl.v_len4
      repeat' (first | (apply R.is1; first | (apply R.isBin; (apply R.pure; exact rfl; (apply Ok1.lss_t; exact rfl; exact rfl; omega))) | (apply R.isCall; (apply R.pure; exact rfl; (apply Ok1.lenS; (iterate 3 exact rfl)))) | (apply R.pure; exact rfl; first | (apply Ok1.move; exact rfl) | (apply Ok1.assign; exact rfl))) | apply R.nil | (apply T.is; first | apply T.seq | apply T.region | apply T.block | apply T.skip | (apply T.cond_t; exact rfl)))
      apply T.loopK (α := Nat) (I := fun k => k ≤ i ∧ c ∉ cs.take k) (σi := fun k => [(0, .slice p cs.length cap), (3, .int .i64 i), (4, .int .i64 k)]) (Li := fun _ => []) (μ := fun k => i - k) (i0 := 0)
      · exact ⟨Nat.zero_le _, by simp⟩
      · exact ⟨rfl, rfl, rfl, trivial⟩
      · exact Keep.nil _
      · rintro k ⟨hk, hno⟩
        rcases Nat.lt_or_ge k i with hlk | hgk
        · obtain ⟨d, hd⟩ : ∃ d, cs[k]? = some d := ⟨_, List.getElem?_eq_getElem (by omega)⟩
          obtain ⟨b', o', hpe', H'⟩ := hp.at hd
          replace H' := H' 4 Cl.v_len4
          obtain ⟨rfl, rfl⟩ : b = b' ∧ o = o' := by rw [hpe] at hpe'; cases hpe'; exact ⟨rfl, rfl⟩
          have hcd : c.v = d.v ↔ decide (c = d) = true := by rw [decide_eq_true_iff]; exact clv_inj9
          by_cases he : c = d
          · rw [decide_eq_true he] at hcd
            repeat' (first | (apply R.is1; first | (apply R.isBin; (apply R.pure; exact rfl; (apply Ok1.lss_t; exact rfl; exact rfl; omega))) | (apply R.pure; exact rfl; first | (apply Ok1.move; exact rfl) | (apply Ok1.assign; exact rfl))) | apply R.nil | (apply T.is; first | (apply T.draw (id := 7); ((apply A.take 0; exact rfl; exact rfl; kernel_rfl; kernel_rfl; kernel_rfl; (apply Ok1.move; exact rfl)) <;> (apply A.take 1; exact rfl; exact rfl; kernel_rfl; kernel_rfl; kernel_rfl; (apply Ok1.move; exact rfl)) <;> (apply A.take 2; exact rfl; exact rfl; kernel_rfl; kernel_rfl; kernel_rfl; (apply Ok1.indexAddrP; (iterate 4 exact rfl); (exact hpe); exact rfl; omega; omega)) <;> (apply A.take 3; exact rfl; exact rfl; kernel_rfl; kernel_rfl; kernel_rfl; (apply Ok1.load; exact rfl; (apply Ld.rowk0 H; exact rfl; exact List.not_mem_nil; (iterate 3 exact rfl)))) <;> (apply A.take 4; exact rfl; exact rfl; kernel_rfl; kernel_rfl; kernel_rfl; (apply Ok1.move; exact rfl)) <;> (apply A.take 5; exact rfl; exact rfl; kernel_rfl; kernel_rfl; kernel_rfl; (apply Ok1.move; exact rfl)) <;> (apply A.take 6; exact rfl; exact rfl; kernel_rfl; kernel_rfl; kernel_rfl; (apply Ok1.indexAddrP; (iterate 4 exact rfl); (exact hpe); exact rfl; omega; omega)) <;> (apply A.take 7; exact rfl; exact rfl; kernel_rfl; kernel_rfl; kernel_rfl; (apply Ok1.load; exact rfl; (apply Ld.rowk0 H'; exact rfl; exact List.not_mem_nil; (iterate 3 exact rfl)))) <;> ((apply A.take 8; exact rfl; exact rfl; kernel_rfl; kernel_rfl; kernel_rfl; (apply Ok1.eqlFq2 (xs := c.v) (ys := d.v) (q := true); (iterate 7 exact rfl); exact hcd))) <;> (apply A.done; kernel_rfl))) | apply T.seq | apply T.region | apply T.block | apply T.skip | apply T.ret | (apply T.cond_t; exact rfl)))
            all_goals (apply RetOk.t; exact rfl)
            all_goals
              rw [decide_eq_true]
              intro h
              have h2 := List.pairwise_iff_getElem.1 h k i (by omega) (by omega) hlk
              obtain ⟨_, g1⟩ := List.getElem?_eq_some_iff.1 hc
              obtain ⟨_, g2⟩ := List.getElem?_eq_some_iff.1 hd
              exact h2 (g2.trans (he.symm.trans g1.symm))
          · rw [decide_eq_false he] at hcd
            repeat' (first | (apply R.is1; first | (apply R.isBin; (apply R.pure; exact rfl; first | (apply Ok1.add64; exact rfl; exact rfl; omega; omega) | (apply Ok1.lss_t; exact rfl; exact rfl; omega))) | (apply R.pure; exact rfl; first | (apply Ok1.move; exact rfl) | (apply Ok1.assign; exact rfl))) | apply R.nil | (apply T.is; first | (apply T.draw (id := 7); ((apply A.take 0; exact rfl; exact rfl; kernel_rfl; kernel_rfl; kernel_rfl; (apply Ok1.move; exact rfl)) <;> (apply A.take 1; exact rfl; exact rfl; kernel_rfl; kernel_rfl; kernel_rfl; (apply Ok1.move; exact rfl)) <;> (apply A.take 2; exact rfl; exact rfl; kernel_rfl; kernel_rfl; kernel_rfl; (apply Ok1.indexAddrP; (iterate 4 exact rfl); (exact hpe); exact rfl; omega; omega)) <;> (apply A.take 3; exact rfl; exact rfl; kernel_rfl; kernel_rfl; kernel_rfl; (apply Ok1.load; exact rfl; (apply Ld.rowk0 H; exact rfl; exact List.not_mem_nil; (iterate 3 exact rfl)))) <;> (apply A.take 4; exact rfl; exact rfl; kernel_rfl; kernel_rfl; kernel_rfl; (apply Ok1.move; exact rfl)) <;> (apply A.take 5; exact rfl; exact rfl; kernel_rfl; kernel_rfl; kernel_rfl; (apply Ok1.move; exact rfl)) <;> (apply A.take 6; exact rfl; exact rfl; kernel_rfl; kernel_rfl; kernel_rfl; (apply Ok1.indexAddrP; (iterate 4 exact rfl); (exact hpe); exact rfl; omega; omega)) <;> (apply A.take 7; exact rfl; exact rfl; kernel_rfl; kernel_rfl; kernel_rfl; (apply Ok1.load; exact rfl; (apply Ld.rowk0 H'; exact rfl; exact List.not_mem_nil; (iterate 3 exact rfl)))) <;> ((apply A.take 8; exact rfl; exact rfl; kernel_rfl; kernel_rfl; kernel_rfl; (apply Ok1.eqlFq2 (xs := c.v) (ys := d.v) (q := false); (iterate 7 exact rfl); exact hcd))) <;> (apply A.done; kernel_rfl))) | apply T.seq | apply T.region | apply T.block | apply T.skip | (apply T.cond_t; exact rfl) | (apply T.cond_f; exact rfl)))
            all_goals refine ⟨k + 1, ⟨by omega, ?_⟩, by omega, ⟨rfl, rfl, rfl, trivial⟩, Keep.nil _⟩
            all_goals
              rw [List.take_add_one, hd]
              simp only [Option.toList, List.mem_append, List.mem_singleton, not_or]
              exact ⟨hno, he⟩
        · have hki : k = i := by omega
          subst hki
          repeat' (first | (apply R.is1; first | (apply R.isBin; (apply R.pure; exact rfl; first | (apply Ok1.add64; exact rfl; exact rfl; omega; omega) | (apply Ok1.lss_f; exact rfl; exact rfl; omega))) | (apply R.pure; exact rfl; first | (apply Ok1.move; exact rfl) | (apply Ok1.assign; exact rfl))) | apply R.nil | (apply T.is; first | apply T.seq | apply T.region | apply T.exit | (apply T.cond_f; exact rfl)))
          refine ⟨k + 1, ⟨by omega, ?_⟩, by omega, ⟨rfl, rfl, trivial⟩, Keep.nil _⟩
          rw [List.take_add_one, hc]
          simp only [Option.toList]
          rw [List.nodup_append]
          exact ⟨hnd, by simp, fun a ha b hb => by rw [List.mem_singleton.1 hb]; exact fun e => hno (e ▸ ha)⟩
    · have him : i = cs.length := by omega
      subst him
      rw [List.take_length] at hnd
      repeat' (first | (apply R.is1; first | (apply R.isBin; (apply R.pure; exact rfl; (apply Ok1.lss_f; exact rfl; exact rfl; omega))) | (apply R.isCall; (apply R.pure; exact rfl; (apply Ok1.lenS; (iterate 3 exact rfl)))) | (apply R.pure; exact rfl; first | (apply Ok1.move; exact rfl) | (apply Ok1.assign; exact rfl))) | apply R.nil | (apply T.is; first | apply T.seq | apply T.region | apply T.exit | apply T.ret | (apply T.cond_f; exact rfl)))
      (apply RetOk.t; exact rfl)
      rw [decide_eq_false (p := ¬ cs.Nodup) (fun h => h hnd)]
theorem vpeople_ok (p : Option Addr) (cap : Nat) (cs : List Cl) (w : World) (hp : RdSl w p Cl.v cs) (hl : cs.length ≤ 1000) :
    CallM Tryz.prog 48 [.slice p cs.length cap] [] w fun v L => (pplE cs ≠ 0 ∧ v = .tuple #[.slice none 0 0, .int .i64 (pplE cs)] ∧ L = []) ∨ pplE cs = 0 ∧ ∃ ov, OvOk 1 ov (1 + 9 * cs.length) (u8s (pplI cs)) ∧ v = .tuple #[slV ov (1 + 9 * cs.length), .int .i64 0] ∧ L = blkL 5 ov (u8s (pplI cs)) := by
  have htw := fun w1 (hc : Chg [] w w1) => dtw_ok p cap cs w1 (hp.chg' hc (fun _ => Off.nil _)) hl
  refine enterK (tb := tb) Tryz.func48 rfl Tryz.ntmps48 rfl ?_
  rcases Nat.lt_or_ge 16 cs.length with h16 | h16
  · repeat' (first | (apply R.is1; first | (apply R.isBin; (apply R.pure; exact rfl; (apply Ok1.gtr_t; exact rfl; exact rfl; omega))) | (apply R.isCall; (apply R.pure; exact rfl; (apply Ok1.lenS; (iterate 3 exact rfl)))) | (apply R.pure; exact rfl; first | (apply Ok1.move; exact rfl) | (apply Ok1.assign; exact rfl))) | apply R.nil | (apply T.is; first | apply T.seq | apply T.region | apply T.ret | (apply T.cond_t; exact rfl)))
    (apply RetOk.tt; exact rfl; exact rfl)
    have he : pplE cs = 2 := by unfold pplE; rw [if_pos h16]
    exact ⟨_, Keep.nil _, .inl ⟨by rw [he]; decide, by rw [he], rfl⟩⟩
  repeat' (first | (apply R.is1; first | (apply R.isBin; (apply R.pure; exact rfl; (apply Ok1.gtr_f; exact rfl; exact rfl; omega))) | (apply R.isCall; (apply R.pure; exact rfl; (apply Ok1.lenS; (iterate 3 exact rfl)))) | (apply R.pure; exact rfl; first | (apply Ok1.move; exact rfl) | (apply Ok1.assign; exact rfl) | (apply Ok1.convU8; (iterate 5 exact rfl); omega; omega)) | (apply R.buildSlice; (iterate 12 exact rfl); intro)) | apply R.nil | (apply T.is; first | apply T.seq | apply T.region | apply T.block | apply T.skip | (apply T.cond_f; exact rfl)))
  rename_i b0
  apply T.loopK (α := Nat × Ov) (I := fun y => y.1 ≤ cs.length ∧ (∀ x ∈ cs.take y.1, x.right) ∧ OvOk 1 y.2 (1 + 9 * y.1) (u8s (pplsI cs.length (cs.take y.1)))) (σi := fun y => [(0, .slice p cs.length cap), (4, slV y.2 (1 + 9 * y.1)), (5, .int .i64 y.1)]) (Li := fun y => blkL 5 y.2 (u8s (pplsI cs.length (cs.take y.1)))) (μ := fun y => cs.length - y.1) (i0 := (0, some (b0, 0, [])))
  · exact ⟨Nat.zero_le _, by simp, rfl, rfl⟩
  · exact ⟨rfl, rfl, rfl, trivial⟩
  · (focus ((repeat' (first | exact Keep.nil _ | exact Ext.one _ _ | apply Keep.cons)); done))
  · rintro ⟨i, ov⟩ ⟨hi, hck, hov⟩
    simp only at hi hck hov ⊢
    rcases Nat.lt_or_ge i cs.length with hlt | hge
    · obtain ⟨c, hr⟩ : ∃ c, cs[i]? = some c := ⟨_, List.getElem?_eq_getElem (by omega)⟩
      obtain ⟨b, o, hpe, H⟩ := hp.at hr
      replace H := H 4 Cl.v_len4
      have hrg := right_ok c.id c.roles c.exp c.ser
      by_cases hc : c.right
      · have hcb := fun w1 => vcbytes_ok c hc w1
        rw [decide_eq_true (p := Cl.right ⟨c.id, c.roles, c.exp, c.ser⟩) hc] at hrg
        generalize hB : pplsI cs.length (cs.take i) = B at *
        generalize hC : clI c = C at *
        repeat' (first | (apply R.is1; first | (apply R.isBin; (apply R.pure; exact rfl; first | (apply Ok1.add64; exact rfl; exact rfl; omega; omega) | (apply Ok1.lss_t; exact rfl; exact rfl; omega))) | (apply R.isCall; first | apply R.callP rfl rfl rfl hrg | (apply R.callE (vs := [kvC c]); (iterate 3 exact rfl); exact Ext.none _; intro w1 hw1; exact hcb w1; rintro v Lo ⟨ovc1, hovc, rfl, rfl⟩) | (apply R.appendSl (ov := ov) (n := 1 + 9 * i) (old := u8s B) (ov2 := ovc1) (m := 9) (news := u8s C) (e3 := 5); (iterate 12 exact rfl); exact hov; exact hovc; (focus ((repeat' (first | exact Ext.all _ | apply Ext.app)); done)); exact Ext.mem (by (focus ((repeat' (exact Ext.here _ _)); done))); exact u8s_one _; omega; intro ov3 hov3) | (apply R.pure; exact rfl; (apply Ok1.lenS; (iterate 3 exact rfl)))) | (apply R.pure; exact rfl; first | (apply Ok1.indexAddrP; (iterate 4 exact rfl); exact hpe; exact rfl; omega; omega) | (apply Ok1.load; exact rfl; (apply Ld.rowk0 H; exact rfl; exact List.not_mem_nil; (iterate 3 exact rfl))) | (apply Ok1.move; exact rfl) | (apply Ok1.assign; exact rfl) | (apply Ok1.not_t; exact rfl))) | apply R.nil | (apply T.is; first | apply T.seq | apply T.region | apply T.block | apply T.skip | (apply T.cond_t; exact rfl) | (apply T.cond_f; exact rfl)))
        all_goals
          have hB1 : u8s (pplsI cs.length (cs.take (i + 1))) = u8s B ++ u8s C := by
            rw [← hB, ← hC]
            simp only [pplsI, List.take_add_one, hr, Option.toList, List.map_append, List.flatten_append, List.map_cons, List.map_nil, List.flatten_cons, List.flatten_nil, List.append_nil]
            simp only [u8s, List.map_append, List.map_cons, List.map_nil, List.cons_append, List.append_assoc, List.nil_append]
          have hck1 : ∀ x ∈ cs.take (i + 1), x.right := fun x hx => by
            rw [List.take_add_one, hr] at hx
            rcases List.mem_append.1 hx with h | h
            · exact hck x h
            · simp only [Option.toList, List.mem_singleton] at h
              rw [h]; exact hc
          have hn1 : 1 + 9 * (i + 1) = 1 + 9 * i + 9 := by omega
          refine ⟨(i + 1, ov3), ?_⟩
          simp only [hB1, hn1]
          exact ⟨⟨by omega, hck1, hov3⟩, by omega, ⟨rfl, rfl, rfl, trivial⟩, by (focus ((repeat' (first | exact Ext.here _ _ | apply Keep.last)); done))⟩
      · rw [decide_eq_false (p := Cl.right ⟨c.id, c.roles, c.exp, c.ser⟩) hc] at hrg
        repeat' (first | (apply R.is1; first | (apply R.isBin; (apply R.pure; exact rfl; (apply Ok1.lss_t; exact rfl; exact rfl; omega))) | (apply R.isCall; first | apply R.callP rfl rfl rfl hrg | (apply R.pure; exact rfl; (apply Ok1.lenS; (iterate 3 exact rfl)))) | (apply R.pure; exact rfl; first | (apply Ok1.indexAddrP; (iterate 4 exact rfl); exact hpe; exact rfl; omega; omega) | (apply Ok1.load; exact rfl; (apply Ld.rowk0 H; exact rfl; exact List.not_mem_nil; (iterate 3 exact rfl))) | (apply Ok1.move; exact rfl) | (apply Ok1.assign; exact rfl) | (apply Ok1.not_f; exact rfl))) | apply R.nil | (apply T.is; first | apply T.seq | apply T.region | apply T.block | apply T.skip | apply T.ret | (apply T.cond_t; exact rfl)))
        all_goals (apply RetOk.tt; exact rfl; exact rfl)
        all_goals have he := pplE_bad h16 hr hc
        all_goals exact ⟨_, by (focus ((repeat' (exact Keep.nil _)); done)), .inl ⟨by rw [he]; decide, by rw [he], rfl⟩⟩
    · have him : i = cs.length := by omega
      subst him
      rw [List.take_length] at hov hck ⊢
      have hra := rightAll_iff.2 hck
      by_cases hnd : cs.Nodup
      · rw [decide_eq_false (p := ¬ cs.Nodup) (fun h => h hnd)] at htw
        repeat' (first | (apply R.is1; first | (apply R.isBin; (apply R.pure; exact rfl; (apply Ok1.lss_f; exact rfl; exact rfl; omega))) | (apply R.isCall; first | (apply R.callV (vs := [.slice p cs.length cap]); (iterate 3 exact rfl); intro w1 hw1; exact htw w1 hw1.chg) | (apply R.pure; exact rfl; (apply Ok1.lenS; (iterate 3 exact rfl)))) | (apply R.pure; exact rfl; first | (apply Ok1.move; exact rfl) | (apply Ok1.assign; exact rfl))) | apply R.nil | (apply T.is; first | apply T.seq | apply T.region | apply T.skip | apply T.exit | apply T.ret | (apply T.cond_f; exact rfl)))
        (apply RetOk.tt; exact rfl; exact rfl)
        have he : pplE cs = 0 := by unfold pplE; rw [if_neg (by omega), if_neg (by rw [hra]; decide), if_neg (fun h => h hnd)]
        exact ⟨_, by (focus ((repeat' (first | exact Ext.all _ | apply Keep.last)); done)), .inr ⟨he, ov, hov, rfl, rfl⟩⟩
      · rw [decide_eq_true (p := ¬ cs.Nodup) hnd] at htw
        repeat' (first | (apply R.is1; first | (apply R.isBin; (apply R.pure; exact rfl; (apply Ok1.lss_f; exact rfl; exact rfl; omega))) | (apply R.isCall; first | (apply R.callV (vs := [.slice p cs.length cap]); (iterate 3 exact rfl); intro w1 hw1; exact htw w1 hw1.chg) | (apply R.pure; exact rfl; (apply Ok1.lenS; (iterate 3 exact rfl)))) | (apply R.pure; exact rfl; first | (apply Ok1.move; exact rfl) | (apply Ok1.assign; exact rfl))) | apply R.nil | (apply T.is; first | apply T.seq | apply T.region | apply T.exit | apply T.ret | (apply T.cond_t; exact rfl) | (apply T.cond_f; exact rfl)))
        (apply RetOk.tt; exact rfl; exact rfl)
        have he : pplE cs = 8 := by unfold pplE; rw [if_neg (by omega), if_neg (by rw [hra]; decide), if_pos hnd]
        exact ⟨_, by (focus ((repeat' (exact Keep.nil _)); done)), .inl ⟨by rw [he]; decide, by rw [he], rfl⟩⟩
end Go.Proofs.YtplhnkmmhndkjaaGreat
