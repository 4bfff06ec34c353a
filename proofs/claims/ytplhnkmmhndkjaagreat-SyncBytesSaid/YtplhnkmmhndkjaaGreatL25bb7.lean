/- Texts of the proof: Rf7, Rf9, Sz1, Sz2, Eng32, Sz3, Sz4, Sz5, Sz6, Sz7, Lsy. -/
import Derived.Test.YtplhnkmmhndkjaaGreatL25bb6
import Derived.Lib.MakeNoZero
import Derived.Laws.Externs
set_option linter.unusedSimpArgs false
set_option linter.unusedVariables false
namespace Go.Proofs.YtplhnkmmhndkjaaGreat
open Go.RowKit Go.Shelf
set_option maxRecDepth 100000
/-- Bytes that can be read in each world in which the blocks ex are as they are told. -/
def RdX (w : World) (p : Option Addr) (ex : Lst) (k : List Int) : Prop := k = [] ∨ ∃ b o, p = some ⟨b, o, none⟩ ∧ ∀ w1 L1, Hp w [] L1 w1 → (∀ z ∈ ex, z ∈ L1) → ∀ (i : Nat) v, k[i]? = some v → w1.cell? ⟨b, o + (i : Int).toNat * 1, none⟩ = some (.int .u8 v)
theorem RdX.of {w : World} {p : Option Addr} {k : List Int} (h : RdSl w p u8V k) : RdX w p [] k := by
  rcases h with h | ⟨b, o, hp, h⟩
  · exact .inl h
  · refine .inr ⟨b, o, hp, fun w1 L1 hw1 _ i v hv => ?_⟩
    obtain ⟨hi, rfl⟩ := List.getElem?_eq_some_iff.1 hv
    rw [fl_u8] at h
    rw [show o + (i : Int).toNat * 1 = o + i by omega]
    refine hw1.old ((h i (by rw [u8s_len]; exact hi)).trans ?_) List.not_mem_nil
    simp [u8s, hi]
theorem RdX.own {w : World} {b : Nat} {e : TypeId} {fz : Nat × Nat} {k : List Int} : RdX w (some ⟨b, 0, none⟩) [(b, .cells ⟨u8s k⟩ e fz)] k := by
  refine .inr ⟨b, 0, rfl, fun w1 L1 hw1 hin i v hv => ?_⟩
  obtain ⟨hi, rfl⟩ := List.getElem?_eq_some_iff.1 hv
  have h1 := hw1.get b _ (hin _ List.mem_cons_self)
  rw [show 0 + (i : Int).toNat * 1 = i by omega]
  simp [World.cell?, h1, u8s, hi]
end Go.Proofs.YtplhnkmmhndkjaaGreat
set_option linter.unusedSimpArgs false
set_option linter.unusedVariables false
namespace Go.Proofs.YtplhnkmmhndkjaaGreat
open Go.RowKit Go.Shelf
set_option maxRecDepth 100000
theorem vwidth_ok (s : Nat) (h : s ≤ 2) : CallP Tryz.prog 114 [.int .i64 s] (.int .i64 ((2 ^ s : Nat) : Int)) := by
  have hs : s = 0 ∨ s = 1 ∨ s = 2 := by omega
  refine enterP (tb := tb) Tryz.func114 rfl Tryz.ntmps114 rfl fun w => ?_
  rcases hs with rfl | rfl | rfl
  all_goals repeat' (first | (apply R.is1; first | (apply R.pure; exact rfl; first | (apply Ok1.move; exact rfl) | (apply Ok1.assign; exact rfl) | (apply Ok1.build; (iterate 5 exact rfl)) | (apply Ok1.index1; (iterate 6 exact rfl); omega; omega; exact rfl) | (apply Ok1.indexk; (iterate 6 exact rfl); omega; omega; exact rfl) | (apply Ok1.buildA; (iterate 6 exact rfl)))) | (apply R.is0; first | fail) | (apply R.isG; first | (apply R.guard_run; exact rfl; exact rfl) | (apply R.guard_not; (iterate 3 exact rfl)) | (apply R.guard_not0; exact rfl; exact rfl) | (apply R.guard_un; (iterate 3 exact rfl)) | (apply R.guard_un0; exact rfl; exact rfl) | (apply R.guard rfl rfl ?_ (fun h => ⟨rfl, ?_⟩) <;> try intro)) | apply R.nil | (apply T.is; first | apply T.seq | apply T.region | apply T.block | apply T.scope | apply T.label | apply T.skip | apply T.exit | apply T.ret | (apply T.cond_t; exact rfl) | (apply T.cond_f; exact rfl) | (apply T.cond_h; exact rfl; assumption) | (apply T.cond_n; exact rfl; assumption) | (apply T.cond rfl <;> intro)) | apply Rnd.step)
  all_goals (apply RetOk.t; exact rfl)
  all_goals rfl
def beI : Nat → Int → List Int → List Int
  | 0, _, a => a
  | w + 1, n, a => beI w (n / 256) (n % 256 :: a)
theorem beI_len : ∀ (w : Nat) (n : Int) (a : List Int), (beI w n a).length = w + a.length
  | 0, _, a => by simp [beI]
  | w + 1, n, a => by rw [beI, beI_len w]; simp; omega
theorem vout_ok (s : Nat) (hs : s ≤ 2) (n : Int) (h0 : 0 ≤ n) (h1 : n ≤ 1099511627776) (w : World) : CallM Tryz.prog 82 [.agg ⟨[.int .i64 s, .int .i64 n, .slice none 0 0]⟩] [] w fun v L => ∃ ov, OvOk 1 ov (2 ^ s) (u8s (beI (2 ^ s) n [])) ∧ v = slV ov (2 ^ s) ∧ L = blkL 5 ov (u8s (beI (2 ^ s) n [])) := by
  have hw := vwidth_ok s hs
  have hs4 : (s : Int) ≠ 4 := by omega
  have hpw : 2 ^ s ≤ 4 := by
    have : s = 0 ∨ s = 1 ∨ s = 2 := by omega
    rcases this with rfl | rfl | rfl <;> decide
  have hbl := beI_len (2 ^ s) n []
  generalize hW : 2 ^ s = W at *
  rw [List.length_nil, Nat.add_zero] at hbl
  obtain ⟨V, hV⟩ : ∃ V, V = beI W n [] := ⟨_, rfl⟩
  rw [← hV] at hbl ⊢
  refine enterK (tb := tb) Tryz.func82 rfl Tryz.ntmps82 rfl ?_
  repeat' (first | (apply R.is1; first | (apply R.isBin; first | (apply R.pure; exact rfl; first | (apply Ok1.add64; exact rfl; exact rfl; omega; omega) | (apply Ok1.lss_t; exact rfl; exact rfl; omega) | (apply Ok1.lss_f; exact rfl; exact rfl; omega) | (apply Ok1.eql_t; exact rfl; exact rfl; omega) | (apply Ok1.eql_f; exact rfl; exact rfl; omega) | (apply Ok1.quo64; exact rfl; exact rfl; omega; omega; omega) | (apply Ok1.remN; exact rfl; exact rfl; omega; omega) | (apply Ok1.eqlP; (iterate 5 exact rfl)) | (apply Ok1.eqlM; (iterate 5 exact rfl)) | (apply Ok1.eqlS; (iterate 5 exact rfl))) | (apply R.lss rfl rfl rfl <;> intro) | (apply R.eql rfl rfl rfl <;> intro) | (apply R.eqlF; (iterate 8 exact rfl); all_goals intro)) | (apply R.isCall; first | (apply R.pure; exact rfl; first | (apply Ok1.lenS; (iterate 3 exact rfl)) | (apply Ok1.lenStr; (iterate 3 exact rfl)) | (apply Ok1.lenMm; (iterate 3 exact rfl); (focus ((repeat' (first | exact At.head | apply At.tail | apply At.right)); done))) | (apply Ok1.lenM_nil; (iterate 3 exact rfl)))) | (apply R.pure; exact rfl; first | (apply Ok1.move; exact rfl) | (apply Ok1.fieldAddr; (iterate 5 exact rfl)) | (apply Ok1.load; exact rfl; first | (apply Ld.own1; exact rfl; exact rfl; (focus ((repeat' (first | exact At.head | apply At.tail | apply At.right)); done)); exact rfl) | (apply Ld.ownk; exact rfl; exact rfl; (focus ((repeat' (first | exact At.head | apply At.tail | apply At.right)); done)); exact rfl) | (apply Ld.old1; exact rfl; exact rfl; assumption; (first | exact List.not_mem_nil | assumption)) | (apply Ld.blk1; exact rfl; exact rfl; assumption; (first | exact List.not_mem_nil | assumption); exact rfl) | (apply Ld.blkk; exact rfl; exact rfl; assumption; (first | exact List.not_mem_nil | assumption); exact rfl)) | (apply Ok1.assign; exact rfl) | (apply Ok1.convI64; (iterate 5 exact rfl); omega; omega) | (apply Ok1.convU64; (iterate 5 exact rfl); omega; omega) | (apply Ok1.convU32; (iterate 5 exact rfl); omega; omega) | (apply Ok1.convU8; (iterate 5 exact rfl); omega; omega) | (apply Ok1.conv; (iterate 5 exact rfl))) | (apply R.box; (iterate 3 exact rfl); intro) | (apply R.buildSlice; (iterate 12 exact rfl); intro)) | (apply R.is0; first | fail) | (apply R.isG; first | (apply R.guard_run; exact rfl; exact rfl) | (apply R.guard_not; (iterate 3 exact rfl)) | (apply R.guard_not0; exact rfl; exact rfl) | (apply R.guard_un; (iterate 3 exact rfl)) | (apply R.guard_un0; exact rfl; exact rfl) | (apply R.guard rfl rfl ?_ (fun h => ⟨rfl, ?_⟩) <;> try intro)) | apply R.nil | (apply T.is; first | apply T.seq | apply T.region | apply T.block | apply T.scope | apply T.label | apply T.skip | apply T.exit | apply T.ret | (apply T.cond_t; exact rfl) | (apply T.cond_f; exact rfl) | (apply T.cond_h; exact rfl; assumption) | (apply T.cond_n; exact rfl; assumption) | (apply T.cond rfl <;> intro)) | apply Rnd.step)
  rename_i bF
  apply T.loopK (α := Nat × Ov × List Int × Int) (I := fun y => y.1 ≤ W ∧ y.2.2.1.length = y.1 ∧ OvOk 1 y.2.1 y.2.2.1.length (u8s y.2.2.1) ∧ 0 ≤ y.2.2.2 ∧ y.2.2.2 ≤ 1099511627776 ∧ beI (W - y.1) y.2.2.2 y.2.2.1 = V) (σi := fun y => [(1, .pointer (some ⟨bF, 0, none⟩)), (3, .slice (ovp y.2.1) y.2.2.1.length (ovc y.2.1 y.2.2.1.length)), (4, .int .i64 y.2.2.2), (5, .int .i64 y.1)]) (Li := fun y => (bF, .cells ⟨[.int .i64 s, .int .i64 n, .slice none 0 0]⟩ 164 (0, 0)) :: blkL 5 y.2.1 (u8s y.2.2.1)) (μ := fun y => W - y.1) (i0 := (0, none, [], n))
  · exact ⟨Nat.zero_le _, rfl, OvOk.start 1, h0, h1, hV.symm⟩
  · exact ⟨rfl, rfl, rfl, rfl, trivial⟩
  · (focus ((repeat' (first | exact Keep.nil _ | exact Ext.one _ _ | exact Ext.here _ _ | exact Ext.all _ | apply Keep.cons | apply Keep.app | apply Keep.last | apply Ext.cons | apply Ext.app)); done))
  · rintro ⟨i, ov, bs, m⟩ ⟨hi, hl, hov, hm0, hm1, hbe⟩
    simp only at hi hl hov hm0 hm1 hbe ⊢
    rcases Nat.lt_or_ge i W with hlt | hge
    · have hb2 : beI (W - (i + 1)) (m / 256) (m % 256 :: bs) = V := by
        rw [show W - i = (W - (i + 1)) + 1 by omega] at hbe; exact hbe
      repeat' (first | (apply R.is1; first | (apply R.isBin; first | (apply R.pure; exact rfl; first | (apply Ok1.add64; exact rfl; exact rfl; omega; omega) | (apply Ok1.lss_t; exact rfl; exact rfl; omega) | (apply Ok1.lss_f; exact rfl; exact rfl; omega) | (apply Ok1.eql_t; exact rfl; exact rfl; omega) | (apply Ok1.eql_f; exact rfl; exact rfl; omega) | (apply Ok1.quo64; exact rfl; exact rfl; omega; omega; omega) | (apply Ok1.remN; exact rfl; exact rfl; omega; omega) | (apply Ok1.eqlP; (iterate 5 exact rfl)) | (apply Ok1.eqlM; (iterate 5 exact rfl)) | (apply Ok1.eqlS; (iterate 5 exact rfl))) | (apply R.lss rfl rfl rfl <;> intro) | (apply R.eql rfl rfl rfl <;> intro) | (apply R.eqlF; (iterate 8 exact rfl); all_goals intro)) | (apply R.isCall; first | apply R.callP rfl rfl rfl hw | (apply R.appendRd (xs := bs) (v := u8V) (sz := 1) (ov := some (_, 0, [])) (n := 1) (old := [.int .u8 (m % 256)]); (iterate 12 exact rfl); exact ⟨rfl, rfl⟩; (focus ((repeat' (first | exact Ext.none _ | exact Ext.one _ _ | exact Ext.here _ _ | exact Ext.all _ | apply Ext.cons | apply Ext.app | apply Ext.two)); done)); exact rfl; exact u8V_len; exact rfl; (intro w1 hw1; exact rdown hov hw1 (Ext.mem (by (focus ((repeat' (first | exact Ext.none _ | exact Ext.one _ _ | exact Ext.here _ _ | exact Ext.all _ | apply Ext.cons | apply Ext.app | apply Ext.two)); done))))); (focus (rw [fl_u8]; exact u8s_one bs)); omega; intro ov1 hov1 hsome; rw [fl_u8, Nat.add_comm] at hov1; change OvOk 1 ov1 (m % 256 :: bs).length (u8s (m % 256 :: bs)) at hov1; rw [fl_u8]) | (apply R.pure; exact rfl; first | (apply Ok1.lenS; (iterate 3 exact rfl)) | (apply Ok1.lenStr; (iterate 3 exact rfl)) | (apply Ok1.lenMm; (iterate 3 exact rfl); (focus ((repeat' (first | exact At.head | apply At.tail | apply At.right)); done))) | (apply Ok1.lenM_nil; (iterate 3 exact rfl)))) | (apply R.pure; exact rfl; first | (apply Ok1.move; exact rfl) | (apply Ok1.fieldAddr; (iterate 5 exact rfl)) | (apply Ok1.load; exact rfl; first | (apply Ld.own1; exact rfl; exact rfl; (focus ((repeat' (first | exact At.head | apply At.tail | apply At.right)); done)); exact rfl) | (apply Ld.ownk; exact rfl; exact rfl; (focus ((repeat' (first | exact At.head | apply At.tail | apply At.right)); done)); exact rfl) | (apply Ld.old1; exact rfl; exact rfl; assumption; (first | exact List.not_mem_nil | assumption)) | (apply Ld.blk1; exact rfl; exact rfl; assumption; (first | exact List.not_mem_nil | assumption); exact rfl) | (apply Ld.blkk; exact rfl; exact rfl; assumption; (first | exact List.not_mem_nil | assumption); exact rfl)) | (apply Ok1.assign; exact rfl) | (apply Ok1.convI64; (iterate 5 exact rfl); omega; omega) | (apply Ok1.convU64; (iterate 5 exact rfl); omega; omega) | (apply Ok1.convU32; (iterate 5 exact rfl); omega; omega) | (apply Ok1.convU8; (iterate 5 exact rfl); omega; omega) | (apply Ok1.conv; (iterate 5 exact rfl))) | (apply R.box; (iterate 3 exact rfl); intro) | (apply R.buildSlice; (iterate 12 exact rfl); intro)) | (apply R.is0; first | fail) | (apply R.isG; first | (apply R.guard_run; exact rfl; exact rfl) | (apply R.guard_not; (iterate 3 exact rfl)) | (apply R.guard_not0; exact rfl; exact rfl) | (apply R.guard_un; (iterate 3 exact rfl)) | (apply R.guard_un0; exact rfl; exact rfl) | (apply R.guard rfl rfl ?_ (fun h => ⟨rfl, ?_⟩) <;> try intro)) | apply R.nil | (apply T.is; first | apply T.seq | apply T.region | apply T.block | apply T.scope | apply T.label | apply T.skip | apply T.exit | apply T.ret | (apply T.cond_t; exact rfl) | (apply T.cond_f; exact rfl) | (apply T.cond_h; exact rfl; assumption) | (apply T.cond_n; exact rfl; assumption) | (apply T.cond rfl <;> intro)) | apply Rnd.step)
      exact ⟨(i + 1, ov1, m % 256 :: bs, m / 256), ⟨by simp only; omega, by simp only [List.length_cons, hl], hov1, by simp only; omega, by simp only; omega, hb2⟩, by simp only; omega, ⟨rfl, by simp only; rw [← slV_eq hov1, List.length_cons, Nat.add_comm]; rfl, rfl, rfl, trivial⟩, by (focus ((repeat' (first | exact Keep.nil _ | exact Ext.one _ _ | exact Ext.here _ _ | exact Ext.all _ | apply Keep.cons | apply Keep.app | apply Keep.last | apply Ext.cons | apply Ext.app)); done))⟩
    · have he : i = W := by omega
      subst he
      rw [Nat.sub_self] at hbe
      have hbv : bs = V := hbe
      subst hbv
      rw [← slV_eq hov]
      repeat' (first | (apply R.is1; first | (apply R.isBin; first | (apply R.pure; exact rfl; first | (apply Ok1.add64; exact rfl; exact rfl; omega; omega) | (apply Ok1.lss_t; exact rfl; exact rfl; omega) | (apply Ok1.lss_f; exact rfl; exact rfl; omega) | (apply Ok1.eql_t; exact rfl; exact rfl; omega) | (apply Ok1.eql_f; exact rfl; exact rfl; omega) | (apply Ok1.quo64; exact rfl; exact rfl; omega; omega; omega) | (apply Ok1.remN; exact rfl; exact rfl; omega; omega) | (apply Ok1.eqlP; (iterate 5 exact rfl)) | (apply Ok1.eqlM; (iterate 5 exact rfl)) | (apply Ok1.eqlS; (iterate 5 exact rfl))) | (apply R.lss rfl rfl rfl <;> intro) | (apply R.eql rfl rfl rfl <;> intro) | (apply R.eqlF; (iterate 8 exact rfl); all_goals intro)) | (apply R.isCall; first | apply R.callP rfl rfl rfl hw | (apply R.pure; exact rfl; first | (apply Ok1.lenS; (iterate 3 exact rfl)) | (apply Ok1.lenStr; (iterate 3 exact rfl)) | (apply Ok1.lenMm; (iterate 3 exact rfl); (focus ((repeat' (first | exact At.head | apply At.tail | apply At.right)); done))) | (apply Ok1.lenM_nil; (iterate 3 exact rfl)))) | (apply R.pure; exact rfl; first | (apply Ok1.move; exact rfl) | (apply Ok1.fieldAddr; (iterate 5 exact rfl)) | (apply Ok1.load; exact rfl; first | (apply Ld.own1; exact rfl; exact rfl; (focus ((repeat' (first | exact At.head | apply At.tail | apply At.right)); done)); exact rfl) | (apply Ld.ownk; exact rfl; exact rfl; (focus ((repeat' (first | exact At.head | apply At.tail | apply At.right)); done)); exact rfl) | (apply Ld.old1; exact rfl; exact rfl; assumption; (first | exact List.not_mem_nil | assumption)) | (apply Ld.blk1; exact rfl; exact rfl; assumption; (first | exact List.not_mem_nil | assumption); exact rfl) | (apply Ld.blkk; exact rfl; exact rfl; assumption; (first | exact List.not_mem_nil | assumption); exact rfl)) | (apply Ok1.assign; exact rfl) | (apply Ok1.convI64; (iterate 5 exact rfl); omega; omega) | (apply Ok1.convU64; (iterate 5 exact rfl); omega; omega) | (apply Ok1.convU32; (iterate 5 exact rfl); omega; omega) | (apply Ok1.convU8; (iterate 5 exact rfl); omega; omega) | (apply Ok1.conv; (iterate 5 exact rfl))) | (apply R.box; (iterate 3 exact rfl); intro) | (apply R.buildSlice; (iterate 12 exact rfl); intro)) | (apply R.is0; first | fail) | (apply R.isG; first | (apply R.guard_run; exact rfl; exact rfl) | (apply R.guard_not; (iterate 3 exact rfl)) | (apply R.guard_not0; exact rfl; exact rfl) | (apply R.guard_un; (iterate 3 exact rfl)) | (apply R.guard_un0; exact rfl; exact rfl) | (apply R.guard rfl rfl ?_ (fun h => ⟨rfl, ?_⟩) <;> try intro)) | apply R.nil | (apply T.is; first | apply T.seq | apply T.region | apply T.block | apply T.scope | apply T.label | apply T.skip | apply T.exit | apply T.ret | (apply T.cond_t; exact rfl) | (apply T.cond_f; exact rfl) | (apply T.cond_h; exact rfl; assumption) | (apply T.cond_n; exact rfl; assumption) | (apply T.cond rfl <;> intro)) | apply Rnd.step)
      (apply RetOk.t; exact rfl)
      rw [hl] at hov ⊢
      exact ⟨_, by (focus ((repeat' (first | exact Keep.nil _ | exact Ext.one _ _ | exact Ext.here _ _ | exact Ext.all _ | apply Keep.cons | apply Keep.app | apply Keep.last | apply Ext.cons | apply Ext.app)); done)), ov, hov, rfl, rfl⟩
theorem be4 (n : Int) : beI 4 n [] = len4 n := by
  have h2 : n / 256 / 256 = n / 65536 := by omega
  have h3 : n / 65536 / 256 = n / 16777216 := by omega
  simp only [beI, len4, h2, h3]
theorem vcbytes_ok (c : Cl) (hr : c.right) (w : World) : CallM Tryz.prog 84 [kvC c] [] w fun v L => ∃ ov, OvOk 1 ov 9 (u8s (clI c)) ∧ v = slV ov 9 ∧ L = blkL 5 ov (u8s (clI c)) := by
  unfold Cl.right at hr
  have ho_id := vout_ok 1 (by decide) c.id (by omega) (by omega)
  have ho_exp := vout_ok 2 (by decide) c.exp (by omega) (by omega)
  have ho_ser := vout_ok 1 (by decide) c.ser (by omega) (by omega)
  simp only [show 2 ^ 1 = 2 from rfl] at ho_id ho_ser
  simp only [show 2 ^ 2 = 4 from rfl] at ho_exp
  have hcl : u8s (clI c) = u8s (beI 2 c.id []) ++ [.int .u8 c.roles] ++ u8s (beI 4 c.exp []) ++ u8s (beI 2 c.ser []) := by
    rw [be4]
    have : c.roles % 256 = c.roles := by omega
    unfold clI numI
    simp only [this, u8s_app]
    rfl
  refine enterK (tb := tb) Tryz.func84 rfl Tryz.ntmps84 rfl ?_
  simp only [kvC]
  repeat' (first | (apply R.is1; first | (apply R.isCall; first | (apply R.callE (vs := [.agg ⟨[.int .i64 1, .int .i64 c.id, .slice none 0 0]⟩]); (iterate 3 exact rfl); exact Ext.none _; intro w1 hw1; exact ho_id w1; rintro v Lo ⟨ov1, hov1, rfl, rfl⟩) | (apply R.callE (vs := [.agg ⟨[.int .i64 2, .int .i64 c.exp, .slice none 0 0]⟩]); (iterate 3 exact rfl); exact Ext.none _; intro w1 hw1; exact ho_exp w1; rintro v Lo ⟨ov3, hov3, rfl, rfl⟩; rw [slV_eq hov3]) | (apply R.callE (vs := [.agg ⟨[.int .i64 1, .int .i64 c.ser, .slice none 0 0]⟩]); (iterate 3 exact rfl); exact Ext.none _; intro w1 hw1; exact ho_ser w1; rintro v Lo ⟨ov5, hov5, rfl, rfl⟩; rw [slV_eq hov5]) | (apply R.append1; (iterate 12 exact rfl); (focus ((repeat' (first | exact OwnAt.mid hov1 | exact OwnAt.base hov1 | exact OwnAt.nil _ | apply OwnAt.tail | apply OwnAt.right)); done)); (focus ((repeat' (first | exact At.head | apply At.tail | apply At.right)); done)); exact rfl; exact rfl; omega; omega; intro b2 j2 k2 hj2) | (apply R.appendRd (xs := beI 4 c.exp []) (v := u8V) (sz := 1) (ov := some (b2, j2, k2)) (n := 2 + 1) (old := u8s (beI 2 c.id []) ++ [.int .u8 c.roles]); (iterate 12 exact rfl); exact hov1.some (b := b2) (ys := [.int .u8 c.roles]) (m := 1) rfl hj2; (focus ((repeat' (first | exact Ext.none _ | exact Ext.one _ _ | exact Ext.here _ _ | exact Ext.all _ | apply Ext.cons | apply Ext.app | apply Ext.two)); done)); exact rfl; exact u8V_len; exact rfl; (intro w1 hw1; exact rdown hov3 hw1 (Ext.mem (by (focus ((repeat' (first | exact Ext.none _ | exact Ext.one _ _ | exact Ext.here _ _ | exact Ext.all _ | apply Ext.cons | apply Ext.app | apply Ext.two)); done))))); (focus (rw [fl_u8]; exact u8s_one _)); omega; intro ov4 hov4 _; rw [fl_u8] at hov4; rw [fl_u8]) | (apply R.appendRd (xs := beI 2 c.ser []) (v := u8V) (sz := 1) (ov := ov4) (n := 2 + 1 + 4) (old := u8s (beI 2 c.id []) ++ [.int .u8 c.roles] ++ u8s (beI 4 c.exp [])); (iterate 12 exact rfl); exact hov4; (focus ((repeat' (first | exact Ext.none _ | exact Ext.one _ _ | exact Ext.here _ _ | exact Ext.all _ | apply Ext.cons | apply Ext.app | apply Ext.two)); done)); exact rfl; exact u8V_len; exact rfl; (intro w1 hw1; exact rdown hov5 hw1 (Ext.mem (by (focus ((repeat' (first | exact Ext.none _ | exact Ext.one _ _ | exact Ext.here _ _ | exact Ext.all _ | apply Ext.cons | apply Ext.app | apply Ext.two)); done))))); (focus (rw [fl_u8]; exact u8s_one _)); omega; intro ov6 hov6 _; rw [fl_u8] at hov6; rw [fl_u8])) | (apply R.pure; exact rfl; first | (apply Ok1.move; exact rfl) | (apply Ok1.fieldAddr; (iterate 5 exact rfl)) | (apply Ok1.load; exact rfl; first | (apply Ld.own1; exact rfl; exact rfl; (focus ((repeat' (first | exact At.head | apply At.tail | apply At.right)); done)); exact rfl) | (apply Ld.ownk; exact rfl; exact rfl; (focus ((repeat' (first | exact At.head | apply At.tail | apply At.right)); done)); exact rfl) | (apply Ld.old1; exact rfl; exact rfl; assumption; (first | exact List.not_mem_nil | assumption)) | (apply Ld.blk1; exact rfl; exact rfl; assumption; (first | exact List.not_mem_nil | assumption); exact rfl) | (apply Ld.blkk; exact rfl; exact rfl; assumption; (first | exact List.not_mem_nil | assumption); exact rfl)) | (apply Ok1.assign; exact rfl) | (apply Ok1.build; (iterate 5 exact rfl)) | (apply Ok1.buildA; (iterate 6 exact rfl)) | (apply Ok1.convI64; (iterate 5 exact rfl); omega; omega) | (apply Ok1.convU64; (iterate 5 exact rfl); omega; omega) | (apply Ok1.convU32; (iterate 5 exact rfl); omega; omega) | (apply Ok1.convU8; (iterate 5 exact rfl); omega; omega) | (apply Ok1.conv; (iterate 5 exact rfl))) | (apply R.box; (iterate 3 exact rfl); intro) | (apply R.buildSlice; (iterate 12 exact rfl); intro)) | (apply R.is0; first | fail) | (apply R.isG; first | (apply R.guard_run; exact rfl; exact rfl) | (apply R.guard_not; (iterate 3 exact rfl)) | (apply R.guard_not0; exact rfl; exact rfl) | (apply R.guard_un; (iterate 3 exact rfl)) | (apply R.guard_un0; exact rfl; exact rfl) | (apply R.guard rfl rfl ?_ (fun h => ⟨rfl, ?_⟩) <;> try intro)) | apply R.nil | (apply T.is; first | apply T.seq | apply T.region | apply T.block | apply T.scope | apply T.label | apply T.skip | apply T.exit | apply T.ret | (apply T.cond_t; exact rfl) | (apply T.cond_f; exact rfl) | (apply T.cond_h; exact rfl; assumption) | (apply T.cond_n; exact rfl; assumption) | (apply T.cond rfl <;> intro)) | apply Rnd.step)
  (apply RetOk.t; exact rfl)
  rw [← hcl] at hov6 ⊢
  exact ⟨_, by (focus ((repeat' (first | exact Keep.nil _ | exact Ext.one _ _ | exact Ext.here _ _ | exact Ext.all _ | apply Keep.cons | apply Keep.app | apply Keep.last | apply Ext.cons | apply Ext.app)); done)), ov6, hov6, rfl, rfl⟩
end Go.Proofs.YtplhnkmmhndkjaaGreat
set_option linter.unusedSimpArgs false
set_option linter.unusedVariables false
namespace Go.Proofs.YtplhnkmmhndkjaaGreat
open Go.RowKit Go.Shelf
set_option pp.deepTerms.threshold 8
set_option maxRecDepth 100000
theorem mref_ok (p : Option Addr) (cap : Nat) (rs : List Rm) (w : World) (hp : RdSl w p Rm.v rs) (hl : rs.length ≤ 20) :
    CallM Tryz.prog 47 [.slice p rs.length cap] [] w fun v L => (rmE rs ≠ 0 ∧ v = .tuple #[.slice none 0 0, .int .i64 (rmE rs)] ∧ L = []) ∨ rmE rs = 0 ∧ ∃ ov, OvOk 1 ov (1 + 14 * rs.length) (u8s (rmsI rs.length rs)) ∧ v = .tuple #[slV ov (1 + 14 * rs.length), .int .i64 0] ∧ L = blkL 5 ov (u8s (rmsI rs.length rs)) := by
  refine enterK (tb := tb) Tryz.func47 rfl Tryz.ntmps47 rfl ?_
  repeat' (first | (apply R.is1; first | (apply R.isBin; (apply R.pure; exact rfl; (apply Ok1.gtr_f; exact rfl; exact rfl; omega))) | (apply R.isCall; (apply R.pure; exact rfl; (apply Ok1.lenS; (iterate 3 exact rfl)))) | (apply R.pure; exact rfl; first | (apply Ok1.move; exact rfl) | (apply Ok1.assign; exact rfl) | (apply Ok1.convU8; (iterate 5 exact rfl); omega; omega)) | (apply R.buildSlice; (iterate 12 exact rfl); intro)) | apply R.nil | (apply T.is; first | apply T.seq | apply T.region | apply T.block | apply T.skip | (apply T.cond_f; exact rfl)))
  rename_i b0
  apply T.loopK (α := Nat × Ov) (I := fun y => y.1 ≤ rs.length ∧ (∀ x ∈ rs.take y.1, x.chk = 0) ∧ OvOk 1 y.2 (1 + 14 * y.1) (u8s (rmsI rs.length (rs.take y.1)))) (σi := fun y => [(0, .slice p rs.length cap), (4, slV y.2 (1 + 14 * y.1)), (5, .int .i64 y.1)]) (Li := fun y => blkL 5 y.2 (u8s (rmsI rs.length (rs.take y.1)))) (μ := fun y => rs.length - y.1) (i0 := (0, some (b0, 0, [])))
  · exact ⟨Nat.zero_le _, by simp, rfl, rfl⟩
  · exact ⟨rfl, rfl, rfl, trivial⟩
  · (focus ((repeat' (first | exact Keep.nil _ | exact Ext.one _ _ | apply Keep.cons)); done))
  · rintro ⟨i, ov⟩ ⟨hi, hck, hov⟩
    simp only at hi hck hov ⊢
    rcases Nat.lt_or_ge i rs.length with hlt | hge
    · obtain ⟨r, hr⟩ : ∃ r, rs[i]? = some r := ⟨_, List.getElem?_eq_getElem (by omega)⟩
      obtain ⟨b, o, hpe, H⟩ := hp.at hr
      replace H := H 6 Rm.v_len
      have hmc := refCheck_ok r
      by_cases hc : r.chk = 0
      · obtain ⟨hrt, hk0, hk3, hi0, hi1⟩ := chk_right hc
        have hcb := fun w1 => vcbytes_ok r.cl hrt w1
        have hdo := fun w1 => dout_ok 2 r.inc ⟨hi0, .inr (.inr ⟨rfl, by omega⟩)⟩ w1
        rw [hc] at hmc
        have hn4 : numI 2 r.inc = [r.inc / 16777216, r.inc / 65536 % 256, r.inc / 256 % 256, r.inc % 256] := by
          show len4 r.inc = _
          simp only [len4, List.cons.injEq, and_true]
          omega
        generalize hB : rmsI rs.length (rs.take i) = B at *
        generalize hC : clI r.cl = C at *
        have hi4 : (numI 2 r.inc).length = 4 := rfl
        rw [hi4] at hdo
        generalize hI : numI 2 r.inc = I4 at *
        repeat' (first | (apply R.is1; first | (apply R.isBin; (apply R.pure; exact rfl; first | (apply Ok1.add64; exact rfl; exact rfl; omega; omega) | (apply Ok1.lss_t; exact rfl; exact rfl; omega) | (apply Ok1.neq_f; exact rfl; exact rfl; omega))) | (apply R.isCall; first | apply R.callP rfl rfl rfl hmc | (apply R.callE (vs := [.agg ⟨fldV 2 r.inc⟩]); (iterate 3 exact rfl); exact Ext.none _; intro w1 hw1; exact hdo w1; rintro v Lo ⟨ovd, hovd, rfl, rfl⟩) | (apply R.appendSl (ov := ov3) (n := 1 + 14 * i + 1 + 9) (old := u8s B ++ [Value.int .u8 r.kind] ++ u8s C) (ov2 := ovd) (m := 4) (news := u8s I4) (e3 := 5); (iterate 12 exact rfl); exact hov3; exact hovd; (focus ((repeat' (first | exact Ext.here _ _ | apply Ext.app)); done)); exact Ext.mem (by (focus ((repeat' (exact Ext.here _ _)); done))); exact u8s_one _; omega; intro ov4 hov4) | (apply R.pure; exact rfl; (apply Ok1.lenS; (iterate 3 exact rfl)))) | (apply R.pure; exact rfl; first | (apply Ok1.indexAddrP; (iterate 4 exact rfl); exact hpe; exact rfl; omega; omega) | (apply Ok1.load; exact rfl; first | (apply Ld.rowk0 H; exact rfl; exact List.not_mem_nil; (iterate 3 exact rfl)) | (apply Ld.row1 H; exact rfl; exact List.not_mem_nil; (iterate 3 exact rfl))) | (apply Ok1.move; exact rfl) | (apply Ok1.fieldAddr; (iterate 5 exact rfl)) | (apply Ok1.assign; exact rfl) | (apply Ok1.build; (iterate 5 exact rfl)))) | apply R.nil | (apply T.is; first | (apply T.drawC (id := 10) [] (by decide); ((apply A.take 0; exact rfl; exact rfl; kernel_rfl; kernel_rfl; kernel_rfl; (apply Ok1.move; exact rfl)) <;> (apply A.take 1; exact rfl; exact rfl; kernel_rfl; kernel_rfl; kernel_rfl; (apply Ok1.move; exact rfl)) <;> (apply A.take 2; exact rfl; exact rfl; kernel_rfl; kernel_rfl; kernel_rfl; (apply Ok1.move; exact rfl)) <;> (apply A.take 3; exact rfl; exact rfl; kernel_rfl; kernel_rfl; kernel_rfl; (apply Ok1.indexAddrP; (iterate 4 exact rfl); exact hpe; exact rfl; omega; omega)) <;> (apply A.take 4; exact rfl; exact rfl; kernel_rfl; kernel_rfl; kernel_rfl; (apply Ok1.fieldAddr; (iterate 5 exact rfl))) <;> (apply A.take 5; exact rfl; exact rfl; kernel_rfl; kernel_rfl; kernel_rfl; (apply Ok1.load; exact rfl; (apply Ld.row0 H; exact rfl; exact List.not_mem_nil; (iterate 3 exact rfl)))) <;> (apply A.take 6; exact rfl; exact rfl; kernel_rfl; kernel_rfl; kernel_rfl; (apply Ok1.convU8; (iterate 5 exact rfl); omega; omega)) <;> (apply A.take 9; exact rfl; exact rfl; kernel_rfl; kernel_rfl; kernel_rfl; (apply Ok1.move; exact rfl)) <;> (apply A.take 10; exact rfl; exact rfl; kernel_rfl; kernel_rfl; kernel_rfl; (apply Ok1.move; exact rfl)) <;> (apply A.take 11; exact rfl; exact rfl; kernel_rfl; kernel_rfl; kernel_rfl; (apply Ok1.indexAddrP; (iterate 4 exact rfl); exact hpe; exact rfl; omega; omega)) <;> (apply A.take 12; exact rfl; exact rfl; kernel_rfl; kernel_rfl; kernel_rfl; (apply Ok1.fieldAddr; (iterate 5 exact rfl))) <;> (apply A.take 13; exact rfl; exact rfl; kernel_rfl; kernel_rfl; kernel_rfl; (apply Ok1.load; exact rfl; (apply Ld.rowk H; exact rfl; exact List.not_mem_nil; (iterate 3 exact rfl)))) <;> (apply A.one 7; kernel_rfl; exact rfl; (((apply R.buildSlice; (iterate 12 exact rfl); intro))); apply R.nil; refine ⟨?_, ?_⟩; (focus ((repeat' (exact trivial))))) <;> (apply A.one 8; kernel_rfl; exact rfl; ((((apply R.append1; (iterate 12 exact rfl); (focus ((repeat' (first | exact OwnAt.base hov | apply OwnAt.tail)); done)); exact At.head; exact rfl; exact rfl; omega; omega; intro b2 j2 k2 hj2); have hov2 := OvOk.some (b := b2) hov (ys := [Value.int .u8 r.kind]) (m := 1) rfl hj2))); apply R.nil; refine ⟨?_, ?_⟩; (focus ((repeat' (exact trivial))))) <;> (apply A.one 14; kernel_rfl; exact rfl; (((apply R.callE (vs := [kvC r.cl]); (iterate 3 exact rfl); exact Ext.none _; intro w1 hw1; exact hcb w1; rintro v Lo ⟨ovc1, hovc, rfl, rfl⟩))); apply R.nil; refine ⟨?_, ?_⟩; (focus ((repeat' (exact trivial))))) <;> (apply A.one 15; kernel_rfl; exact rfl; (((apply R.appendSl (ov := some (b2, j2, k2)) (n := 1 + 14 * i + 1) (old := u8s B ++ [Value.int .u8 r.kind]) (ov2 := ovc1) (m := 9) (news := u8s C) (e3 := 5); (iterate 12 exact rfl); exact hov2; exact hovc; (focus ((repeat' (first | exact Ext.one _ _ | apply Ext.app)); done)); exact Ext.mem (by (focus ((repeat' (exact Ext.here _ _)); done))); exact u8s_one _; omega; intro ov3 hov3))); apply R.nil; refine ⟨?_, ?_⟩; (focus ((repeat' (exact trivial))))) <;> (apply A.take 16; exact rfl; exact rfl; kernel_rfl; kernel_rfl; kernel_rfl; (apply Ok1.assign; exact rfl)) <;> (apply A.done; kernel_rfl))) | apply T.seq | apply T.region | apply T.block | apply T.skip | (apply T.cond_t; exact rfl) | (apply T.cond_f; exact rfl)))
        all_goals
          have hB1 : u8s (rmsI rs.length (rs.take (i + 1))) = u8s B ++ [Value.int .u8 r.kind] ++ u8s C ++ u8s I4 := by
            rw [← hB, ← hC, hn4]
            simp only [rmsI, List.take_add_one, hr, Option.toList, List.map_append, List.flatten_append, List.map_cons, List.map_nil, List.flatten_cons, List.flatten_nil, rmI, List.append_nil]
            simp only [u8s, List.map_append, List.map_cons, List.map_nil, List.cons_append, List.append_assoc, List.nil_append]
          have hck1 : ∀ x ∈ rs.take (i + 1), x.chk = 0 := fun x hx => by
            rw [List.take_add_one, hr] at hx
            rcases List.mem_append.1 hx with h | h
            · exact hck x h
            · simp only [Option.toList, List.mem_singleton] at h
              rw [h]; exact hc
          have hn1 : 1 + 14 * (i + 1) = 1 + 14 * i + 1 + 9 + 4 := by omega
          refine ⟨(i + 1, ov4), ?_⟩
          simp only [hB1, hn1]
          exact ⟨⟨by omega, hck1, hov4⟩, by omega, ⟨rfl, rfl, rfl, trivial⟩, by (focus ((repeat' (first | exact Ext.here _ _ | apply Keep.last)); done))⟩
      · repeat' (first | (apply R.is1; first | (apply R.isBin; (apply R.pure; exact rfl; first | (apply Ok1.lss_t; exact rfl; exact rfl; omega) | (apply Ok1.neq_t; exact rfl; exact rfl; omega))) | (apply R.isCall; first | apply R.callP rfl rfl rfl hmc | (apply R.pure; exact rfl; (apply Ok1.lenS; (iterate 3 exact rfl)))) | (apply R.pure; exact rfl; first | (apply Ok1.indexAddrP; (iterate 4 exact rfl); exact hpe; exact rfl; omega; omega) | (apply Ok1.load; exact rfl; (apply Ld.rowk0 H; exact rfl; exact List.not_mem_nil; (iterate 3 exact rfl))) | (apply Ok1.move; exact rfl) | (apply Ok1.assign; exact rfl))) | apply R.nil | (apply T.is; first | apply T.seq | apply T.region | apply T.block | apply T.skip | apply T.ret | (apply T.cond_t; exact rfl)))
        all_goals (apply RetOk.tt; exact rfl; exact rfl)
        all_goals have he := rmE_at hck hr hc
        all_goals exact ⟨_, by (focus ((repeat' (exact Keep.nil _)); done)), .inl ⟨by rw [he]; exact hc, by rw [he], rfl⟩⟩
    · have him : i = rs.length := by omega
      subst him
      rw [List.take_length] at hov hck ⊢
      repeat' (first | (apply R.is1; first | (apply R.isBin; (apply R.pure; exact rfl; (apply Ok1.lss_f; exact rfl; exact rfl; omega))) | (apply R.isCall; (apply R.pure; exact rfl; (apply Ok1.lenS; (iterate 3 exact rfl)))) | (apply R.pure; exact rfl; first | (apply Ok1.move; exact rfl) | (apply Ok1.assign; exact rfl))) | apply R.nil | (apply T.is; first | apply T.seq | apply T.region | apply T.exit | apply T.ret | (apply T.cond_f; exact rfl)))
      (apply RetOk.tt; exact rfl; exact rfl)
      exact ⟨_, by (focus ((repeat' (first | exact Ext.all _ | apply Keep.last)); done)), .inr ⟨rmE_ok hck, ov, hov, rfl, rfl⟩⟩
theorem mref_long (p : Option Addr) (n cap : Nat) (hl : 20 < n) : CallP Tryz.prog 47 [.slice p n cap] (.tuple #[.slice none 0 0, .int .i64 2]) := by
  refine enterP (tb := tb) Tryz.func47 rfl Tryz.ntmps47 rfl fun w => ?_
  repeat' (first | (apply R.is1; first | (apply R.isBin; (apply R.pure; exact rfl; (apply Ok1.gtr_t; exact rfl; exact rfl; omega))) | (apply R.isCall; (apply R.pure; exact rfl; (apply Ok1.lenS; (iterate 3 exact rfl)))) | (apply R.pure; exact rfl; first | (apply Ok1.move; exact rfl) | (apply Ok1.assign; exact rfl))) | apply R.nil | (apply T.is; first | apply T.seq | apply T.region | apply T.ret | (apply T.cond_t; exact rfl)))
  (apply RetOk.tt; exact rfl; exact rfl)
  rfl
theorem dtw_ok (p : Option Addr) (cap : Nat) (cs : List Cl) (w : World) (hp : RdSl w p Cl.v cs) (hl : cs.length ≤ 1000) : CallW Tryz.prog 85 [.slice p cs.length cap] w fun v _ => v = .bool (decide (¬ cs.Nodup)) := by
  refine enterW (tb := tb) Tryz.func85 rfl Tryz.ntmps85 rfl ?_
  repeat' (first | (apply R.is1; (apply R.pure; exact rfl; (apply Ok1.assign; exact rfl))) | apply R.nil | (apply T.is; first | apply T.seq | apply T.region | apply T.block))
  apply T.loopK (α := Nat) (I := fun i => i ≤ cs.length ∧ (cs.take i).Nodup) (σi := fun i => [(0, .slice p cs.length cap), (3, .int .i64 i)]) (Li := fun _ => []) (μ := fun i => cs.length - i) (i0 := 0)
  · exact ⟨Nat.zero_le _, by simp⟩
  · exact ⟨rfl, rfl, trivial⟩
  · exact Keep.nil _
  · rintro i ⟨hi, hnd⟩
    rcases Nat.lt_or_ge i cs.length with hlt | hge
    · obtain ⟨c, hc⟩ : ∃ c, cs[i]? = some c := ⟨_, List.getElem?_eq_getElem (by omega)⟩
      obtain ⟨b, o, hpe, H⟩ := hp.at hc
      replace H := H 4 Cl.v_len4
      repeat' (first | (apply R.is1; first | (apply R.isBin; (apply R.pure; exact rfl; (apply Ok1.lss_t; exact rfl; exact rfl; omega))) | (apply R.isCall; (apply R.pure; exact rfl; (apply Ok1.lenS; (iterate 3 exact rfl)))) | (apply R.pure; exact rfl; first | (apply Ok1.move; exact rfl) | (apply Ok1.assign; exact rfl))) | apply R.nil | (apply T.is; first | apply T.seq | apply T.region | apply T.block | apply T.skip | (apply T.cond_t; exact rfl)))
      apply T.loopK (α := Nat) (I := fun k => k ≤ i ∧ c ∉ cs.take k) (σi := fun k => [(0, .slice p cs.length cap), (3, .int .i64 i), (4, .int .i64 k)]) (Li := fun _ => []) (μ := fun k => i - k) (i0 := 0)
      · exact ⟨Nat.zero_le _, by simp⟩
      · exact ⟨rfl, rfl, rfl, trivial⟩
      · exact Keep.nil _
      · rintro k ⟨hk, hno⟩
        rcases Nat.lt_or_ge k i with hlk | hgk
        · obtain ⟨d, hd⟩ : ∃ d, cs[k]? = some d := ⟨_, List.getElem?_eq_getElem (by omega)⟩
          obtain ⟨b', o', hpe', H'⟩ := hp.at hd
          replace H' := H' 4 Cl.v_len4
          obtain ⟨rfl, rfl⟩ : b = b' ∧ o = o' := by rw [hpe] at hpe'; cases hpe'; exact ⟨rfl, rfl⟩
          have hcd : c.v = d.v ↔ decide (c = d) = true := by rw [decide_eq_true_iff]; exact clv_inj9
          by_cases he : c = d
          · rw [decide_eq_true he] at hcd
            repeat' (first | (apply R.is1; first | (apply R.isBin; (apply R.pure; exact rfl; (apply Ok1.lss_t; exact rfl; exact rfl; omega))) | (apply R.pure; exact rfl; first | (apply Ok1.move; exact rfl) | (apply Ok1.assign; exact rfl))) | apply R.nil | (apply T.is; first | (apply T.draw (id := 7); ((apply A.take 0; exact rfl; exact rfl; kernel_rfl; kernel_rfl; kernel_rfl; (apply Ok1.move; exact rfl)) <;> (apply A.take 1; exact rfl; exact rfl; kernel_rfl; kernel_rfl; kernel_rfl; (apply Ok1.move; exact rfl)) <;> (apply A.take 2; exact rfl; exact rfl; kernel_rfl; kernel_rfl; kernel_rfl; (apply Ok1.indexAddrP; (iterate 4 exact rfl); (exact hpe); exact rfl; omega; omega)) <;> (apply A.take 3; exact rfl; exact rfl; kernel_rfl; kernel_rfl; kernel_rfl; (apply Ok1.load; exact rfl; (apply Ld.rowk0 H; exact rfl; exact List.not_mem_nil; (iterate 3 exact rfl)))) <;> (apply A.take 4; exact rfl; exact rfl; kernel_rfl; kernel_rfl; kernel_rfl; (apply Ok1.move; exact rfl)) <;> (apply A.take 5; exact rfl; exact rfl; kernel_rfl; kernel_rfl; kernel_rfl; (apply Ok1.move; exact rfl)) <;> (apply A.take 6; exact rfl; exact rfl; kernel_rfl; kernel_rfl; kernel_rfl; (apply Ok1.indexAddrP; (iterate 4 exact rfl); (exact hpe); exact rfl; omega; omega)) <;> (apply A.take 7; exact rfl; exact rfl; kernel_rfl; kernel_rfl; kernel_rfl; (apply Ok1.load; exact rfl; (apply Ld.rowk0 H'; exact rfl; exact List.not_mem_nil; (iterate 3 exact rfl)))) <;> ((apply A.take 8; exact rfl; exact rfl; kernel_rfl; kernel_rfl; kernel_rfl; (apply Ok1.eqlFq2 (xs := c.v) (ys := d.v) (q := true); (iterate 7 exact rfl); exact hcd))) <;> (apply A.done; kernel_rfl))) | apply T.seq | apply T.region | apply T.block | apply T.skip | apply T.ret | (apply T.cond_t; exact rfl)))
            all_goals (apply RetOk.t; exact rfl)
            all_goals
              rw [decide_eq_true]
              intro h
              have h2 := List.pairwise_iff_getElem.1 h k i (by omega) (by omega) hlk
              obtain ⟨_, g1⟩ := List.getElem?_eq_some_iff.1 hc
              obtain ⟨_, g2⟩ := List.getElem?_eq_some_iff.1 hd
              exact h2 (g2.trans (he.symm.trans g1.symm))
          · rw [decide_eq_false he] at hcd
            repeat' (first | (apply R.is1; first | (apply R.isBin; (apply R.pure; exact rfl; first | (apply Ok1.add64; exact rfl; exact rfl; omega; omega) | (apply Ok1.lss_t; exact rfl; exact rfl; omega))) | (apply R.pure; exact rfl; first | (apply Ok1.move; exact rfl) | (apply Ok1.assign; exact rfl))) | apply R.nil | (apply T.is; first | (apply T.draw (id := 7); ((apply A.take 0; exact rfl; exact rfl; kernel_rfl; kernel_rfl; kernel_rfl; (apply Ok1.move; exact rfl)) <;> (apply A.take 1; exact rfl; exact rfl; kernel_rfl; kernel_rfl; kernel_rfl; (apply Ok1.move; exact rfl)) <;> (apply A.take 2; exact rfl; exact rfl; kernel_rfl; kernel_rfl; kernel_rfl; (apply Ok1.indexAddrP; (iterate 4 exact rfl); (exact hpe); exact rfl; omega; omega)) <;> (apply A.take 3; exact rfl; exact rfl; kernel_rfl; kernel_rfl; kernel_rfl; (apply Ok1.load; exact rfl; (apply Ld.rowk0 H; exact rfl; exact List.not_mem_nil; (iterate 3 exact rfl)))) <;> (apply A.take 4; exact rfl; exact rfl; kernel_rfl; kernel_rfl; kernel_rfl; (apply Ok1.move; exact rfl)) <;> (apply A.take 5; exact rfl; exact rfl; kernel_rfl; kernel_rfl; kernel_rfl; (apply Ok1.move; exact rfl)) <;> (apply A.take 6; exact rfl; exact rfl; kernel_rfl; kernel_rfl; kernel_rfl; (apply Ok1.indexAddrP; (iterate 4 exact rfl); (exact hpe); exact rfl; omega; omega)) <;> (apply A.take 7; exact rfl; exact rfl; kernel_rfl; kernel_rfl; kernel_rfl; (apply Ok1.load; exact rfl; (apply Ld.rowk0 H'; exact rfl; exact List.not_mem_nil; (iterate 3 exact rfl)))) <;> ((apply A.take 8; exact rfl; exact rfl; kernel_rfl; kernel_rfl; kernel_rfl; (apply Ok1.eqlFq2 (xs := c.v) (ys := d.v) (q := false); (iterate 7 exact rfl); exact hcd))) <;> (apply A.done; kernel_rfl))) | apply T.seq | apply T.region | apply T.block | apply T.skip | (apply T.cond_t; exact rfl) | (apply T.cond_f; exact rfl)))
            all_goals refine ⟨k + 1, ⟨by omega, ?_⟩, by omega, ⟨rfl, rfl, rfl, trivial⟩, Keep.nil _⟩
            all_goals
              rw [List.take_add_one, hd]
              simp only [Option.toList, List.mem_append, List.mem_singleton, not_or]
              exact ⟨hno, he⟩
        · have hki : k = i := by omega
          subst hki
          repeat' (first | (apply R.is1; first | (apply R.isBin; (apply R.pure; exact rfl; first | (apply Ok1.add64; exact rfl; exact rfl; omega; omega) | (apply Ok1.lss_f; exact rfl; exact rfl; omega))) | (apply R.pure; exact rfl; first | (apply Ok1.move; exact rfl) | (apply Ok1.assign; exact rfl))) | apply R.nil | (apply T.is; first | apply T.seq | apply T.region | apply T.exit | (apply T.cond_f; exact rfl)))
          refine ⟨k + 1, ⟨by omega, ?_⟩, by omega, ⟨rfl, rfl, trivial⟩, Keep.nil _⟩
          rw [List.take_add_one, hc]
          simp only [Option.toList]
          rw [List.nodup_append]
          exact ⟨hnd, by simp, fun a ha b hb => by rw [List.mem_singleton.1 hb]; exact fun e => hno (e ▸ ha)⟩
    · have him : i = cs.length := by omega
      subst him
      rw [List.take_length] at hnd
      repeat' (first | (apply R.is1; first | (apply R.isBin; (apply R.pure; exact rfl; (apply Ok1.lss_f; exact rfl; exact rfl; omega))) | (apply R.isCall; (apply R.pure; exact rfl; (apply Ok1.lenS; (iterate 3 exact rfl)))) | (apply R.pure; exact rfl; first | (apply Ok1.move; exact rfl) | (apply Ok1.assign; exact rfl))) | apply R.nil | (apply T.is; first | apply T.seq | apply T.region | apply T.exit | apply T.ret | (apply T.cond_f; exact rfl)))
      (apply RetOk.t; exact rfl)
      rw [decide_eq_false (p := ¬ cs.Nodup) (fun h => h hnd)]
theorem vpeople_ok (p : Option Addr) (cap : Nat) (cs : List Cl) (w : World) (hp : RdSl w p Cl.v cs) (hl : cs.length ≤ 1000) :
    CallM Tryz.prog 48 [.slice p cs.length cap] [] w fun v L => (pplE cs ≠ 0 ∧ v = .tuple #[.slice none 0 0, .int .i64 (pplE cs)] ∧ L = []) ∨ pplE cs = 0 ∧ ∃ ov, OvOk 1 ov (1 + 9 * cs.length) (u8s (pplI cs)) ∧ v = .tuple #[slV ov (1 + 9 * cs.length), .int .i64 0] ∧ L = blkL 5 ov (u8s (pplI cs)) := by
  have htw := fun w1 (hc : Chg [] w w1) => dtw_ok p cap cs w1 (hp.chg' hc (fun _ => Off.nil _)) hl
  refine enterK (tb := tb) Tryz.func48 rfl Tryz.ntmps48 rfl ?_
  rcases Nat.lt_or_ge 16 cs.length with h16 | h16
  · repeat' (first | (apply R.is1; first | (apply R.isBin; (apply R.pure; exact rfl; (apply Ok1.gtr_t; exact rfl; exact rfl; omega))) | (apply R.isCall; (apply R.pure; exact rfl; (apply Ok1.lenS; (iterate 3 exact rfl)))) | (apply R.pure; exact rfl; first | (apply Ok1.move; exact rfl) | (apply Ok1.assign; exact rfl))) | apply R.nil | (apply T.is; first | apply T.seq | apply T.region | apply T.ret | (apply T.cond_t; exact rfl)))
    (apply RetOk.tt; exact rfl; exact rfl)
    have he : pplE cs = 2 := by unfold pplE; rw [if_pos h16]
    exact ⟨_, Keep.nil _, .inl ⟨by rw [he]; decide, by rw [he], rfl⟩⟩
  repeat' (first | (apply R.is1; first | (apply R.isBin; (apply R.pure; exact rfl; (apply Ok1.gtr_f; exact rfl; exact rfl; omega))) | (apply R.isCall; (apply R.pure; exact rfl; (apply Ok1.lenS; (iterate 3 exact rfl)))) | (apply R.pure; exact rfl; first | (apply Ok1.move; exact rfl) | (apply Ok1.assign; exact rfl) | (apply Ok1.convU8; (iterate 5 exact rfl); omega; omega)) | (apply R.buildSlice; (iterate 12 exact rfl); intro)) | apply R.nil | (apply T.is; first | apply T.seq | apply T.region | apply T.block | apply T.skip | (apply T.cond_f; exact rfl)))
  rename_i b0
  apply T.loopK (α := Nat × Ov) (I := fun y => y.1 ≤ cs.length ∧ (∀ x ∈ cs.take y.1, x.right) ∧ OvOk 1 y.2 (1 + 9 * y.1) (u8s (pplsI cs.length (cs.take y.1)))) (σi := fun y => [(0, .slice p cs.length cap), (4, slV y.2 (1 + 9 * y.1)), (5, .int .i64 y.1)]) (Li := fun y => blkL 5 y.2 (u8s (pplsI cs.length (cs.take y.1)))) (μ := fun y => cs.length - y.1) (i0 := (0, some (b0, 0, [])))
  · exact ⟨Nat.zero_le _, by simp, rfl, rfl⟩
  · exact ⟨rfl, rfl, rfl, trivial⟩
  · (focus ((repeat' (first | exact Keep.nil _ | exact Ext.one _ _ | apply Keep.cons)); done))
  · rintro ⟨i, ov⟩ ⟨hi, hck, hov⟩
    simp only at hi hck hov ⊢
    rcases Nat.lt_or_ge i cs.length with hlt | hge
    · obtain ⟨c, hr⟩ : ∃ c, cs[i]? = some c := ⟨_, List.getElem?_eq_getElem (by omega)⟩
      obtain ⟨b, o, hpe, H⟩ := hp.at hr
      replace H := H 4 Cl.v_len4
      have hrg := right_ok c.id c.roles c.exp c.ser
      by_cases hc : c.right
      · have hcb := fun w1 => vcbytes_ok c hc w1
        rw [decide_eq_true (p := Cl.right ⟨c.id, c.roles, c.exp, c.ser⟩) hc] at hrg
        generalize hB : pplsI cs.length (cs.take i) = B at *
        generalize hC : clI c = C at *
        repeat' (first | (apply R.is1; first | (apply R.isBin; (apply R.pure; exact rfl; first | (apply Ok1.add64; exact rfl; exact rfl; omega; omega) | (apply Ok1.lss_t; exact rfl; exact rfl; omega))) | (apply R.isCall; first | apply R.callP rfl rfl rfl hrg | (apply R.callE (vs := [kvC c]); (iterate 3 exact rfl); exact Ext.none _; intro w1 hw1; exact hcb w1; rintro v Lo ⟨ovc1, hovc, rfl, rfl⟩) | (apply R.appendSl (ov := ov) (n := 1 + 9 * i) (old := u8s B) (ov2 := ovc1) (m := 9) (news := u8s C) (e3 := 5); (iterate 12 exact rfl); exact hov; exact hovc; (focus ((repeat' (first | exact Ext.all _ | apply Ext.app)); done)); exact Ext.mem (by (focus ((repeat' (exact Ext.here _ _)); done))); exact u8s_one _; omega; intro ov3 hov3) | (apply R.pure; exact rfl; (apply Ok1.lenS; (iterate 3 exact rfl)))) | (apply R.pure; exact rfl; first | (apply Ok1.indexAddrP; (iterate 4 exact rfl); exact hpe; exact rfl; omega; omega) | (apply Ok1.load; exact rfl; (apply Ld.rowk0 H; exact rfl; exact List.not_mem_nil; (iterate 3 exact rfl))) | (apply Ok1.move; exact rfl) | (apply Ok1.assign; exact rfl) | (apply Ok1.not_t; exact rfl))) | apply R.nil | (apply T.is; first | apply T.seq | apply T.region | apply T.block | apply T.skip | (apply T.cond_t; exact rfl) | (apply T.cond_f; exact rfl)))
        all_goals
          have hB1 : u8s (pplsI cs.length (cs.take (i + 1))) = u8s B ++ u8s C := by
            rw [← hB, ← hC]
            simp only [pplsI, List.take_add_one, hr, Option.toList, List.map_append, List.flatten_append, List.map_cons, List.map_nil, List.flatten_cons, List.flatten_nil, List.append_nil]
            simp only [u8s, List.map_append, List.map_cons, List.map_nil, List.cons_append, List.append_assoc, List.nil_append]
          have hck1 : ∀ x ∈ cs.take (i + 1), x.right := fun x hx => by
            rw [List.take_add_one, hr] at hx
            rcases List.mem_append.1 hx with h | h
            · exact hck x h
            · simp only [Option.toList, List.mem_singleton] at h
              rw [h]; exact hc
          have hn1 : 1 + 9 * (i + 1) = 1 + 9 * i + 9 := by omega
          refine ⟨(i + 1, ov3), ?_⟩
          simp only [hB1, hn1]
          exact ⟨⟨by omega, hck1, hov3⟩, by omega, ⟨rfl, rfl, rfl, trivial⟩, by (focus ((repeat' (first | exact Ext.here _ _ | apply Keep.last)); done))⟩
      · rw [decide_eq_false (p := Cl.right ⟨c.id, c.roles, c.exp, c.ser⟩) hc] at hrg
        repeat' (first | (apply R.is1; first | (apply R.isBin; (apply R.pure; exact rfl; (apply Ok1.lss_t; exact rfl; exact rfl; omega))) | (apply R.isCall; first | apply R.callP rfl rfl rfl hrg | (apply R.pure; exact rfl; (apply Ok1.lenS; (iterate 3 exact rfl)))) | (apply R.pure; exact rfl; first | (apply Ok1.indexAddrP; (iterate 4 exact rfl); exact hpe; exact rfl; omega; omega) | (apply Ok1.load; exact rfl; (apply Ld.rowk0 H; exact rfl; exact List.not_mem_nil; (iterate 3 exact rfl))) | (apply Ok1.move; exact rfl) | (apply Ok1.assign; exact rfl) | (apply Ok1.not_f; exact rfl))) | apply R.nil | (apply T.is; first | apply T.seq | apply T.region | apply T.block | apply T.skip | apply T.ret | (apply T.cond_t; exact rfl)))
        all_goals (apply RetOk.tt; exact rfl; exact rfl)
        all_goals have he := pplE_bad h16 hr hc
        all_goals exact ⟨_, by (focus ((repeat' (exact Keep.nil _)); done)), .inl ⟨by rw [he]; decide, by rw [he], rfl⟩⟩
    · have him : i = cs.length := by omega
      subst him
      rw [List.take_length] at hov hck ⊢
      have hra := rightAll_iff.2 hck
      by_cases hnd : cs.Nodup
      · rw [decide_eq_false (p := ¬ cs.Nodup) (fun h => h hnd)] at htw
        repeat' (first | (apply R.is1; first | (apply R.isBin; (apply R.pure; exact rfl; (apply Ok1.lss_f; exact rfl; exact rfl; omega))) | (apply R.isCall; first | (apply R.callV (vs := [.slice p cs.length cap]); (iterate 3 exact rfl); intro w1 hw1; exact htw w1 hw1.chg) | (apply R.pure; exact rfl; (apply Ok1.lenS; (iterate 3 exact rfl)))) | (apply R.pure; exact rfl; first | (apply Ok1.move; exact rfl) | (apply Ok1.assign; exact rfl))) | apply R.nil | (apply T.is; first | apply T.seq | apply T.region | apply T.skip | apply T.exit | apply T.ret | (apply T.cond_f; exact rfl)))
        (apply RetOk.tt; exact rfl; exact rfl)
        have he : pplE cs = 0 := by unfold pplE; rw [if_neg (by omega), if_neg (by rw [hra]; decide), if_neg (fun h => h hnd)]
        exact ⟨_, by (focus ((repeat' (first | exact Ext.all _ | apply Keep.last)); done)), .inr ⟨he, ov, hov, rfl, rfl⟩⟩
      · rw [decide_eq_true (p := ¬ cs.Nodup) hnd] at htw
        repeat' (first | (apply R.is1; first | (apply R.isBin; (apply R.pure; exact rfl; (apply Ok1.lss_f; exact rfl; exact rfl; omega))) | (apply R.isCall; first | (apply R.callV (vs := [.slice p cs.length cap]); (iterate 3 exact rfl); intro w1 hw1; exact htw w1 hw1.chg) | (apply R.pure; exact rfl; (apply Ok1.lenS; (iterate 3 exact rfl)))) | (apply R.pure; exact rfl; first | (apply Ok1.move; exact rfl) | (apply Ok1.assign; exact rfl))) | apply R.nil | (apply T.is; first | apply T.seq | apply T.region | apply T.exit | apply T.ret | (apply T.cond_t; exact rfl) | (apply T.cond_f; exact rfl)))
        (apply RetOk.tt; exact rfl; exact rfl)
        have he : pplE cs = 8 := by unfold pplE; rw [if_neg (by omega), if_neg (by rw [hra]; decide), if_pos hnd]
        exact ⟨_, by (focus ((repeat' (exact Keep.nil _)); done)), .inl ⟨by rw [he]; decide, by rw [he], rfl⟩⟩
end Go.Proofs.YtplhnkmmhndkjaaGreat
set_option linter.unusedSimpArgs false
set_option linter.unusedVariables false
namespace Go.Proofs.YtplhnkmmhndkjaaGreat
open Go.RowKit Go.Shelf
set_option pp.deepTerms.threshold 8
set_option maxRecDepth 100000
theorem be_numI {z k : Nat} (hz : ZK z k) {v : Int} (h0 : 0 ≤ v) (h1 : k = 1 → v ≤ 255) (h2 : k = 2 → v ≤ 65535) (h4 : v ≤ 4294967295) : beN (numI z v) = v ∧ (numI z v).length = k := by
  rcases hz with ⟨rfl, rfl⟩ | ⟨rfl, rfl⟩ | ⟨rfl, rfl⟩
  · have := h1 rfl
    refine ⟨?_, rfl⟩
    simp only [numI, beN, List.foldl]
    omega
  · have := h2 rfl
    refine ⟨?_, rfl⟩
    simp only [numI, beN, List.foldl]
    omega
  · refine ⟨?_, rfl⟩
    simp only [numI, len4, beN, List.foldl]
    omega
theorem Rs.num_fwd {s : Rs} {z k : Nat} {v : Int} {rest : List Int} (hz : ZK z k) (h0 : 0 ≤ v) (h1 : k = 1 → v ≤ 255) (h2 : k = 2 → v ≤ 65535) (h4 : v ≤ 4294967295) (hs : s.xs = numI z v ++ rest) (he : s.e = 0) :
    (s.num k).1 = v ∧ (s.num k).2.2.xs = rest ∧ (s.num k).2.2.e = 0 := by
  obtain ⟨g1, g2⟩ := be_numI hz h0 h1 h2 h4
  have ht : s.xs.take k = numI z v := by rw [hs, ← g2, List.take_left]
  have hd : s.xs.drop k = rest := by rw [hs, ← g2, List.drop_left]
  have hl : k ≤ s.xs.length := by rw [hs, List.length_append, g2]; omega
  rw [Rs.num_many he hl (by rw [ht, g1]; omega), ht, g1]
  exact ⟨rfl, hd, he⟩
theorem Rs.c4_fwd {s : Rs} {c : Cl} {rest : List Int} (hr : c.right) (hs : s.xs = clI c ++ rest) (he : s.e = 0) : s.cv = c ∧ s.c4.xs = rest ∧ s.c4.e = 0 := by
  unfold Cl.right at hr
  simp only [clI, List.nil_append, List.append_assoc] at hs
  obtain ⟨a1, a2, a3⟩ := Rs.num_fwd (z := 1) (k := 2) (.inr (.inl ⟨rfl, rfl⟩)) (by omega) (by omega) (by omega) (by omega) hs he
  obtain ⟨b1, b2, b3⟩ := Rs.num_fwd (s := s.cA) (z := 0) (k := 1) (.inl ⟨rfl, rfl⟩) (by omega) (by omega) (by omega) (by omega) a2 a3
  obtain ⟨c1, c2, c3⟩ := Rs.num_fwd (s := s.cB) (z := 2) (k := 4) (.inr (.inr ⟨rfl, rfl⟩)) (by omega) (by omega) (by omega) (by omega) b2 b3
  obtain ⟨d1, d2, d3⟩ := Rs.num_fwd (s := s.cD) (z := 1) (k := 2) (.inr (.inl ⟨rfl, rfl⟩)) (by omega) (by omega) (by omega) (by omega) c2 c3
  refine ⟨?_, d2, d3⟩
  simp only [Rs.cv, a1, b1, c1, d1]
theorem rdC_fwd {s : Rs} {c : Cl} {rest : List Int} (hr : c.right) (hs : s.xs = clI c ++ rest) (he : s.e = 0) : rdC s = (c, 0) := by
  obtain ⟨h1, h2, h3⟩ := Rs.c4_fwd hr hs he
  unfold rdC
  rw [if_neg (fun h => h h3), h1, if_pos hr]
theorem rd1_fwd {s : Rs} {r : Rm} {rest : List Int} (hr : r.chk = 0) (hs : s.xs = rmI r ++ rest) (he : s.e = 0) : rd1 s = (r, 0) ∧ s.o3.xs = rest ∧ s.o3.e = 0 := by
  obtain ⟨hcr, hk0, hk3, hi0, hi1⟩ := chk_right hr
  have hs2 : s.xs = numI 0 r.kind ++ (clI r.cl ++ (numI 2 r.inc ++ rest)) := by
    rw [hs, num0 hk0 (by omega)]
    have hn : numI 2 r.inc = [r.inc / 16777216, r.inc / 65536 % 256, r.inc / 256 % 256, r.inc % 256] := by
      show len4 r.inc = _
      simp only [len4, List.cons.injEq, and_true]
      omega
    rw [hn]
    simp only [rmI, List.cons_append, List.nil_append, List.append_assoc]
  obtain ⟨a1, a2, a3⟩ := Rs.num_fwd (z := 0) (k := 1) (.inl ⟨rfl, rfl⟩) (by omega) (by omega) (by omega) (by omega) hs2 he
  obtain ⟨b1, b2, b3⟩ := Rs.c4_fwd (s := s.o1) hcr a2 a3
  have b4 := rdC_fwd (s := s.o1) hcr a2 a3
  obtain ⟨c1, c2, c3⟩ := Rs.num_fwd (s := s.o2) (z := 2) (k := 4) (.inr (.inr ⟨rfl, rfl⟩)) (by omega) (by omega) (by omega) (by omega) b2 b3
  have c4 : s.o3.e = 0 := c3
  have hv : s.rv = r := by simp only [Rs.rv, a1, b4, c1]
  refine ⟨?_, c2, c3⟩
  unfold rd1
  rw [if_neg (fun h => h c4), b4, if_neg (fun h => h rfl), hv, if_neg (fun h => h hr)]
theorem rdMl_fwd : ∀ (rs : List Rm) {s : Rs} {rest : List Int}, (∀ x ∈ rs, x.chk = 0) → s.xs = (rs.map rmI).flatten ++ rest → s.e = 0 → (rdMl rs.length s).1 = rs ∧ (rdMl rs.length s).2.1 = 0 ∧ (rdMl rs.length s).2.2.xs = rest ∧ (rdMl rs.length s).2.2.e = 0
  | [], s, rest, _, hs, he => ⟨rfl, rfl, by simpa [rdMl] using hs, he⟩
  | r :: rs, s, rest, hc, hs, he => by
    simp only [List.map_cons, List.flatten_cons, List.append_assoc] at hs
    obtain ⟨a1, a2, a3⟩ := rd1_fwd (hc r List.mem_cons_self) hs he
    obtain ⟨b1, b2, b3, b4⟩ := rdMl_fwd rs (s := s.o3) (fun x hx => hc x (List.mem_cons_of_mem _ hx)) a2 a3
    have h : rdMl (r :: rs).length s = (r :: (rdMl rs.length s.o3).1, (rdMl rs.length s.o3).2) := by simp [rdMl, a1, b2]
    rw [h]
    exact ⟨by simp [b1], b2, b3, b4⟩
theorem rdM_fwd {rs : List Rm} {s : Rs} {rest : List Int} (hl : rs.length ≤ 20) (hc : ∀ x ∈ rs, x.chk = 0) (hs : s.xs = rmsI rs.length rs ++ rest) (he : s.e = 0) : (rdM s).1 = rs ∧ (rdM s).2.1 = 0 ∧ (rdM s).2.2.xs = rest ∧ (rdM s).2.2.e = 0 := by
  have hs2 : s.xs = numI 0 (rs.length : Int) ++ ((rs.map rmI).flatten ++ rest) := by
    rw [hs, num0 (by omega) (by omega)]
    simp only [rmsI, List.cons_append, List.nil_append]
  obtain ⟨a1, a2, a3⟩ := Rs.num_fwd (z := 0) (k := 1) (.inl ⟨rfl, rfl⟩) (by omega) (by omega) (by omega) (by omega) hs2 he
  obtain ⟨b1, b2, b3, b4⟩ := rdMl_fwd rs (s := s.o1) hc a2 a3
  unfold rdM
  rw [a1, if_neg (by omega)]
  simp only [Int.toNat_natCast]
  rw [if_neg (fun h => h b2)]
  exact ⟨b1, b4, b3, b4⟩
theorem rdCl_fwd : ∀ (cs : List Cl) {s : Rs} {rest : List Int}, (∀ x ∈ cs, x.right) → s.xs = (cs.map clI).flatten ++ rest → s.e = 0 → (rdCl cs.length s).1 = cs ∧ (rdCl cs.length s).2.1 = 0 ∧ (rdCl cs.length s).2.2.xs = rest ∧ (rdCl cs.length s).2.2.e = 0
  | [], s, rest, _, hs, he => ⟨rfl, rfl, by simpa [rdCl] using hs, he⟩
  | r :: cs, s, rest, hc, hs, he => by
    simp only [List.map_cons, List.flatten_cons, List.append_assoc] at hs
    have a1 := rdC_fwd (hc r List.mem_cons_self) hs he
    obtain ⟨_, a2, a3⟩ := Rs.c4_fwd (hc r List.mem_cons_self) hs he
    obtain ⟨b1, b2, b3, b4⟩ := rdCl_fwd cs (s := s.c4) (fun x hx => hc x (List.mem_cons_of_mem _ hx)) a2 a3
    have h : rdCl (r :: cs).length s = (r :: (rdCl cs.length s.c4).1, (rdCl cs.length s.c4).2) := by simp [rdCl, a1, b2]
    rw [h]
    exact ⟨by simp [b1], b2, b3, b4⟩
theorem pplE_zero {cs : List Cl} (h : pplE cs = 0) : cs.length ≤ 16 ∧ (∀ x ∈ cs, x.right) ∧ cs.Nodup := by
  unfold pplE at h
  split at h
  · exact absurd h (by decide)
  · rename_i h1
    split at h
    · exact absurd h (by decide)
    · rename_i h2
      split at h
      · exact absurd h (by decide)
      · rename_i h3
        refine ⟨by omega, ?_, Classical.not_not.1 h3⟩
        cases hr : rightAll cs with
        | false => exact absurd hr h2
        | true => exact rightAll_iff.1 hr
theorem rdJ_fwd {cs : List Cl} {s : Rs} (h : pplE cs = 0) (hs : s.xs = pplI cs) (he : s.e = 0) : rdJ s = (cs, 0) := by
  obtain ⟨hl, hc, hnd⟩ := pplE_zero h
  have hs2 : s.xs = numI 0 (cs.length : Int) ++ ((cs.map clI).flatten ++ []) := by
    rw [hs, num0 (by omega) (by omega)]
    simp only [pplI, pplsI, List.cons_append, List.nil_append, List.append_nil]
  obtain ⟨a1, a2, a3⟩ := Rs.num_fwd (z := 0) (k := 1) (.inl ⟨rfl, rfl⟩) (by omega) (by omega) (by omega) (by omega) hs2 he
  obtain ⟨b1, b2, b3, b4⟩ := rdCl_fwd cs (s := s.o1) hc a2 a3
  have hR : rdR s = rdCl cs.length s.o1 := by unfold rdR; rw [a1]; rfl
  unfold rdJ
  rw [hR, if_neg (fun h => h b2)]
  have hf : (rdCl cs.length s.o1).2.2.fin = 0 := by
    unfold Rs.fin
    rw [if_neg (fun h => h b4), b3]
    rfl
  rw [if_neg (fun h => h hf), b1, if_neg (fun h => h.elim (fun h => h hnd) (fun h => by omega))]
theorem Rs.nx_fwd {s : Rs} {z k : Nat} (hz : ZK z k) {vs rest : List Int} (hv : ∀ x ∈ vs, 0 ≤ x ∧ (k = 1 → x ≤ 255) ∧ (k = 2 → x ≤ 65535) ∧ x ≤ 4294967295) (hs : s.xs = numsI z vs ++ rest) (he : s.e = 0) :
    ∀ n, n ≤ vs.length → (s.nx k n).xs = numsI z (vs.drop n) ++ rest ∧ (s.nx k n).e = 0 ∧ s.nv k n = vs.take n
  | 0, _ => ⟨by simpa [Rs.nx] using hs, he, by simp [Rs.nv]⟩
  | n + 1, hn => by
    obtain ⟨h1, h2, h3⟩ := Rs.nx_fwd hz hv hs he n (by omega)
    obtain ⟨x, hx⟩ : ∃ x, vs[n]? = some x := ⟨_, List.getElem?_eq_getElem (by omega)⟩
    have hd : vs.drop n = x :: vs.drop (n + 1) := by
      obtain ⟨hlt, hxe⟩ := List.getElem?_eq_some_iff.1 hx
      rw [← hxe]
      exact List.drop_eq_getElem_cons hlt
    have hxr := hv x (List.mem_of_getElem? hx)
    rw [hd] at h1
    have h4 : (s.nx k n).xs = numI z x ++ (numsI z (vs.drop (n + 1)) ++ rest) := by
      rw [h1]
      simp only [numsI, List.flatMap_cons, List.append_assoc]
    obtain ⟨a1, a2, a3⟩ := Rs.num_fwd hz hxr.1 hxr.2.1 hxr.2.2.1 hxr.2.2.2 h4 h2
    refine ⟨a2, a3, ?_⟩
    rw [Rs.nv_snoc, h3, a1, List.take_add_one, hx]
    rfl
theorem rdD_fwd {s : Rs} {vs p8 rest : List Int} (hv : vs.length = 4) (hp : p8.length = 8) (hV : VR vs) (hb : Byt p8) (hs : s.xs = encG vs p8 ++ rest) (he : s.e = 0) : rdD s = (vs, p8, 0) ∧ s.rdF.xs = rest ∧ s.rdF.e = 0 := by
  have hs2 : s.xs = numsI 1 vs ++ (p8 ++ rest) := by rw [hs, encG, List.append_assoc]
  obtain ⟨a1, a2, a3⟩ := Rs.nx_fwd (z := 1) (k := 2) (.inr (.inl ⟨rfl, rfl⟩)) (vs := vs) (fun x hx => by have := hV x hx; exact ⟨this.1, by omega, by omega, by omega⟩) hs2 he vs.length (Nat.le_refl _)
  rw [List.drop_length] at a1
  rw [List.take_length] at a3
  rw [hv] at a1 a2 a3
  have a4 : (s.nx 2 4).xs = numsI 0 p8 ++ rest := by rw [a1, nums0 hb]; rfl
  obtain ⟨b1, b2, b3⟩ := Rs.nx_fwd (z := 0) (k := 1) (.inl ⟨rfl, rfl⟩) (vs := p8) (fun x hx => by have := hb x hx; exact ⟨this.1, by omega, by omega, by omega⟩) a4 a2 p8.length (Nat.le_refl _)
  rw [List.drop_length] at b1
  rw [List.take_length] at b3
  rw [hp] at b1 b2 b3
  have b4 : s.rdF.e = 0 := b2
  refine ⟨?_, b1, b2⟩
  unfold rdD
  rw [if_neg (fun h => h b4), a3, if_pos hV, b3]
theorem rmE_zero : ∀ {rs : List Rm}, rmE rs = 0 → ∀ x ∈ rs, x.chk = 0
  | [], _, x, hx => absurd hx List.not_mem_nil
  | a :: l, h, x, hx => by
    simp only [rmE] at h
    by_cases ha : a.chk = 0
    · rw [if_neg (fun h => h ha)] at h
      rcases List.mem_cons.1 hx with rfl | hx
      · exact ha
      · exact rmE_zero h x hx
    · rw [if_pos ha] at h; exact absurd h ha
theorem gE_zero {vs : List Int} {rs : List Rm} {cs : List Cl} (h : gE vs rs cs = 0) : VR vs ∧ rs.length ≤ 20 ∧ rmE rs = 0 ∧ pplE cs = 0 ∧ 18 + 14 * rs.length + 9 * cs.length ≤ 505 := by
  unfold gE at h
  by_cases h1 : VR vs
  · rw [if_neg (fun h => h h1)] at h
    by_cases h2 : 20 < rs.length
    · rw [if_pos h2] at h; exact absurd h (by decide)
    · rw [if_neg h2] at h
      by_cases h3 : rmE rs = 0
      · rw [if_neg (fun h => h h3)] at h
        by_cases h4 : pplE cs = 0
        · rw [if_neg (fun h => h h4)] at h
          by_cases h5 : 505 < 18 + 14 * rs.length + 9 * cs.length
          · rw [if_pos h5] at h; exact absurd h (by decide)
          · exact ⟨h1, by omega, h3, h4, by omega⟩
        · rw [if_pos h4] at h; exact absurd h h4
      · rw [if_pos h3] at h; exact absurd h h3
  · rw [if_pos h1] at h; exact absurd h (by decide)
theorem pG_fwd {vs p8 : List Int} {rs : List Rm} {cs : List Cl} (hv : vs.length = 4) (hp : p8.length = 8) (hb : Byt p8) (h : gE vs rs cs = 0) : pG (gI vs p8 rs cs) = ⟨vs, p8, rs, cs, 0⟩ := by
  obtain ⟨hV, hl, hrm, hpe, h5⟩ := gE_zero h
  have hgl := gI_len hv hp rs cs
  have hx : (R0 (gI vs p8 rs cs)).xs = encG vs p8 ++ (rmsI rs.length rs ++ pplI cs) := by show gI vs p8 rs cs = _; rw [gI, List.append_assoc]
  obtain ⟨a1, a2, a3⟩ := rdD_fwd hv hp hV hb hx rfl
  obtain ⟨b1, b2, b3, b4⟩ := rdM_fwd (s := (R0 (gI vs p8 rs cs)).rdF) hl (rmE_zero hrm) a2 a3
  have b1' : (pM (gI vs p8 rs cs)).1 = rs := b1
  have b2' : (pM (gI vs p8 rs cs)).2.1 = 0 := b2
  have b3' : (pM (gI vs p8 rs cs)).2.2.xs = pplI cs := b3
  have hpy : pY (gI vs p8 rs cs) = pplI cs := by
    unfold pY
    rw [b3']
    exact drop_suffix (a := encG vs p8 ++ rmsI rs.length rs) rfl
  have hJ : rdJ (R0 (pY (gI vs p8 rs cs))) = (cs, 0) := rdJ_fwd hpe hpy rfl
  unfold pG
  rw [a1, if_neg (fun h => h rfl), if_neg (fun h => h b2'), hJ, if_neg (fun h => h rfl), if_neg (by omega), b1']
end Go.Proofs.YtplhnkmmhndkjaaGreat
set_option linter.unusedSimpArgs false
set_option linter.unusedVariables false
namespace Go.Proofs.YtplhnkmmhndkjaaGreat
open Go.RowKit Go.Shelf
section
variable {X : Cx} {σ : Env} {L L' : Lst} {dd : Nat} {ty : TypeId} {pos : String} {af : Array Edge} {x y : Operand} {t t2 e : TypeId} {r r2 re : TRow}
variable {all : Array Oper} {rest : List Oper} {K : Env → Lst → Prop} {p : Option Addr} {n m cap b o : Nat}
theorem copy_runO {α : Type} {v : α → List Value} {xs : List α} {P : Program} (tb : Tb P) (ht : tb.row t = some r) (hk : r.k = .slice e) (he : tb.row e = some re) (hs : re.size = 1) (hv : ∀ a, (v a).length = 1) {w : World} {dn dcap : Nat} {cs cs' : List Value} {te : TypeId}
    (hp : RdSl w p v xs) (h1 : (fl v xs).all Value.oneCell' = true) (hb : w.heap[b]? = some (.cells ⟨cs⟩ te (0, 0))) (hc : setE cs o (fl v (xs.take dn)) = some cs') :
    ∃ w', (Builtin.copy_ #[t, t2] ty #[.slice (some ⟨b, o, none⟩) dn dcap, .slice p xs.length cap]).run P w = .ok (.int .i64 (min xs.length dn : Nat)) w' ∧ w'.heap[b]? = some (.cells ⟨cs'⟩ te (0, 0)) ∧ Chg [b] w w' := by
  have hu : P.underlying t = some (.slice e) := by have := (tb.get ht).is; rw [hk] at this; exact this
  have hone : (fl v (xs.take dn)).all Value.oneCell' = true := by
    rw [List.all_eq_true] at h1 ⊢
    intro z hz
    rw [← fl_takeG hv] at hz
    exact h1 z (List.mem_of_mem_take hz)
  obtain ⟨w', g1, g2, g3⟩ := run_stores P ⟨b, o, none⟩ rfl te (fl v (xs.take dn)) 0 w cs cs' hone hb hc
  have hf : (Builtin.firstCells 1 (min xs.length dn) (.slice p xs.length cap)).run P w = .ok ⟨fl v (xs.take dn)⟩ w := by
    by_cases hx : xs.take dn = []
    · have h9 : (xs.take dn).length = 0 := by rw [hx]; rfl
      have h0 : min xs.length dn = 0 := by
        rw [List.length_take] at h9
        omega
      rw [hx, h0]
      cases p <;> simp [Builtin.firstCells, loadCells, loadCellsFrom, fl]
    · refine first_run ((hp.pre hv dn).holds hx) ?_
      rw [fl_len hv, List.length_take, Nat.min_comm]
  refine ⟨w', ?_, g2, g3⟩
  unfold Builtin.copy_
  simp only [List.getElem?_toArray, List.getElem?_cons_zero, List.getElem?_cons_succ, Sem.run_bind, run_underlying hu, Result.andThen_ok, (tb.get he).size, hs, Sem.run_pure, Builtin.lenOf, show Nat.min xs.length dn = min xs.length dn from rfl, hf, g1, goInt]
theorem R.copyOff {α : Type} {v : α → List Value} {xs : List α} {dn dcap : Nat} {cs cs' : List Value} {te : TypeId} {k : Nat} (hn : Nat.blt dd X.n = true) (ht : X.tb.row t = some r) (hk : r.k = .slice e) (he : X.tb.row e = some re) (hs : re.size = 1)
    (hx : ev σ x = some (.slice (some ⟨b, o, none⟩) dn dcap)) (hy : ev σ y = some (.slice p m cap)) (hm : m = xs.length) (hv : ∀ a, (v a).length = 1) (hh : ∀ w, Hp X.w0 X.S L w → RdSl w p v xs) (h1 : (fl v xs).all Value.oneCell' = true)
    (hu : Upd L b (.cells ⟨cs⟩ te (0, 0)) (.cells ⟨cs'⟩ te (0, 0)) L') (hc : setE cs o (fl v (xs.take dn)) = some cs') (hmin : min m dn = k) (h : R X all rest K ((dd, .int .i64 (k : Nat)) :: σ) L') :
    R X all (⟨some dd, .call { callee := .builtin .copy, args := #[x, y], argTypes := #[t, t2] }, ty, pos, af, none⟩ :: rest) K σ L :=
  R.value rfl rfl hn fun a w ha hw => by
    subst hm
    subst hmin
    obtain ⟨w', g1, g2, g3⟩ := copy_runO (ty := ty) (t2 := t2) (dcap := dcap) (cap := cap) X.tb ht hk he hs hv (hh w hw) h1 (hw.get _ _ hu.mem) hc
    refine ⟨_, w', L', ?_, hw.upd hu g3 g2, h⟩
    simp [execOp, resolve, ha.ev hx, ha.ev hy, invoke, builtin, g1]
/-- All of what is read is copied. -/
theorem R.copyAll {α : Type} {v : α → List Value} {xs : List α} {dn dcap o' : Nat} {cs cs' : List Value} {te : TypeId} (hn : Nat.blt dd X.n = true) (ht : X.tb.row t = some r) (hk : r.k = .slice e) (he : X.tb.row e = some re) (hs : re.size = 1)
    (hx : ev σ x = some (.slice (some ⟨b, o, none⟩) dn dcap)) (hy : ev σ y = some (.slice p m cap)) (hm : m = xs.length) (hv : ∀ a, (v a).length = 1) (hh : ∀ w, Hp X.w0 X.S L w → RdSl w p v xs) (h1 : (fl v xs).all Value.oneCell' = true)
    (hdn : xs.length ≤ dn) (ho : o = o') (hu : Upd L b (.cells ⟨cs⟩ te (0, 0)) (.cells ⟨cs'⟩ te (0, 0)) L') (hc : setE cs o' (fl v xs) = some cs') (h : R X all rest K ((dd, .int .i64 (m : Nat)) :: σ) L') :
    R X all (⟨some dd, .call { callee := .builtin .copy, args := #[x, y], argTypes := #[t, t2] }, ty, pos, af, none⟩ :: rest) K σ L :=
  R.copyOff hn ht hk he hs hx hy hm hv hh h1 hu (by rw [List.take_of_length_le hdn, ho]; exact hc) (Nat.min_eq_left (by omega)) h
theorem setE_off (pre vs cs : List Value) (h : vs.length ≤ cs.length) : setE (pre ++ cs) pre.length vs = some (pre ++ (vs ++ cs.drop vs.length)) := by
  rw [setE_mid _ h, List.append_assoc]
/-- What bytealg.MakeNoZero does: a new row of some bytes. -/
def NoZero (P : Program) (f : FuncId) (e : TypeId) : Prop := ∀ (n : Nat) (w : World), n ≤ 1000000000 → ∃ cs : List Value, (callFunc f #[.int .i64 n]).run P w = .ok (.value (.slice (some ⟨w.heap.size, 0, none⟩) n cs.length)) (w.drew.drew.alloc (.cells ⟨cs⟩ e)) ∧ n ≤ cs.length
theorem NoZero.of {P : Program} {f : FuncId} {fn : Func} {ps : Array TypeId} {t e : TypeId} (hf : P.funcs[f]? = some fn) (hname : (fn.name == "runtime.NumGoroutine") = false) (hb : fn.body.isNone = true) (hn : Extern.findNext fn = none) (he : Extern.find fn = some (Extern.BytealgMakeNoZero.makeNoZero ps #[t])) (ht : P.underlying t = some (.slice e)) : NoZero P f e := by
  intro n w hn9
  obtain ⟨cs, h1, h2, _⟩ := Lib.run_makeNoZero (P := P) w ps t e ht n (by omega)
  refine ⟨cs.toList, ?_, by simpa using h2⟩
  rw [run_callFunc_extern hf hname hb hn he, h1]
  simp
theorem R.noZero {f : FuncId} {xs : List Operand} {ats : Array TypeId} (hz : NoZero X.P f e) (hx : evs σ xs = some [.int .i64 (n : Nat)]) (hl : n ≤ 1000000000) (hn : Nat.blt dd X.n = true)
    (h : ∀ b cs, n ≤ cs.length → R X all rest K ((dd, .slice (some ⟨b, 0, none⟩) n cs.length) :: σ) ((b, .cells ⟨cs⟩ e (0, 0)) :: L)) :
    R X all (⟨some dd, .call { callee := .value (.func f), args := xs.toArray, argTypes := ats }, ty, pos, af, none⟩ :: rest) K σ L :=
  R.value rfl rfl hn fun a w ha hw => by
    obtain ⟨cs, h1, h2⟩ := hz n w hl
    have hw2 : Hp X.w0 X.S L w.drew.drew := (hw.step (Chg.drew [] w)).step (Chg.drew [] w.drew)
    have hs : w.drew.drew.heap.size = w.heap.size := rfl
    refine ⟨_, _, _, ?_, hw2.alloc (.cells ⟨cs⟩ e (0, 0)), h _ cs h2⟩
    have hargs : xs.map a.eval = [.int .i64 (n : Nat)] := evs_map ha hx
    simp only [execOp, resolve, Act.eval, List.map_toArray, hargs, Deferred.ofValue, Sem.run_bind, Sem.run_pure, Result.andThen_ok, invoke, hs]
    simpa using h1
end
end Go.Proofs.YtplhnkmmhndkjaaGreat
set_option linter.unusedSimpArgs false
set_option linter.unusedVariables false
namespace Go.Proofs.YtplhnkmmhndkjaaGreat
open Go.RowKit Go.Shelf
set_option pp.deepTerms.threshold 8
set_option maxRecDepth 100000
theorem setE_nilO (cs : List Value) (o : Nat) : setE cs o [] = some cs := by simp [setE]
end Go.Proofs.YtplhnkmmhndkjaaGreat
set_option linter.unusedSimpArgs false
set_option linter.unusedVariables false
namespace Go.Proofs.YtplhnkmmhndkjaaGreat
open Go.RowKit Go.Shelf
set_option pp.deepTerms.threshold 8
set_option maxRecDepth 100000
theorem rvr4_ok (xv : List Int) (h : xv.length = 4) : CallP Tryz.prog 45 [.agg ⟨iis xv⟩] (.bool (decide (VR xv))) := by
  match xv, h with
  | [a, b, c, d], _ => exact rvright_ok a b c d
theorem dgV_V {xv xp : List Int} (hv : xv.length = 4) (hp : xp.length = 8) (R P : Value) : subE (goC (dgV xv xp) R P) 0 4 = some (iis xv) := by
  obtain ⟨a, b, c, d, e, f, g, h, i, j, k, l, rfl, rfl⟩ := dgx hv hp
  rfl
theorem gref_ok (xv xp : List Int) (hxv : xv.length = 4) (hxp : xp.length = 8) (pR pP : Option Addr) (cR cP : Nat) (rs : List Rm) (cs : List Cl) (hcl : cs.length ≤ 1000) (w : World) (hR : RdSl w pR Rm.v rs) (hP : RdSl w pP Cl.v cs) :
    CallM Tryz.prog 8 [.agg ⟨goC (dgV xv xp) (.slice pR rs.length cR) (.slice pP cs.length cP)⟩] [] w fun v L => (gE xv rs cs ≠ 0 ∧ v = .tuple #[.slice none 0 0, .int .i64 (gE xv rs cs)] ∧ L = []) ∨ gE xv rs cs = 0 ∧ ∃ ov, OvOk 1 ov (gI xv xp rs cs).length (u8s (gI xv xp rs cs)) ∧ v = .tuple #[slV ov (gI xv xp rs cs).length, .int .i64 0] ∧ L = blkL 5 ov (u8s (gI xv xp rs cs)) := by
  have hD := dg_len hxv hxp
  have hby := fun hV w1 => rbytes9_ok xv xp hxv hxp hV w1
  have hel := encG_len hxv hxp
  rw [hel] at hby
  have hvr := rvr4_ok xv hxv
  have hV4 := fun R P => dgV_V hxv hxp R P
  generalize dgV xv xp = D at *
  refine enterK (tb := tb) Tryz.func8 rfl Tryz.ntmps8 rfl ?_
  by_cases hV : VR xv
  case neg =>
    have hg : gE xv rs cs = 10 := by unfold gE; rw [if_pos hV]
    rw [hg]
    rw [decide_eq_false hV] at hvr
    repeat' (first | (apply R.is1; first | (apply R.isCall; apply R.callP rfl rfl rfl hvr) | (apply R.pure; exact rfl; first | (apply Ok1.load; exact rfl; (apply Ld.ownk; exact rfl; exact rfl; exact At.head; exact hV4 _ _)) | (apply Ok1.fieldAddr; (iterate 5 exact rfl)) | (apply Ok1.assign; exact rfl) | (apply Ok1.not_f; exact rfl)) | (apply R.box; (iterate 3 exact rfl); intro)) | apply R.nil | (apply T.is; first | apply T.seq | apply T.region | apply T.ret | (apply T.cond_t; exact rfl)))
    (apply RetOk.tt; exact rfl; exact rfl)
    exact ⟨_, by (focus ((repeat' (exact Keep.nil _)); done)), .inl ⟨by decide, rfl, rfl⟩⟩
  rw [decide_eq_true hV] at hvr
  replace hby := hby hV
  rcases Nat.lt_or_ge 20 rs.length with h20 | h20
  · have hg : gE xv rs cs = 2 := by unfold gE; rw [if_neg (fun h => h hV), if_pos h20]
    rw [hg]
    have hml := mref_long pR rs.length cR h20
    generalize encG xv xp = E at *
    repeat' (first | (apply R.is1; first | (apply R.isBin; (apply R.pure; exact rfl; (apply Ok1.neq_t; exact rfl; exact rfl; omega))) | (apply R.isCall; first | apply R.callP rfl rfl rfl hvr | (apply R.callE (vs := [.agg ⟨D⟩]); (iterate 3 exact rfl); exact Ext.none _; intro w1 hw1; exact hby w1; rintro v Lo ⟨ov1, hov1, rfl, rfl⟩) | apply R.callP rfl rfl rfl hml) | (apply R.pure; exact rfl; first | (apply Ok1.load; exact rfl; first | (apply Ld.ownk; exact rfl; exact rfl; exact At.head; exact hV4 _ _) | (apply Ld.ownk; exact rfl; exact rfl; exact At.head; exact goC_D hD _ _) | (apply Ld.own1; exact rfl; exact rfl; (focus ((repeat' (first | exact At.head | apply At.right)); done)); exact goC_R hD _ _)) | (apply Ok1.move; exact rfl) | (apply Ok1.fieldAddr; (iterate 5 exact rfl)) | (apply Ok1.assign; exact rfl) | (apply Ok1.extract; exact rfl; exact rfl) | (apply Ok1.not_t; exact rfl)) | (apply R.box; (iterate 3 exact rfl); intro)) | apply R.nil | (apply T.is; first | apply T.seq | apply T.region | apply T.skip | apply T.ret | (apply T.cond_t; exact rfl) | (apply T.cond_f; exact rfl)))
    (apply RetOk.tt; exact rfl; exact rfl)
    exact ⟨_, by (focus ((repeat' (exact Keep.nil _)); done)), .inl ⟨by decide, rfl, rfl⟩⟩
  have hmb := fun w1 (hc : Chg [] w w1) => mref_ok pR cR rs w1 (hR.chg' hc (fun _ => Off.nil _)) h20
  by_cases hrm : rmE rs = 0
  case neg =>
    have hg : gE xv rs cs = rmE rs := by unfold gE; rw [if_neg (fun h => h hV), if_neg (by omega), if_pos hrm]
    rw [hg]
    generalize encG xv xp = E at *
    repeat' (first | (apply R.is1; first | (apply R.isBin; (apply R.pure; exact rfl; (apply Ok1.neq_t; exact rfl; exact rfl; omega))) | (apply R.isCall; first | apply R.callP rfl rfl rfl hvr | (apply R.callE (vs := [.agg ⟨D⟩]); (iterate 3 exact rfl); exact Ext.none _; intro w1 hw1; exact hby w1; rintro v Lo ⟨ov1, hov1, rfl, rfl⟩) | (apply R.callE (vs := [.slice pR rs.length cR]); (iterate 3 exact rfl); exact Ext.none _; intro w1 hw1; exact hmb w1 hw1.chg; rintro v Lo (⟨_, rfl, rfl⟩ | ⟨h0, _⟩); rotate_left 1; exact absurd h0 hrm)) | (apply R.pure; exact rfl; first | (apply Ok1.load; exact rfl; first | (apply Ld.ownk; exact rfl; exact rfl; exact At.head; exact hV4 _ _) | (apply Ld.ownk; exact rfl; exact rfl; exact At.head; exact goC_D hD _ _) | (apply Ld.own1; exact rfl; exact rfl; (focus ((repeat' (first | exact At.head | apply At.right)); done)); exact goC_R hD _ _)) | (apply Ok1.move; exact rfl) | (apply Ok1.fieldAddr; (iterate 5 exact rfl)) | (apply Ok1.assign; exact rfl) | (apply Ok1.extract; exact rfl; exact rfl) | (apply Ok1.not_t; exact rfl)) | (apply R.box; (iterate 3 exact rfl); intro)) | apply R.nil | (apply T.is; first | apply T.seq | apply T.region | apply T.skip | apply T.ret | (apply T.cond_t; exact rfl) | (apply T.cond_f; exact rfl)))
    (apply RetOk.tt; exact rfl; exact rfl)
    exact ⟨_, by (focus ((repeat' (exact Keep.nil _)); done)), .inl ⟨hrm, rfl, rfl⟩⟩
  have hpp := fun w1 (hc : Chg [] w w1) => vpeople_ok pP cP cs w1 (hP.chg' hc (fun _ => Off.nil _)) hcl
  by_cases hpe : pplE cs = 0
  case neg =>
    have hg : gE xv rs cs = pplE cs := by unfold gE; rw [if_neg (fun h => h hV), if_neg (by omega), if_neg (fun h => h hrm), if_pos hpe]
    rw [hg]
    generalize encG xv xp = E at *
    repeat' (first | (apply R.is1; first | (apply R.isBin; (apply R.pure; exact rfl; first | (apply Ok1.neq_t; exact rfl; exact rfl; omega) | (apply Ok1.neq_f; exact rfl; exact rfl; omega))) | (apply R.isCall; first | apply R.callP rfl rfl rfl hvr | (apply R.callE (vs := [.agg ⟨D⟩]); (iterate 3 exact rfl); exact Ext.none _; intro w1 hw1; exact hby w1; rintro v Lo ⟨ov1, hov1, rfl, rfl⟩) | (apply R.callE (vs := [.slice pR rs.length cR]); (iterate 3 exact rfl); exact Ext.none _; intro w1 hw1; exact hmb w1 hw1.chg; rintro v Lo (⟨h0, _⟩ | ⟨_, ov2, hov2, rfl, rfl⟩); exact absurd hrm h0) | (apply R.callE (vs := [.slice pP cs.length cP]); (iterate 3 exact rfl); exact Ext.none _; intro w1 hw1; exact hpp w1 hw1.chg; rintro v Lo (⟨_, rfl, rfl⟩ | ⟨h0, _⟩); rotate_left 1; exact absurd h0 hpe)) | (apply R.pure; exact rfl; first | (apply Ok1.load; exact rfl; first | (apply Ld.ownk; exact rfl; exact rfl; exact At.head; exact hV4 _ _) | (apply Ld.ownk; exact rfl; exact rfl; exact At.head; exact goC_D hD _ _) | (apply Ld.own1; exact rfl; exact rfl; (focus ((repeat' (first | exact At.head | apply At.right)); done)); exact goC_R hD _ _) | (apply Ld.own1; exact rfl; exact rfl; (focus ((repeat' (first | exact At.head | apply At.right)); done)); exact goC_P hD _ _)) | (apply Ok1.move; exact rfl) | (apply Ok1.fieldAddr; (iterate 5 exact rfl)) | (apply Ok1.assign; exact rfl) | (apply Ok1.extract; exact rfl; exact rfl) | (apply Ok1.not_t; exact rfl)) | (apply R.box; (iterate 3 exact rfl); intro)) | apply R.nil | (apply T.is; first | apply T.seq | apply T.region | apply T.skip | apply T.ret | (apply T.cond_t; exact rfl) | (apply T.cond_f; exact rfl)))
    (apply RetOk.tt; exact rfl; exact rfl)
    exact ⟨_, by (focus ((repeat' (exact Keep.nil _)); done)), .inl ⟨hpe, rfl, rfl⟩⟩
  have hgi := gI_len hxv hxp rs cs
  have hrl := rmsI_len rs.length rs
  have hpl := pplI_len cs
  have hgE : gE xv rs cs = if 505 < 18 + 14 * rs.length + 9 * cs.length then 2 else 0 := by unfold gE; rw [if_neg (fun h => h hV), if_neg (by omega), if_neg (fun h => h hrm), if_neg (fun h => h hpe)]
  have hgd : gI xv xp rs cs = encG xv xp ++ rmsI rs.length rs ++ pplI cs := rfl
  have h16 := pplE_zero hpe
  generalize gI xv xp rs cs = G at *
  generalize encG xv xp = E at *
  generalize hRI : rmsI rs.length rs = RI at *
  generalize hPI : pplI cs = PI at *
  have hGu : u8s G = u8s E ++ u8s RI ++ u8s PI := by rw [hgd, u8s_app, u8s_app]
  repeat' (first | (apply R.is1; first | (apply R.buildSlice0; (iterate 4 exact rfl); intro b0) | (apply R.isBin; (apply R.pure; exact rfl; first | (apply Ok1.gtr_f; exact rfl; exact rfl; omega) | (apply Ok1.neq_f; exact rfl; exact rfl; omega))) | (apply R.isCall; first | apply R.callP rfl rfl rfl hvr | (apply R.callE (vs := [.agg ⟨D⟩]); (iterate 3 exact rfl); exact Ext.none _; intro w1 hw1; exact hby w1; rintro v Lo ⟨ov1, hov1, rfl, rfl⟩) | (apply R.callE (vs := [.slice pR rs.length cR]); (iterate 3 exact rfl); exact Ext.none _; intro w1 hw1; exact hmb w1 hw1.chg; rintro v Lo (⟨h0, _⟩ | ⟨_, ov2, hov2, rfl, rfl⟩); exact absurd hrm h0) | (apply R.callE (vs := [.slice pP cs.length cP]); (iterate 3 exact rfl); exact Ext.none _; intro w1 hw1; exact hpp w1 hw1.chg; rintro v Lo (⟨h0, _⟩ | ⟨_, ov3, hov3, rfl, rfl⟩); exact absurd hpe h0) | (apply R.appendSl (ov := some (b0, 0, [])) (n := 0) (old := []) (ov2 := ov1) (m := 16) (news := u8s E) (e3 := 5); (iterate 12 exact rfl); exact ⟨rfl, rfl⟩; exact hov1; (focus ((repeat' (exact Ext.one _ _)); done)); exact Ext.mem (by (focus ((repeat' (first | exact Ext.here _ _ | apply Ext.cons | apply Ext.app)); done))); exact u8s_one _; omega; intro ov4 hov4) | (apply R.appendSl (ov := ov4) (n := 0 + 16) (old := [] ++ u8s E) (ov2 := ov2) (m := 1 + 14 * rs.length) (news := u8s RI) (e3 := 5); (iterate 12 exact rfl); exact hov4; exact hov2; (focus ((repeat' (exact Ext.here _ _)); done)); exact Ext.mem (by (focus ((repeat' (first | exact Ext.here _ _ | apply Ext.app)); done))); exact u8s_one _; omega; intro ov5 hov5) | (apply R.appendSl (ov := ov5) (n := 0 + 16 + (1 + 14 * rs.length)) (old := [] ++ u8s E ++ u8s RI) (ov2 := ov3) (m := 1 + 9 * cs.length) (news := u8s PI) (e3 := 5); (iterate 12 exact rfl); exact hov5; exact hov3; (focus ((repeat' (exact Ext.here _ _)); done)); exact Ext.mem (by (focus ((repeat' (first | exact Ext.here _ _ | apply Ext.app)); done))); exact u8s_one _; omega; intro ov6 hov6) | (apply R.pure; exact rfl; apply Ok1.lenOv; (iterate 3 exact rfl); exact hov6)) | (apply R.pure; exact rfl; first | (apply Ok1.load; exact rfl; first | (apply Ld.ownk; exact rfl; exact rfl; exact At.head; exact hV4 _ _) | (apply Ld.ownk; exact rfl; exact rfl; exact At.head; exact goC_D hD _ _) | (apply Ld.own1; exact rfl; exact rfl; (focus ((repeat' (first | exact At.head | apply At.right)); done)); exact goC_R hD _ _) | (apply Ld.own1; exact rfl; exact rfl; (focus ((repeat' (first | exact At.head | apply At.right)); done)); exact goC_P hD _ _)) | (apply Ok1.move; exact rfl) | (apply Ok1.fieldAddr; (iterate 5 exact rfl)) | (apply Ok1.assign; exact rfl) | (apply Ok1.extract; exact rfl; exact rfl) | (apply Ok1.not_t; exact rfl)) | (apply R.box; (iterate 3 exact rfl); intro)) | apply R.nil | (apply T.is; first | apply T.seq | apply T.region | apply T.skip | apply T.ret | (apply T.cond_f; exact rfl)))
  have hn : 0 + 16 + (1 + 14 * rs.length) + (1 + 9 * cs.length) = G.length := by omega
  rw [List.nil_append, ← hGu, hn] at hov6
  rw [List.nil_append, ← hGu, hn]
  (apply RetOk.tt; exact rfl; exact rfl)
  exact ⟨_, by (focus ((repeat' (first | exact Ext.here _ _ | apply Keep.last)); done)), .inr ⟨by rw [hgE, if_neg (by omega)], ov6, hov6, rfl, rfl⟩⟩
theorem scheck_ok (xv xp : List Int) (hxv : xv.length = 4) (hxp : xp.length = 8) (hxb : Byt xp) (pR pP : Option Addr) (cR cP : Nat) (rs : List Rm) (cs : List Cl) (hcl : cs.length ≤ 1000) (w : World) (hR : RdSl w pR Rm.v rs) (hP : RdSl w pP Cl.v cs) :
    CallW Tryz.prog 10 [.agg ⟨goC (dgV xv xp) (.slice pR rs.length cR) (.slice pP cs.length cP)⟩] w fun v _ => v = .int .i64 (gE xv rs cs) := by
  have hby := fun w1 (hc : Chg [] w w1) => gbytes_ok xv xp hxv hxp hxb pR pP cR cP rs cs hcl w1 (hR.chg' hc (fun _ => Off.nil _)) (hP.chg' hc (fun _ => Off.nil _))
  have hlen := fun R P => goC_len (dg_len hxv hxp) R P
  generalize dgV xv xp = D at *
  generalize gE xv rs cs = E at *
  generalize gI xv xp rs cs = G at *
  refine enterW (tb := tb) Tryz.func10 rfl Tryz.ntmps10 rfl ?_
  by_cases hg : E = 0
  · repeat' (first | (apply R.is1; first | (apply R.isCall; (apply R.callE (vs := [.agg ⟨goC D (.slice pR rs.length cR) (.slice pP cs.length cP)⟩]); (iterate 3 exact rfl); exact Ext.none _; intro w1 hw1; exact hby w1 hw1.chg; rintro v Lo (⟨h0, _⟩ | ⟨_, ov1, hov1, rfl, rfl⟩); exact absurd hg h0)) | (apply R.pure; exact rfl; first | (apply Ok1.load; exact rfl; (apply Ld.ownk; exact rfl; exact rfl; exact At.head; exact subE_all (hlen _ _))) | (apply Ok1.move; exact rfl) | (apply Ok1.assign; exact rfl) | (apply Ok1.extract; exact rfl; exact rfl)) | (apply R.box; (iterate 3 exact rfl); intro)) | apply R.nil | (apply T.is; first | apply T.seq | apply T.region | apply T.ret))
    (apply RetOk.t; exact rfl)
    rw [hg]
  · repeat' (first | (apply R.is1; first | (apply R.isCall; (apply R.callE (vs := [.agg ⟨goC D (.slice pR rs.length cR) (.slice pP cs.length cP)⟩]); (iterate 3 exact rfl); exact Ext.none _; intro w1 hw1; exact hby w1 hw1.chg; rintro v Lo (⟨_, rfl, rfl⟩ | ⟨h0, _⟩); rotate_left 1; exact absurd h0 hg)) | (apply R.pure; exact rfl; first | (apply Ok1.load; exact rfl; (apply Ld.ownk; exact rfl; exact rfl; exact At.head; exact subE_all (hlen _ _))) | (apply Ok1.move; exact rfl) | (apply Ok1.assign; exact rfl) | (apply Ok1.extract; exact rfl; exact rfl)) | (apply R.box; (iterate 3 exact rfl); intro)) | apply R.nil | (apply T.is; first | apply T.seq | apply T.region | apply T.ret))
    (apply RetOk.t; exact rfl)
    rfl
theorem ssync_ok (ask : Bool) (xv xp : List Int) (hxv : xv.length = 4) (hxp : xp.length = 8) (hxb : Byt xp) (pR pP : Option Addr) (cR cP : Nat) (rs : List Rm) (cs : List Cl) (hcl : cs.length ≤ 1000) (w : World) (hR : RdSl w pR Rm.v rs) (hP : RdSl w pP Cl.v cs) :
    CallM Tryz.prog 14 [.bool ask, .agg ⟨goC (dgV xv xp) (.slice pR rs.length cR) (.slice pP cs.length cP)⟩] [] w fun v L => (gE xv rs cs ≠ 0 ∧ v = .tuple #[.slice none 0 0, .int .i64 (gE xv rs cs)] ∧ L = []) ∨ gE xv rs cs = 0 ∧ ∃ ov, OvOk 1 ov (1 + (gI xv xp rs cs).length) (u8s ((if ask = true then 1 else 0) :: gI xv xp rs cs)) ∧ v = .tuple #[slV ov (1 + (gI xv xp rs cs).length), .int .i64 0] ∧ L = blkL 5 ov (u8s ((if ask = true then 1 else 0) :: gI xv xp rs cs)) := by
  have hby := fun w1 (hc : Chg [] w w1) => gbytes_ok xv xp hxv hxp hxb pR pP cR cP rs cs hcl w1 (hR.chg' hc (fun _ => Off.nil _)) (hP.chg' hc (fun _ => Off.nil _))
  have hlen := fun R P => goC_len (dg_len hxv hxp) R P
  have hgl := gI_len hxv hxp rs cs
  generalize dgV xv xp = D at *
  by_cases hg : gE xv rs cs = 0
  · have hz := gE_zero hg
    generalize gE xv rs cs = E at *
    generalize hGG : gI xv xp rs cs = G at *
    have hcat : ∀ (a : Option Addr) (b : Nat) (c : Option Addr) (d : Nat) (f : Int), cat [⟨a, b, [f]⟩, ⟨c, d, G⟩] = f :: G := fun a b c d f => by simp [cat]
    have hcon := fun a b c d f q w1 h1 h2 => concat_ok q 2 2 [⟨a, b, [f]⟩, ⟨c, d, G⟩] rfl (by rw [hcat, List.length_cons]; omega) (by decide) w1 h1 h2
    simp only [hcat, List.length_cons, Nat.add_comm G.length 1] at hcon
    refine enterK (tb := tb) Tryz.func14 rfl Tryz.ntmps14 rfl ?_
    cases ask
    all_goals repeat' (first | (apply R.is1; first | (apply R.buildSlice; (iterate 12 exact rfl); intro b6) | (apply R.isBin; (apply R.pure; exact rfl; (apply Ok1.neq_f; exact rfl; exact rfl; omega))) | (apply R.isCall; first | (apply R.callE (vs := [.agg ⟨goC D (.slice pR rs.length cR) (.slice pP cs.length cP)⟩]); (iterate 3 exact rfl); exact Ext.none _; intro w1 hw1; exact hby w1 hw1.chg; rintro v Lo (⟨h0, _⟩ | ⟨_, ov1, hov1, rfl, rfl⟩); exact absurd hg h0; rw [slV_eq hov1]) | (apply R.callE; (iterate 3 exact rfl); exact Ext.none _; intro w1 hw1; exact hcon _ _ _ _ _ _ w1 (RdSl.of (v := Pt.v) (rs := [⟨some ⟨_, 0, none⟩, 1, [_]⟩, ⟨ovp ov1, ovc ov1 G.length, G⟩]) (junk := []) hw1 .head rfl) (by simp only [List.mem_cons, List.not_mem_nil, or_false, forall_eq_or_imp, forall_eq]; exact ⟨RdSl.of (v := u8V) (rs := [_]) (junk := []) hw1 (by (focus ((repeat' (first | exact At.head | apply At.tail)); done))) rfl, RdSl.own' hw1 (Ext.mem (by rw [fl_u8]; (focus ((repeat' (first | exact Ext.here _ _ | apply Ext.cons)); done)))) (by rw [fl_u8]; exact hov1) u8V_len⟩); rintro v Lo ⟨ov4, hov4, rfl, rfl⟩)) | (apply R.pure; exact rfl; first | (apply Ok1.load; exact rfl; (apply Ld.ownk; exact rfl; exact rfl; exact At.head; exact subE_all (hlen _ _))) | (apply Ok1.move; exact rfl) | (apply Ok1.assign; exact rfl) | (apply Ok1.extract; exact rfl; exact rfl)) | (apply R.box; (iterate 3 exact rfl); intro)) | apply R.nil | (apply T.is; first | apply T.seq | apply T.region | apply T.skip | apply T.ret | (apply T.cond_t; exact rfl) | (apply T.cond_f; exact rfl)))
    all_goals (apply RetOk.tt; exact rfl; exact rfl)
    all_goals exact ⟨_, by (focus ((repeat' (first | exact Ext.here _ _ | apply Keep.last)); done)), .inr ⟨hg, ov4, hov4, rfl, rfl⟩⟩
  · generalize gE xv rs cs = E at *
    generalize hGG : gI xv xp rs cs = G at *
    refine enterK (tb := tb) Tryz.func14 rfl Tryz.ntmps14 rfl ?_
    repeat' (first | (apply R.is1; first | (apply R.isBin; (apply R.pure; exact rfl; (apply Ok1.neq_t; exact rfl; exact rfl; omega))) | (apply R.isCall; (apply R.callE (vs := [.agg ⟨goC D (.slice pR rs.length cR) (.slice pP cs.length cP)⟩]); (iterate 3 exact rfl); exact Ext.none _; intro w1 hw1; exact hby w1 hw1.chg; rintro v Lo (⟨_, rfl, rfl⟩ | ⟨h0, _⟩); rotate_left 1; exact absurd h0 hg)) | (apply R.pure; exact rfl; first | (apply Ok1.load; exact rfl; (apply Ld.ownk; exact rfl; exact rfl; exact At.head; exact subE_all (hlen _ _))) | (apply Ok1.move; exact rfl) | (apply Ok1.assign; exact rfl) | (apply Ok1.extract; exact rfl; exact rfl)) | (apply R.box; (iterate 3 exact rfl); intro)) | apply R.nil | (apply T.is; first | apply T.seq | apply T.region | apply T.ret | (apply T.cond_t; exact rfl)))
    (apply RetOk.tt; exact rfl; exact rfl)
    exact ⟨_, by (focus ((repeat' (exact Keep.nil _)); done)), .inl ⟨hg, rfl, rfl⟩⟩
end Go.Proofs.YtplhnkmmhndkjaaGreat
set_option linter.unusedSimpArgs false
set_option linter.unusedVariables false
namespace Go.Proofs.YtplhnkmmhndkjaaGreat
open Go.RowKit Go.Shelf
set_option pp.deepTerms.threshold 8
set_option maxRecDepth 100000
theorem nto_ok (a b : Int) : CallP Tryz.prog 13 [.agg ⟨[.int .i64 a, .int .i64 b]⟩] (.agg ⟨[.int .i64 a, .int .i64 b]⟩) := by
  refine enterP (tb := tb) Tryz.func13 rfl Tryz.ntmps13 rfl fun w => ?_
  repeat' (first | (apply R.is1; first | (apply R.pure; exact rfl; first | (apply Ok1.fieldAddr; (iterate 5 exact rfl)) | (apply Ok1.load; exact rfl; (apply Ld.own1; exact rfl; exact rfl; (focus ((repeat' (first | exact At.head | apply At.tail)); done)); exact rfl)) | (apply Ok1.build; (iterate 5 exact rfl))) | (apply R.box; (iterate 3 exact rfl); intro) | (apply R.alloc; (iterate 3 exact rfl); intro)) | (apply R.is0; (apply R.store; (iterate 6 exact rfl); exact Upd.head; exact rfl)) | apply R.nil | (apply T.is; first | apply T.seq | apply T.region | apply T.ret))
  (apply RetOk.c; exact rfl; ((apply Ld.ownk; exact rfl; exact rfl; exact At.head; exact rfl)))
  rfl
theorem nof_ok (a b : Int) : CallP Tryz.prog 20 [.agg ⟨[.int .i64 a, .int .i64 b]⟩] (.agg ⟨[.int .i64 a, .int .i64 b]⟩) := by
  refine enterP (tb := tb) Tryz.func20 rfl Tryz.ntmps20 rfl fun w => ?_
  repeat' (first | (apply R.is1; first | (apply R.pure; exact rfl; first | (apply Ok1.fieldAddr; (iterate 5 exact rfl)) | (apply Ok1.load; exact rfl; (apply Ld.own1; exact rfl; exact rfl; (focus ((repeat' (first | exact At.head | apply At.tail)); done)); exact rfl)) | (apply Ok1.build; (iterate 5 exact rfl))) | (apply R.box; (iterate 3 exact rfl); intro) | (apply R.alloc; (iterate 3 exact rfl); intro)) | (apply R.is0; (apply R.store; (iterate 6 exact rfl); exact Upd.head; exact rfl)) | apply R.nil | (apply T.is; first | apply T.seq | apply T.region | apply T.ret))
  (apply RetOk.c; exact rfl; ((apply Ld.ownk; exact rfl; exact rfl; exact At.head; exact rfl)))
  rfl
theorem nright_ok (a b : Int) : CallP Tryz.prog 15 [.agg ⟨[.int .i64 a, .int .i64 b]⟩] (.bool (decide (NR a b))) := by
  refine enterP (tb := tb) Tryz.func15 rfl Tryz.ntmps15 rfl fun w => ?_
  repeat' (first | (apply R.is1; first | (apply R.isBin; first | (apply R.lss rfl rfl rfl <;> intro) | (apply R.gtr rfl rfl rfl <;> intro)) | (apply R.pure; exact rfl; first | (apply Ok1.move; exact rfl) | (apply Ok1.fieldAddr; (iterate 5 exact rfl)) | (apply Ok1.load; exact rfl; (apply Ld.own1; exact rfl; exact rfl; exact At.head; exact rfl)) | (apply Ok1.assign; exact rfl) | (apply Ok1.pick_t; exact rfl; exact rfl) | (apply Ok1.pick_f; exact rfl; exact rfl)) | (apply R.box; (iterate 3 exact rfl); intro)) | (apply R.isG; first | (apply R.guard_run; exact rfl; exact rfl) | (apply R.guard_not; (iterate 3 exact rfl))) | apply R.nil | (apply T.is; first | apply T.seq | apply T.region | apply T.ret))
  all_goals (apply RetOk.t; exact rfl)
  all_goals first
    | (rw [decide_eq_true (p := NR a b) (by unfold NR; omega)]; done)
    | (rw [decide_eq_false (p := NR a b) (by unfold NR; omega)]; done)
def nbI (a b : Int) : List Int := ([] ++ numI 1 a) ++ numI 2 b
theorem wnbytes_ok (a b : Int) (hr : NR a b) (w : World) : CallM Tryz.prog 51 [.agg ⟨[.int .i64 a, .int .i64 b]⟩] [] w fun v L => ∃ ov, OvOk 1 ov 6 (u8s (nbI a b)) ∧ v = .tuple #[slV ov 6, .int .i64 0] ∧ L = blkL 5 ov (u8s (nbI a b)) := by
  have hck := nonce_ok a b
  rw [if_pos hr] at hck
  have hf1 : Fits 1 a := by unfold NR at hr; unfold Fits; omega
  have hf2 : Fits 2 b := by unfold NR at hr; unfold Fits; omega
  refine enterK (tb := tb) Tryz.func51 rfl Tryz.ntmps51 rfl ?_
  repeat' (first | (apply R.is1; first | (apply R.isBin; (apply R.pure; exact rfl; (apply Ok1.neq_f; exact rfl; exact rfl; omega))) | (apply R.isCall; apply R.callP rfl rfl rfl hck) | (apply R.pure; exact rfl; first | (apply Ok1.move; exact rfl) | (apply Ok1.load; exact rfl; (apply Ld.ownk; exact rfl; exact rfl; exact At.head; exact rfl)) | (apply Ok1.assign; exact rfl)) | (apply R.box; (iterate 3 exact rfl); intro) | (apply R.alloc; (iterate 3 exact rfl); intro)) | apply R.nil | (apply T.is; first | apply T.seq | apply T.region | apply T.skip | (apply T.cond_f; exact rfl)))
  rename_i bc bw
  obtain ⟨B0, hB0⟩ : ∃ B : List Int, B = [] := ⟨_, rfl⟩
  obtain ⟨B1, hB1⟩ : ∃ B, B = B0 ++ numI 1 a := ⟨_, rfl⟩
  obtain ⟨B2, hB2⟩ : ∃ B, B = B1 ++ numI 2 b := ⟨_, rfl⟩
  have hl0 : B0.length ≤ 1000 := by rw [hB0]; decide
  have hl1 : B1.length ≤ 1000 := by rw [hB1, hB0]; exact Nat.le_of_ble_eq_true rfl
  have hB : B2 = nbI a b := by rw [hB2, hB1, hB0]; rfl
  have hBl : B2.length = 6 := by rw [hB]; rfl
  have hw0 : OvOk 1 none B0.length (u8s B0) := by rw [hB0]; exact OvOk.start 1
  apply T.drawC (id := 5) [1] (by decide)
  (apply A.take 0; exact rfl; exact rfl; kernel_rfl; kernel_rfl; kernel_rfl; (apply Ok1.fieldAddr; (iterate 5 exact rfl))) <;> (apply A.take 1; exact rfl; exact rfl; kernel_rfl; kernel_rfl; kernel_rfl; (apply Ok1.load; exact rfl; (apply Ld.own1; exact rfl; exact rfl; exact At.head; exact rfl))) <;> (apply A.take 4; exact rfl; exact rfl; kernel_rfl; kernel_rfl; kernel_rfl; (apply Ok1.fieldAddr; (iterate 5 exact rfl))) <;> (apply A.take 5; exact rfl; exact rfl; kernel_rfl; kernel_rfl; kernel_rfl; (apply Ok1.load; exact rfl; (apply Ld.own1; exact rfl; exact rfl; exact At.head; exact rfl)))
  refine A.merge (fun σ L => ∃ (ov : Ov), OvOk 1 ov B2.length (u8s B2) ∧ Sub [(5, .pointer (some ⟨bw, 0, none⟩)), (12, .int .i64 a), (16, .int .i64 b), (18, .pointer (some ⟨bw, 0, none⟩))] σ ∧ Keep L (WL bw ov B2 ++ [(bc, .cells ⟨[.int .i64 a, .int .i64 b]⟩ 51 (0, 0))])) 5 #[true, true, true, true, true, true, true, true, false, false, false, false, false] ?_ ?_
  rotate_left 1
  focus
    intro H2_
    refine A.merge (fun σ L => ∃ (ov : Ov) (b1 : Nat), OvOk 1 ov B1.length (u8s B1) ∧ Sub [(5, .pointer (some ⟨bw, 0, none⟩)), (12, .int .i64 a), (16, .int .i64 b), (14, .pointer (some ⟨bw, 0, none⟩)), (17, .slice (some ⟨b1, 0, none⟩) 1 1)] σ ∧ Keep L (WL bw ov B1 ++ [(bc, .cells ⟨[.int .i64 a, .int .i64 b]⟩ 51 (0, 0)), (b1, .cells ⟨[.int .i64 b]⟩ 3 (0, 0))])) 6 #[true, true, true, true, true, true, true, false, false, false, false, false, false] ?_ ?_
    · rintro σ L ⟨ov, b1, hov, hs, hk⟩
      refine A.weak ?_ hs hk
      refine A.multi [7] (by kernel_rfl) (by decide) ⟨⟨_, rfl, ?_⟩, trivial⟩
      · (apply R.callE (Li := WL bw ov B1); (iterate 3 exact rfl); (focus ((repeat' (exact Ext.here _ _)); done)); intro w1 hw1; have h9 := number1_ok bw ov B1 hov 2 b hf2 hl1 b1 _ _ w1 (hw1.get _ _ (At.mem (by (focus ((repeat' (first | exact At.head | apply At.tail | apply At.right)); done))))) (RdSl.off hw1 (by (focus ((repeat' (exact Ext.here _ _)); done))) (At.mem (by (focus ((repeat' (first | exact At.head | apply At.tail)); done))))); rw [← hB2] at h9; exact h9; rintro v Lo ⟨ov1, rfl, hov1, rfl⟩); apply R.nil; refine ⟨(by (focus ((repeat' (first | exact trivial | (refine ⟨?_, ?_⟩; (focus ((repeat' (first | exact At.head | apply At.tail | apply At.right)); done)))))))), A.cast (by kernel_rfl) (H2_ _ _ ⟨ov1, hov1, ⟨rfl, rfl, rfl, rfl, trivial⟩, (by (focus ((repeat' (first | exact Keep.nil _ | exact Ext.one _ _ | exact Ext.here _ _ | apply Keep.cons | apply Keep.app)); done)))⟩)⟩
    intro H1_1
    refine A.merge (fun σ L => ∃ (ov : Ov), OvOk 1 ov B1.length (u8s B1) ∧ Sub [(5, .pointer (some ⟨bw, 0, none⟩)), (12, .int .i64 a), (16, .int .i64 b), (14, .pointer (some ⟨bw, 0, none⟩))] σ ∧ Keep L (WL bw ov B1 ++ [(bc, .cells ⟨[.int .i64 a, .int .i64 b]⟩ 51 (0, 0))])) 7 #[true, true, true, true, true, true, false, false, false, false, false, false, false] ?_ ?_
    · rintro σ L ⟨ov, hov, hs, hk⟩
      refine A.weak ?_ hs hk
      refine A.multi [6] (by kernel_rfl) (by decide) ⟨⟨_, rfl, ?_⟩, trivial⟩
      · (((apply R.buildSlice; (iterate 12 exact rfl); intro))); rename_i b1; apply R.nil; refine ⟨(by (focus ((repeat' (first | exact trivial | (refine ⟨?_, ?_⟩; (focus ((repeat' (first | exact At.head | apply At.tail | apply At.right)); done)))))))), A.cast (by kernel_rfl) (H1_1 _ _ ⟨ov, b1, hov, ⟨rfl, rfl, rfl, rfl, rfl, trivial⟩, (by (focus ((repeat' (first | exact Keep.nil _ | exact Ext.one _ _ | exact Ext.here _ _ | apply Keep.cons | apply Keep.app | apply Ext.cons)); done)))⟩)⟩
    intro H1_
    refine A.merge (fun σ L => ∃ (ov : Ov) (b0 : Nat) (b1 : Nat), OvOk 1 ov B0.length (u8s B0) ∧ Sub [(5, .pointer (some ⟨bw, 0, none⟩)), (12, .int .i64 a), (16, .int .i64 b), (13, .slice (some ⟨b0, 0, none⟩) 1 1), (17, .slice (some ⟨b1, 0, none⟩) 1 1)] σ ∧ Keep L (WL bw ov B0 ++ [(bc, .cells ⟨[.int .i64 a, .int .i64 b]⟩ 51 (0, 0)), (b0, .cells ⟨[.int .i64 a]⟩ 3 (0, 0)), (b1, .cells ⟨[.int .i64 b]⟩ 3 (0, 0))])) 7 #[true, true, true, false, true, true, true, false, false, false, false, false, false] ?_ ?_
    · rintro σ L ⟨ov, b0, b1, hov, hs, hk⟩
      refine A.weak ?_ hs hk
      refine A.multi [3] (by kernel_rfl) (by decide) ⟨⟨_, rfl, ?_⟩, trivial⟩
      · (apply R.callE (Li := WL bw ov B0); (iterate 3 exact rfl); (focus ((repeat' (exact Ext.here _ _)); done)); intro w1 hw1; have h9 := number1_ok bw ov B0 hov 1 a hf1 hl0 b0 _ _ w1 (hw1.get _ _ (At.mem (by (focus ((repeat' (first | exact At.head | apply At.tail | apply At.right)); done))))) (RdSl.off hw1 (by (focus ((repeat' (exact Ext.here _ _)); done))) (At.mem (by (focus ((repeat' (first | exact At.head | apply At.tail)); done))))); rw [← hB1] at h9; exact h9; rintro v Lo ⟨ov1, rfl, hov1, rfl⟩); apply R.nil; refine ⟨(by (focus ((repeat' (first | exact trivial | (refine ⟨?_, ?_⟩; (focus ((repeat' (first | exact At.head | apply At.tail | apply At.right)); done)))))))), A.cast (by kernel_rfl) (H1_1 _ _ ⟨ov1, b1, hov1, ⟨rfl, rfl, rfl, rfl, rfl, trivial⟩, (by (focus ((repeat' (first | exact Keep.nil _ | exact Ext.one _ _ | exact Ext.here _ _ | apply Keep.cons | apply Keep.app | apply Ext.cons)); done)))⟩)⟩
    intro H0_01
    refine A.merge (fun σ L => ∃ (ov : Ov) (b0 : Nat), OvOk 1 ov B0.length (u8s B0) ∧ Sub [(5, .pointer (some ⟨bw, 0, none⟩)), (12, .int .i64 a), (16, .int .i64 b), (13, .slice (some ⟨b0, 0, none⟩) 1 1)] σ ∧ Keep L (WL bw ov B0 ++ [(bc, .cells ⟨[.int .i64 a, .int .i64 b]⟩ 51 (0, 0)), (b0, .cells ⟨[.int .i64 a]⟩ 3 (0, 0))])) 8 #[true, true, true, false, true, true, false, false, false, false, false, false, false] ?_ ?_
    · rintro σ L ⟨ov, b0, hov, hs, hk⟩
      refine A.weak ?_ hs hk
      refine A.multi [3, 6] (by kernel_rfl) (by decide) ⟨⟨_, rfl, ?_⟩, ⟨_, rfl, ?_⟩, trivial⟩
      · (apply R.callE (Li := WL bw ov B0); (iterate 3 exact rfl); (focus ((repeat' (exact Ext.here _ _)); done)); intro w1 hw1; have h9 := number1_ok bw ov B0 hov 1 a hf1 hl0 b0 _ _ w1 (hw1.get _ _ (At.mem (by (focus ((repeat' (first | exact At.head | apply At.tail | apply At.right)); done))))) (RdSl.off hw1 (by (focus ((repeat' (exact Ext.here _ _)); done))) (At.mem (by (focus ((repeat' (first | exact At.head | apply At.tail)); done))))); rw [← hB1] at h9; exact h9; rintro v Lo ⟨ov1, rfl, hov1, rfl⟩); apply R.nil; refine ⟨(by (focus ((repeat' (first | exact trivial | (refine ⟨?_, ?_⟩; (focus ((repeat' (first | exact At.head | apply At.tail | apply At.right)); done)))))))), A.cast (by kernel_rfl) (H1_ _ _ ⟨ov1, hov1, ⟨rfl, rfl, rfl, rfl, trivial⟩, (by (focus ((repeat' (first | exact Keep.nil _ | exact Ext.one _ _ | exact Ext.here _ _ | apply Keep.cons | apply Keep.app)); done)))⟩)⟩
      · (((apply R.buildSlice; (iterate 12 exact rfl); intro))); rename_i b1; apply R.nil; refine ⟨(by (focus ((repeat' (first | exact trivial | (refine ⟨?_, ?_⟩; (focus ((repeat' (first | exact At.head | apply At.tail | apply At.right)); done)))))))), A.cast (by kernel_rfl) (H0_01 _ _ ⟨ov, b0, b1, hov, ⟨rfl, rfl, rfl, rfl, rfl, trivial⟩, (by (focus ((repeat' (first | exact Keep.nil _ | exact Ext.one _ _ | exact Ext.here _ _ | apply Keep.cons | apply Keep.app | apply Ext.cons)); done)))⟩)⟩
    intro H0_0
    refine A.merge (fun σ L => ∃ (ov : Ov) (b1 : Nat), OvOk 1 ov B0.length (u8s B0) ∧ Sub [(5, .pointer (some ⟨bw, 0, none⟩)), (12, .int .i64 a), (16, .int .i64 b), (17, .slice (some ⟨b1, 0, none⟩) 1 1)] σ ∧ Keep L (WL bw ov B0 ++ [(bc, .cells ⟨[.int .i64 a, .int .i64 b]⟩ 51 (0, 0)), (b1, .cells ⟨[.int .i64 b]⟩ 3 (0, 0))])) 8 #[true, true, false, false, true, true, true, false, false, false, false, false, false] ?_ ?_
    · rintro σ L ⟨ov, b1, hov, hs, hk⟩
      refine A.weak ?_ hs hk
      refine A.multi [2] (by kernel_rfl) (by decide) ⟨⟨_, rfl, ?_⟩, trivial⟩
      · (((apply R.buildSlice; (iterate 12 exact rfl); intro))); rename_i b0; apply R.nil; refine ⟨(by (focus ((repeat' (first | exact trivial | (refine ⟨?_, ?_⟩; (focus ((repeat' (first | exact At.head | apply At.tail | apply At.right)); done)))))))), A.cast (by kernel_rfl) (H0_01 _ _ ⟨ov, b0, b1, hov, ⟨rfl, rfl, rfl, rfl, rfl, trivial⟩, (by (focus ((repeat' (first | exact Keep.nil _ | exact Ext.one _ _ | exact Ext.here _ _ | apply Keep.cons | apply Keep.app | apply Ext.cons)); done)))⟩)⟩
    intro H0_1
    refine A.merge (fun σ L => ∃ (ov : Ov), OvOk 1 ov B0.length (u8s B0) ∧ Sub [(5, .pointer (some ⟨bw, 0, none⟩)), (12, .int .i64 a), (16, .int .i64 b)] σ ∧ Keep L (WL bw ov B0 ++ [(bc, .cells ⟨[.int .i64 a, .int .i64 b]⟩ 51 (0, 0))])) 9 #[true, true, false, false, true, true, false, false, false, false, false, false, false] ?_ ?_
    · rintro σ L ⟨ov, hov, hs, hk⟩
      refine A.weak ?_ hs hk
      refine A.multi [2, 6] (by kernel_rfl) (by decide) ⟨⟨_, rfl, ?_⟩, ⟨_, rfl, ?_⟩, trivial⟩
      · (((apply R.buildSlice; (iterate 12 exact rfl); intro))); rename_i b0; apply R.nil; refine ⟨(by (focus ((repeat' (first | exact trivial | (refine ⟨?_, ?_⟩; (focus ((repeat' (first | exact At.head | apply At.tail | apply At.right)); done)))))))), A.cast (by kernel_rfl) (H0_0 _ _ ⟨ov, b0, hov, ⟨rfl, rfl, rfl, rfl, trivial⟩, (by (focus ((repeat' (first | exact Keep.nil _ | exact Ext.one _ _ | exact Ext.here _ _ | apply Keep.cons | apply Keep.app | apply Ext.cons)); done)))⟩)⟩
      · (((apply R.buildSlice; (iterate 12 exact rfl); intro))); rename_i b1; apply R.nil; refine ⟨(by (focus ((repeat' (first | exact trivial | (refine ⟨?_, ?_⟩; (focus ((repeat' (first | exact At.head | apply At.tail | apply At.right)); done)))))))), A.cast (by kernel_rfl) (H0_1 _ _ ⟨ov, b1, hov, ⟨rfl, rfl, rfl, rfl, trivial⟩, (by (focus ((repeat' (first | exact Keep.nil _ | exact Ext.one _ _ | exact Ext.here _ _ | apply Keep.cons | apply Keep.app | apply Ext.cons)); done)))⟩)⟩
    intro H0_
    exact A.cast (by kernel_rfl) (H0_ _ _ ⟨none, hw0, ⟨rfl, rfl, rfl, trivial⟩, (by (focus ((repeat' (first | exact Keep.nil _ | exact Ext.one _ _ | apply Keep.cons)); done)))⟩)
  rintro σ L ⟨ov, hov, hs, hk⟩
  refine A.weak ?_ hs hk
  clear hs hk
  (apply A.one 8; kernel_rfl; exact rfl; (((simp only [WL, List.cons_append]; apply R.callE; (iterate 3 exact rfl); exact Ext.none _; intro w1 hw1; exact wout_ok bw ov B2 hov (by rw [hBl]; decide) w1 (hw1.get _ _ (At.mem (by exact At.head))) (rdown hov hw1 (Ext.mem (by (focus ((repeat' (first | exact Ext.here _ _ | apply Ext.cons)); done))))); rintro v Lo ⟨ov9, hov9, rfl, rfl⟩))); apply R.nil; refine ⟨?_, ?_⟩; (focus ((repeat' (first | exact trivial | (refine ⟨?_, ?_⟩; (focus ((repeat' (first | exact At.head | apply At.tail | apply At.right)); done)))))))) <;> (apply A.take 9; exact rfl; exact rfl; kernel_rfl; kernel_rfl; kernel_rfl; (apply Ok1.extract; exact rfl; exact rfl)) <;> (apply A.take 10; exact rfl; exact rfl; kernel_rfl; kernel_rfl; kernel_rfl; (apply Ok1.extract; exact rfl; exact rfl)) <;> (apply A.take 11; exact rfl; exact rfl; kernel_rfl; kernel_rfl; kernel_rfl; (apply Ok1.assign; exact rfl)) <;> (apply A.take 12; exact rfl; exact rfl; kernel_rfl; kernel_rfl; kernel_rfl; (apply Ok1.assign; exact rfl)) <;> (apply A.done; kernel_rfl)
  rw [hBl] at hov9
  repeat' ((apply T.is; apply T.ret))
  (apply RetOk.tt; exact rfl; exact rfl)
  refine ⟨_, ?_, ov9, hB ▸ hov9, by rw [hBl], rfl⟩
  rw [← hB]
  (focus ((repeat' (first | exact Ext.here _ _ | apply Keep.last)); done))
theorem wnbytes_bad (a b : Int) (hr : ¬ NR a b) : CallP Tryz.prog 51 [.agg ⟨[.int .i64 a, .int .i64 b]⟩] (.tuple #[.slice none 0 0, .int .i64 10]) := by
  have hck := nonce_ok a b
  rw [if_neg hr] at hck
  refine enterP (tb := tb) Tryz.func51 rfl Tryz.ntmps51 rfl fun w => ?_
  repeat' (first | (apply R.is1; first | (apply R.isBin; (apply R.pure; exact rfl; (apply Ok1.neq_t; exact rfl; exact rfl; omega))) | (apply R.isCall; apply R.callP rfl rfl rfl hck) | (apply R.pure; exact rfl; first | (apply Ok1.move; exact rfl) | (apply Ok1.load; exact rfl; (apply Ld.ownk; exact rfl; exact rfl; exact At.head; exact rfl)) | (apply Ok1.assign; exact rfl)) | (apply R.box; (iterate 3 exact rfl); intro)) | apply R.nil | (apply T.is; first | apply T.seq | apply T.region | apply T.ret | (apply T.cond_t; exact rfl)))
  (apply RetOk.tt; exact rfl; exact rfl)
  rfl
end Go.Proofs.YtplhnkmmhndkjaaGreat
set_option linter.unusedSimpArgs false
set_option linter.unusedVariables false
namespace Go.Proofs.YtplhnkmmhndkjaaGreat
open Go.RowKit Go.Shelf
set_option pp.deepTerms.threshold 8
set_option maxRecDepth 100000
def ansE (a b : Int) (xv : List Int) (rs : List Rm) (cs : List Cl) : Int := if ¬ NR a b then 10 else gE xv rs cs
theorem synced_good (ask : Bool) (p : Option Addr) (n cap : Nat) (xs : List Int) (hn : n = xs.length + 1) (hbig : n ≤ 1024) (hcap : n ≤ cap) (hb : Byt xs) (w : World) (hp : RdSl w p u8V ((if ask = true then 1 else 0) :: xs)) (he : (pG xs).e = 0) :
    CallM Tryz.prog 18 [.slice p n cap] [] w fun v L => ∃ ov1 ov2, OvOk 6 ov1 (pG xs).rs.length (fl Rm.v (pG xs).rs) ∧ OvOk 4 ov2 (pG xs).cs.length (fl Cl.v (pG xs).cs) ∧ v = .tuple #[.bool ask, .agg ⟨goC (dgV (pG xs).vs (pG xs).p8) (.slice (ovp ov1) (pG xs).rs.length (ovc ov1 (pG xs).rs.length)) (.slice (ovp ov2) (pG xs).cs.length (ovc ov2 (pG xs).cs.length))⟩, .int .i64 0] ∧ L = blkL 111 ov1 (fl Rm.v (pG xs).rs) ++ blkL 71 ov2 (fl Cl.v (pG xs).cs) := by
  obtain ⟨b, o, hpe, H⟩ := hp.at (i := 0) rfl
  replace H := H 1 u8V_len
  have hp1 := hp.suf u8V_len (cap := cap) (i := 1) (by simp) (by rw [List.length_cons]; omega)
  have hpar := fun w1 (hc : Chg [] w w1) => sparse_ok (sufP p cap 1 1) (n - 1) (cap - 1) xs (by omega) (by omega) (by omega) hb w1 (hp1.chg' hc (fun _ => Off.nil _))
  have hgl := pG_len xs
  rw [he] at hpar
  generalize pG xs = G at *
  obtain ⟨gv, gp, grs, gcs, ge⟩ := G
  simp only at *
  have hgD := dg_len hgl.1 hgl.2
  have hD1 := dg_one gv gp
  have hlenG := fun R P => goC_len hgD R P
  generalize dgV gv gp = D at *
  refine enterK (tb := tb) Tryz.func18 rfl Tryz.ntmps18 rfl ?_
  cases ask
  all_goals simp only [Bool.false_eq_true, if_true, if_false, reduceIte] at H
  all_goals repeat' (first | (apply R.is1; first | (apply R.isBin; (apply R.pure; exact rfl; first | (apply Ok1.gtr_f; exact rfl; exact rfl; omega) | (apply Ok1.eql_f; exact rfl; exact rfl; omega) | (apply Ok1.neq_f; exact rfl; exact rfl; omega))) | (apply R.isCall; first | (apply R.callE (vs := [.slice (sufP p cap 1 1) (n - 1) (cap - 1)]); (iterate 3 exact rfl); exact Ext.none _; intro w1 hw1; exact hpar w1 hw1.chg; rintro v Lo ⟨ov1, ov2, hov1, hov2, rfl, rfl⟩; rw [List.append_assoc]) | (apply R.pure; exact rfl; (apply Ok1.lenS; (iterate 3 exact rfl)))) | (apply R.pure; exact rfl; first | (apply Ok1.indexAddrP; (iterate 4 exact rfl); exact hpe; exact rfl; omega; omega) | (apply Ok1.load; exact rfl; (apply Ld.row0 H; exact rfl; exact List.not_mem_nil; (iterate 3 exact rfl))) | (apply Ok1.sufR (i := 1) (sz := 1); (iterate 6 exact rfl); omega; omega) | (apply Ok1.move; exact rfl) | (apply Ok1.assign; exact rfl) | (apply Ok1.extract; exact rfl; exact rfl)) | (apply R.alloc; (iterate 3 exact rfl); intro)) | (apply R.is0; (apply R.store; (iterate 4 exact rfl); exact hlenG _ _; exact goC_one hD1 _ _ _ _ _ _; exact Upd.head; exact setE_all (by rw [hlenG]; rfl))) | apply R.nil | (apply T.is; first | (apply T.drawC (id := 8) [] (by decide); ((apply A.take 0; exact rfl; exact rfl; kernel_rfl; kernel_rfl; kernel_rfl; (apply Ok1.move; exact rfl)) <;> (apply A.take 1; exact rfl; exact rfl; kernel_rfl; kernel_rfl; kernel_rfl; (apply Ok1.indexAddrP; (iterate 4 exact rfl); exact hpe; exact rfl; omega; omega)) <;> (apply A.take 2; exact rfl; exact rfl; kernel_rfl; kernel_rfl; kernel_rfl; (apply Ok1.load; exact rfl; (apply Ld.row0 H; exact rfl; exact List.not_mem_nil; (iterate 3 exact rfl)))) <;> ((apply A.take 3; exact rfl; exact rfl; kernel_rfl; kernel_rfl; kernel_rfl; first | (apply Ok1.eql_t; exact rfl; exact rfl; omega) | (apply Ok1.eql_f; exact rfl; exact rfl; omega))) <;> (apply A.take 5; exact rfl; exact rfl; kernel_rfl; kernel_rfl; kernel_rfl; (apply Ok1.assign; exact rfl)) <;> (apply A.one 4; kernel_rfl; exact rfl; (((apply R.pure; exact rfl; (apply Ok1.load; exact rfl; (apply Ld.ownk; exact rfl; exact rfl; exact At.head; exact subE_all (hlenG _ _)))))); apply R.nil; refine ⟨?_, ?_⟩; (focus ((repeat' (exact trivial))))) <;> (apply A.one 6; kernel_rfl; exact rfl; (((apply R.store; (iterate 4 exact rfl); exact hlenG _ _; exact goC_one hD1 _ _ _ _ _ _; (focus ((repeat' (first | exact Upd.head | apply Upd.tail | apply Upd.right)); done)); exact setE_all (by rw [hlenG]; rfl)))); apply R.nil; refine ⟨?_, ?_⟩; (focus ((repeat' (exact trivial))))) <;> (apply A.take 7; exact rfl; exact rfl; kernel_rfl; kernel_rfl; kernel_rfl; (apply Ok1.assign; exact rfl)) <;> (apply A.done; kernel_rfl))) | apply T.seq | apply T.region | apply T.block | apply T.skip | apply T.ret | (apply T.cond_f; exact rfl)))
  all_goals (apply RetOk.tct; exact rfl; exact rfl; (apply Ld.ownk; exact rfl; exact rfl; (focus ((repeat' (first | exact At.head | apply At.tail | apply At.right)); done)); exact subE_all (hlenG _ _)); exact rfl)
  all_goals exact ⟨_, by (focus ((repeat' (first | exact Ext.here _ _ | apply Keep.app | apply Keep.last | apply Ext.cons)); done)), ov1, ov2, hov1, hov2, rfl, rfl⟩
theorem rdW_fwd {s : Rs} {a b : Int} {rest : List Int} (hr : NR a b) (hs : s.xs = nbI a b ++ rest) (he : s.e = 0) : rdW s = ((a, b), 0) := by
  unfold NR at hr
  simp only [nbI, List.nil_append, List.append_assoc] at hs
  obtain ⟨a1, a2, a3⟩ := Rs.num_fwd (z := 1) (k := 2) (.inr (.inl ⟨rfl, rfl⟩)) (by omega) (by omega) (by omega) (by omega) hs he
  obtain ⟨c1, c2, c3⟩ := Rs.num_fwd (s := s.wA) (z := 2) (k := 4) (.inr (.inr ⟨rfl, rfl⟩)) (by omega) (by omega) (by omega) (by omega) a2 a3
  have c4 : s.wB.e = 0 := c3
  have hv : s.wv = (a, b) := by simp only [Rs.wv, a1, c1]
  unfold rdW
  rw [if_neg (fun h => h c4), hv, if_pos (by unfold NR; omega)]
theorem answered_good (a b : Int) (hr : NR a b) (p : Option Addr) (n cap : Nat) (xs : List Int) (hn : n = 6 + xs.length) (hbig : n ≤ 1024) (hcap : n ≤ cap) (hb : Byt xs) (w : World) (hp : RdSl w p u8V (nbI a b ++ xs)) (he : (pG xs).e = 0) :
    CallM Tryz.prog 19 [.slice p n cap] [] w fun v L => ∃ ov1 ov2, OvOk 6 ov1 (pG xs).rs.length (fl Rm.v (pG xs).rs) ∧ OvOk 4 ov2 (pG xs).cs.length (fl Cl.v (pG xs).cs) ∧ v = .tuple #[.agg ⟨[.int .i64 a, .int .i64 b]⟩, .agg ⟨goC (dgV (pG xs).vs (pG xs).p8) (.slice (ovp ov1) (pG xs).rs.length (ovc ov1 (pG xs).rs.length)) (.slice (ovp ov2) (pG xs).cs.length (ovc ov2 (pG xs).cs.length))⟩, .int .i64 0] ∧ L = blkL 111 ov1 (fl Rm.v (pG xs).rs) ++ blkL 71 ov2 (fl Cl.v (pG xs).cs) := by
  have hnl : (nbI a b).length = 6 := rfl
  have hnby : Byt (nbI a b) := Byt.app (Byt.app byt_nil (num_byt _ _)) (num_byt _ _)
  have hp1 := hp.suf u8V_len (cap := cap) (i := 6) (by rw [List.length_append, hnl]; omega) (by rw [List.length_append, hnl]; omega)
  rw [show (nbI a b ++ xs).drop 6 = xs from by rw [← hnl, List.drop_left]] at hp1
  have hpar := fun w1 (hc : Chg [] w w1) => sparse_ok (sufP p cap 6 1) (n - 6) (cap - 6) xs (by omega) (by omega) (by omega) hb w1 (hp1.chg' hc (fun _ => Off.nil _))
  have hnew := fun w1 (hc : Chg [] w w1) => rnewr_ok p n cap (nbI a b ++ xs) (by rw [List.length_append, hnl]; omega) (by omega) (hnby.app hb) w1 (hp.chg' hc (fun _ => Off.nil _))
  simp only [if_pos (show n ≤ 1024 by omega)] at hnew
  have hgl := pG_len xs
  rw [he] at hpar
  generalize pG xs = G at *
  obtain ⟨gv, gp, grs, gcs, ge⟩ := G
  simp only at *
  have hgD := dg_len hgl.1 hgl.2
  have hD1 := dg_one gv gp
  have hlenG := fun R P => goC_len hgD R P
  generalize dgV gv gp = D at *
  refine enterK (tb := tb) Tryz.func19 rfl Tryz.ntmps19 rfl ?_
  repeat' (first | (apply R.is1; first | (apply R.isCall; (apply R.callE (vs := [.slice p n cap]); (iterate 3 exact rfl); exact Ext.none _; intro w1 hw1; exact hnew w1 hw1.chg; rintro v Lo ⟨br, s, M, rfl, hs1, hs2, hso, rfl⟩; rw [List.append_assoc])) | (apply R.pure; exact rfl; first | (apply Ok1.move; exact rfl) | (apply Ok1.assign; exact rfl)) | (apply R.alloc; (iterate 3 exact rfl); intro)) | apply R.nil | (apply T.is; first | apply T.seq | apply T.region))
  have hsk := hso.ok' br
  have hwr := fun w1 h => wread_ok br s w1 h
  rw [rdW_fwd hr hs1 hs2] at hwr
  generalize hLS : s.L br = LS at *
  generalize hLB : s.wB.L br = LB at *
  repeat' (first | (apply R.is1; first | (apply R.isBin; (apply R.pure; exact rfl; (apply Ok1.neq_f; exact rfl; exact rfl; omega))) | (apply R.isCall; first | (apply R.callE (Li := LS) (vs := [.pointer (some ⟨br, 0, none⟩)]); (iterate 3 exact rfl); (focus ((repeat' (exact Ext.here _ _)); done)); intro w1 hw1; exact hwr w1 (hsk _ _ _ _ _ hw1 (by (focus ((repeat' (exact Ext.here _ _)); done))) (Ext.mem (by (focus ((repeat' (exact Ext.here _ _)); done))))); rintro v Lo ⟨rfl, hq⟩; rw [hq]; clear hq) | (apply R.callE (vs := [.slice (sufP p cap 6 1) (n - 6) (cap - 6)]); (iterate 3 exact rfl); exact Ext.none _; intro w1 hw1; exact hpar w1 hw1.chg; rintro v Lo ⟨ov1, ov2, hov1, hov2, rfl, rfl⟩; rw [List.append_assoc])) | (apply R.pure; exact rfl; first | (apply Ok1.sufR (i := 6) (sz := 1); (iterate 6 exact rfl); omega; omega) | (apply Ok1.move; exact rfl) | (apply Ok1.assign; exact rfl) | (apply Ok1.extract; exact rfl; exact rfl)) | (apply R.alloc; (iterate 3 exact rfl); intro)) | (apply R.is0; first | (apply R.store; (iterate 4 exact rfl); exact hlenG _ _; exact goC_one hD1 _ _ _ _ _ _; exact Upd.head; exact setE_all (by rw [hlenG]; rfl)) | (apply R.store; (iterate 6 exact rfl); exact Upd.head; exact rfl)) | apply R.nil | (apply T.is; first | (apply T.drawC (id := 7) [] (by decide); ((apply A.two 0 1; kernel_rfl; exact rfl; exact rfl; rotate_left 1; (focus (((((apply R.pure; exact rfl; (apply Ok1.load; exact rfl; (apply Ld.ownk; exact rfl; exact rfl; exact At.head; exact subE_all (hlenG _ _)))))); apply R.nil; refine ⟨?_, ?_⟩; (focus ((repeat' (exact trivial))))) <;> (apply A.one 0; kernel_rfl; exact rfl; (((apply R.pure; exact rfl; (apply Ok1.load; exact rfl; (apply Ld.ownk; exact rfl; exact rfl; (focus ((repeat' (first | exact At.head | apply At.tail | apply At.right)); done)); exact rfl))))); apply R.nil; refine ⟨?_, ?_⟩; (focus ((repeat' (exact trivial))))) <;> (apply A.one 2; kernel_rfl; exact rfl; (((apply R.store; (iterate 6 exact rfl); (focus ((repeat' (first | exact Upd.head | apply Upd.tail | apply Upd.right)); done)); exact rfl))); apply R.nil; refine ⟨?_, ?_⟩; (focus ((repeat' (exact trivial))))) <;> (apply A.one 3; kernel_rfl; exact rfl; (((apply R.store; (iterate 4 exact rfl); exact hlenG _ _; exact goC_one hD1 _ _ _ _ _ _; (focus ((repeat' (first | exact Upd.head | apply Upd.tail | apply Upd.right)); done)); exact setE_all (by rw [hlenG]; rfl)))); apply R.nil; refine ⟨?_, ?_⟩; (focus ((repeat' (exact trivial))))) <;> (apply A.take 4; exact rfl; exact rfl; kernel_rfl; kernel_rfl; kernel_rfl; (apply Ok1.assign; exact rfl)) <;> (apply A.done; kernel_rfl))); rotate_right 1; (focus (((((apply R.pure; exact rfl; (apply Ok1.load; exact rfl; (apply Ld.ownk; exact rfl; exact rfl; (focus ((repeat' (first | exact At.head | apply At.tail | apply At.right)); done)); exact rfl))))); apply R.nil; refine ⟨?_, ?_⟩; (focus ((repeat' (exact trivial))))) <;> (apply A.two 1 2; kernel_rfl; exact rfl; exact rfl; rotate_left 1; (focus (((((apply R.store; (iterate 6 exact rfl); (focus ((repeat' (first | exact Upd.head | apply Upd.tail | apply Upd.right)); done)); exact rfl))); apply R.nil; refine ⟨?_, ?_⟩; (focus ((repeat' (exact trivial))))) <;> (apply A.one 1; kernel_rfl; exact rfl; (((apply R.pure; exact rfl; (apply Ok1.load; exact rfl; (apply Ld.ownk; exact rfl; exact rfl; exact At.head; exact subE_all (hlenG _ _)))))); apply R.nil; refine ⟨?_, ?_⟩; (focus ((repeat' (exact trivial))))) <;> (apply A.one 3; kernel_rfl; exact rfl; (((apply R.store; (iterate 4 exact rfl); exact hlenG _ _; exact goC_one hD1 _ _ _ _ _ _; (focus ((repeat' (first | exact Upd.head | apply Upd.tail | apply Upd.right)); done)); exact setE_all (by rw [hlenG]; rfl)))); apply R.nil; refine ⟨?_, ?_⟩; (focus ((repeat' (exact trivial))))) <;> (apply A.take 4; exact rfl; exact rfl; kernel_rfl; kernel_rfl; kernel_rfl; (apply Ok1.assign; exact rfl)) <;> (apply A.done; kernel_rfl))); rotate_right 1; (focus (((((apply R.pure; exact rfl; (apply Ok1.load; exact rfl; (apply Ld.ownk; exact rfl; exact rfl; exact At.head; exact subE_all (hlenG _ _)))))); apply R.nil; refine ⟨?_, ?_⟩; (focus ((repeat' (exact trivial))))) <;> (apply A.one 2; kernel_rfl; exact rfl; (((apply R.store; (iterate 6 exact rfl); (focus ((repeat' (first | exact Upd.head | apply Upd.tail | apply Upd.right)); done)); exact rfl))); apply R.nil; refine ⟨?_, ?_⟩; (focus ((repeat' (exact trivial))))) <;> (apply A.one 3; kernel_rfl; exact rfl; (((apply R.store; (iterate 4 exact rfl); exact hlenG _ _; exact goC_one hD1 _ _ _ _ _ _; (focus ((repeat' (first | exact Upd.head | apply Upd.tail | apply Upd.right)); done)); exact setE_all (by rw [hlenG]; rfl)))); apply R.nil; refine ⟨?_, ?_⟩; (focus ((repeat' (exact trivial))))) <;> (apply A.take 4; exact rfl; exact rfl; kernel_rfl; kernel_rfl; kernel_rfl; (apply Ok1.assign; exact rfl)) <;> (apply A.done; kernel_rfl))))))))) | apply T.seq | apply T.region | apply T.skip | apply T.ret | (apply T.cond_f; exact rfl)))
  all_goals (apply RetOk.cct; exact rfl; (apply Ld.ownk; exact rfl; exact rfl; (focus ((repeat' (first | exact At.head | apply At.tail | apply At.right)); done)); exact rfl); exact rfl; (apply Ld.ownk; exact rfl; exact rfl; (focus ((repeat' (first | exact At.head | apply At.tail | apply At.right)); done)); exact subE_all (hlenG _ _)); exact rfl)
  all_goals exact ⟨_, by (focus ((repeat' (first | exact Ext.here _ _ | apply Keep.app | apply Keep.last | apply Ext.cons)); done)), ov1, ov2, hov1, hov2, rfl, rfl⟩
end Go.Proofs.YtplhnkmmhndkjaaGreat
set_option linter.unusedSimpArgs false
set_option linter.unusedVariables false
namespace Go.Proofs.YtplhnkmmhndkjaaGreat
open Go.RowKit Go.Shelf
set_option pp.deepTerms.threshold 8
set_option maxRecDepth 100000
theorem flat_byt {α : Type} {f : α → List Int} {l : List α} (h : ∀ a ∈ l, Byt (f a)) : Byt ((l.map f).flatten) := fun x hx => by
  obtain ⟨y, hy, hx⟩ := List.mem_flatten.1 hx
  obtain ⟨a, ha, rfl⟩ := List.mem_map.1 hy
  exact h a ha x hx
theorem rmI_byt {r : Rm} (h : r.chk = 0) : Byt (rmI r) := by
  obtain ⟨_, hk0, hk3, hi0, hi1⟩ := chk_right h
  intro x hx
  rcases List.mem_cons.1 hx with rfl | hx
  · omega
  · rcases List.mem_append.1 hx with hx | hx
    · exact clI_byt _ x hx
    · simp only [List.mem_cons, List.not_mem_nil, or_false] at hx
      rcases hx with rfl | rfl | rfl | rfl <;> omega
theorem gI_byt {xv xp : List Int} {rs : List Rm} {cs : List Cl} (hxb : Byt xp) (hg : gE xv rs cs = 0) : Byt (gI xv xp rs cs) := by
  obtain ⟨_, hl, hrm, hpe, _⟩ := gE_zero hg
  have h16 := (pplE_zero hpe).1
  refine ((encG_byt hxb).app ?_).app ?_
  · intro x hx
    rcases List.mem_cons.1 hx with rfl | hx
    · omega
    · exact flat_byt (fun a ha => rmI_byt (rmE_zero hrm a ha)) x hx
  · intro x hx
    rcases List.mem_cons.1 hx with rfl | hx
    · omega
    · exact flat_byt (fun a _ => clI_byt a) x hx
end Go.Proofs.YtplhnkmmhndkjaaGreat
set_option linter.unusedSimpArgs false
set_option linter.unusedVariables false
namespace Go.Proofs.YtplhnkmmhndkjaaGreat
open Go.ChangeShapes Go.WideShapes Go.ChangeAt Go.RowKit
theorem ownY : ownKnob Tryz.prog.godebug = none := by kernel_rfl
theorem laidY : laidOutB Tryz.prog = true := by kernel_rfl
instance : Inhabited Rm := ⟨⟨0, ⟨0, 0, 0, 0⟩, 0⟩⟩
def rmKs : List TK := [.int .i64, .int .i64, .int .i64, .int .i64, .int .i64, .int .i64]
theorem rm_dec : ∀ cs, allW rmKs cs → ∃ r : Rm, r.v = cs := by
  rintro cs h
  simp only [rmKs] at h
  match cs, h with
  | [.int k1 a, .int k2 b, .int k3 c, .int k4 d, .int k5 e, .int k6 f], h =>
    obtain ⟨⟨rfl, _⟩, ⟨rfl, _⟩, ⟨rfl, _⟩, ⟨rfl, _⟩, ⟨rfl, _⟩, ⟨rfl, _⟩, _⟩ := h
    exact ⟨⟨a, ⟨b, c, d, e⟩, f⟩, rfl⟩

def clKs : List TK := [.int .i64, .int .i64, .int .i64, .int .i64]
theorem cl_dec : ∀ cs, allW clKs cs → ∃ c : Cl, c.v = cs := by
  rintro cs h
  simp only [clKs] at h
  match cs, h with
  | [.int k1 a, .int k2 b, .int k3 c, .int k4 d], h =>
    obtain ⟨⟨rfl, _⟩, ⟨rfl, _⟩, ⟨rfl, _⟩, ⟨rfl, _⟩, _⟩ := h
    exact ⟨⟨a, b, c, d⟩, rfl⟩
section
variable {H : Type} {enc : TypeId × Value → H} {P : Program} {w : World} {base : Nat} {spare : Nat → Bool} {held : Bool}
theorem Opens.argStY {t : TypeId} {r : TRow} {fs : List (Nat × Nat × Nat)} {Q : List Value → Prop} (tb : Tb P) (ht : tb.row t = some r) (hk : r.k = .strct fs) (hE : Opens enc P w base spare held t Q) {v : Value} {d : DataW H} {p : List MemPlace} {rc : Reach} {b0 : Nat} (hv : Value.okWide P w rc b0 t v) (h : DataW.Trod enc P w base spare held t v d p) : ∃ cs, v = .agg ⟨cs⟩ ∧ Q cs := by
  have his := (tb.get ht).is
  rw [hk] at his
  obtain ⟨fields, h1, _⟩ := his
  obtain ⟨cs, rfl, _⟩ := okWide_struct h1 hv
  exact ⟨cs.toList, rfl, hE.arg h⟩
end
/-- Gossip's cells as an argument. -/
def GoC (w : World) (cs : List Value) : Prop := ∃ (xv xp : List Int) (pR pP : Option Addr) (cR cP : Nat) (rs : List Rm) (ps : List Cl), cs = goC (dgV xv xp) (.slice pR rs.length cR) (.slice pP ps.length cP) ∧ xv.length = 4 ∧ xp.length = 8 ∧ Byt xp ∧ RdSl w pR Rm.v rs ∧ RdSl w pP Cl.v ps
theorem go_opens {H : Type} {enc : TypeId × Value → H} {w : World} {base : Nat} {spare : Nat → Bool} {held : Bool} : Opens enc Tryz.prog w base spare held 29 (GoC w) := by
  have h0 := Opens.field (enc := enc) (w := w) (base := base) (spare := spare) (held := held) tb (t := 29) rfl rfl 0 rfl dig_opens
  have h1 := Opens.field (enc := enc) (w := w) (base := base) (spare := spare) (held := held) tb (t := 29) rfl rfl 1 rfl (Opens.slice Rm.v (fun _ => True) tb rfl rfl rfl rfl (fun _ => rfl) ((Opens.flat (ks := rmKs) tb rfl rfl rfl).mono fun cs h => by obtain ⟨r, hr⟩ := rm_dec cs h; exact ⟨r, hr, trivial⟩))
  have h2 := Opens.field (enc := enc) (w := w) (base := base) (spare := spare) (held := held) tb (t := 29) rfl rfl 2 rfl (Opens.slice Cl.v (fun _ => True) tb rfl rfl rfl rfl (fun _ => rfl) ((Opens.flat (ks := clKs) tb rfl rfl rfl).mono fun cs h => by obtain ⟨r, hr⟩ := cl_dec cs h; exact ⟨r, hr, trivial⟩))
  refine ((h0.and h1).and h2).mono ?_
  rintro cs ⟨⟨⟨hl, g0⟩, ⟨_, g1⟩⟩, ⟨_, g2⟩⟩
  obtain ⟨a, rs, cR, e1, hr, _⟩ := g1
  obtain ⟨b, ps, cP, e2, hp, _⟩ := g2
  obtain ⟨xv, xp, e0, hxv, hxp, hxb⟩ := g0
  refine ⟨xv, xp, a, b, cR, cP, rs, ps, ?_, hxv, hxp, hxb, hr, hp⟩
  replace e0 : cs.take 12 = dgV xv xp := e0
  replace e1 : (cs.drop 12).take 1 = [.slice a rs.length cR] := e1
  replace e2 : (cs.drop 13).take 1 = [.slice b ps.length cP] := e2
  replace hl : cs.length = 14 := hl
  have h3 : cs.drop 13 = (cs.drop 13).take 1 := (List.take_of_length_le (by rw [List.length_drop]; omega)).symm
  have h4 : cs.drop 12 = (cs.drop 12).take 1 ++ cs.drop 13 := by
    conv => lhs; rw [← List.take_append_drop 1 (cs.drop 12), List.drop_drop]
  rw [goC, ← e0, ← List.take_append_drop 12 cs]
  conv => lhs; rw [h4, e1, h3, e2]
  rw [List.take_append_drop]
  rfl
end Go.Proofs.YtplhnkmmhndkjaaGreat
