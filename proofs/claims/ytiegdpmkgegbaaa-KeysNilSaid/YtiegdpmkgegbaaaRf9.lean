/- The document's fields and claims as bytes; its secrets and keys. -/
import Derived.Test.YtiegdpmkgegbaaaRf8
import Derived.Test.YtiegdpmkgegbaaaCl1
set_option linter.unusedSimpArgs false
set_option linter.unusedVariables false
namespace Go.Proofs.Ytiegdpmkgegbaaa
open Go.RowKit Go.Shelf
set_option maxRecDepth 100000

theorem vwidth_ok (s : Nat) (h : s ≤ 2) : CallP Try.prog 74 [.int .i64 s] (.int .i64 ((2 ^ s : Nat) : Int)) := by
  have hs : s = 0 ∨ s = 1 ∨ s = 2 := by omega
  refine enterP (tb := tb) Try.func74 rfl Try.ntmps74 rfl fun w => ?_
  rcases hs with rfl | rfl | rfl
  all_goals repeat' (first | (apply R.is1; (apply R.pure; exact rfl; first | (apply Ok1.move; exact rfl) | (apply Ok1.assign; exact rfl) | (apply Ok1.index1; (iterate 6 exact rfl); omega; omega; exact rfl) | (apply Ok1.buildA; (iterate 6 exact rfl)))) | apply R.nil | (apply T.is; first | apply T.seq | apply T.region | apply T.ret))
  all_goals (apply RetOk.t; exact rfl)
  all_goals rfl
def beI : Nat → Int → List Int → List Int
  | 0, _, a => a
  | w + 1, n, a => beI w (n / 256) (n % 256 :: a)
theorem beI_len : ∀ (w : Nat) (n : Int) (a : List Int), (beI w n a).length = w + a.length
  | 0, _, a => by simp [beI]
  | w + 1, n, a => by rw [beI, beI_len w]; simp; omega
theorem vout_ok (s : Nat) (hs : s ≤ 2) (n : Int) (h0 : 0 ≤ n) (h1 : n ≤ 1099511627776) (w : World) : CallM Try.prog 59 [.agg ⟨[.int .i64 s, .int .i64 n, .slice none 0 0]⟩] [] w fun v L => ∃ ov, OvOk 1 ov (2 ^ s) (u8s (beI (2 ^ s) n [])) ∧ v = slV ov (2 ^ s) ∧ L = blkL 5 ov (u8s (beI (2 ^ s) n [])) := by
  have hw := vwidth_ok s hs
  have hs4 : (s : Int) ≠ 4 := by omega
  have hpw : 2 ^ s ≤ 4 := by
    have : s = 0 ∨ s = 1 ∨ s = 2 := by omega
    rcases this with rfl | rfl | rfl <;> decide
  have hbl := beI_len (2 ^ s) n []
  generalize hW : 2 ^ s = W at *
  rw [List.length_nil, Nat.add_zero] at hbl
  obtain ⟨V, hV⟩ : ∃ V, V = beI W n [] := ⟨_, rfl⟩
  rw [← hV] at hbl ⊢
  refine enterK (tb := tb) Try.func59 rfl Try.ntmps59 rfl ?_
  repeat' (first | (apply R.is1; first | (apply R.isBin; (apply R.pure; exact rfl; (apply Ok1.eql_f; exact rfl; exact rfl; omega))) | (apply R.pure; exact rfl; first | (apply Ok1.fieldAddr; (iterate 5 exact rfl)) | (apply Ok1.load; exact rfl; (apply Ld.own1; exact rfl; exact rfl; exact At.head; exact rfl)) | (apply Ok1.assign; exact rfl)) | (apply R.box; (iterate 3 exact rfl); intro)) | apply R.nil | (apply T.is; first | apply T.seq | apply T.region | apply T.block | apply T.skip | (apply T.cond_f; exact rfl)))
  rename_i bF
  apply T.loopK (α := Nat × Ov × List Int × Int) (I := fun y => y.1 ≤ W ∧ y.2.2.1.length = y.1 ∧ OvOk 1 y.2.1 y.2.2.1.length (u8s y.2.2.1) ∧ 0 ≤ y.2.2.2 ∧ y.2.2.2 ≤ 1099511627776 ∧ beI (W - y.1) y.2.2.2 y.2.2.1 = V) (σi := fun y => [(1, .pointer (some ⟨bF, 0, none⟩)), (3, .slice (ovp y.2.1) y.2.2.1.length (ovc y.2.1 y.2.2.1.length)), (4, .int .i64 y.2.2.2), (5, .int .i64 y.1)]) (Li := fun y => (bF, .cells ⟨[.int .i64 s, .int .i64 n, .slice none 0 0]⟩ 112 (0, 0)) :: blkL 5 y.2.1 (u8s y.2.2.1)) (μ := fun y => W - y.1) (i0 := (0, none, [], n))
  · exact ⟨Nat.zero_le _, rfl, OvOk.start 1, h0, h1, hV.symm⟩
  · exact ⟨rfl, rfl, rfl, rfl, trivial⟩
  · (focus ((repeat' (first | exact Keep.nil _ | exact Ext.one _ _ | apply Keep.cons)); done))
  · rintro ⟨i, ov, bs, m⟩ ⟨hi, hl, hov, hm0, hm1, hbe⟩
    simp only at hi hl hov hm0 hm1 hbe ⊢
    rcases Nat.lt_or_ge i W with hlt | hge
    · have hb2 : beI (W - (i + 1)) (m / 256) (m % 256 :: bs) = V := by
        rw [show W - i = (W - (i + 1)) + 1 by omega] at hbe; exact hbe
      repeat' (first | (apply R.is1; first | (apply R.isBin; (apply R.pure; exact rfl; first | (apply Ok1.add64; exact rfl; exact rfl; omega; omega) | (apply Ok1.lss_t; exact rfl; exact rfl; omega) | (apply Ok1.quo64; exact rfl; exact rfl; omega; omega; omega) | (apply Ok1.remN; exact rfl; exact rfl; omega; omega))) | (apply R.isCall; first | apply R.callP rfl rfl rfl hw | (apply R.appendRd (xs := bs) (v := u8V) (sz := 1) (ov := some (_, 0, [])) (n := 1) (old := [.int .u8 (m % 256)]); (iterate 12 exact rfl); exact ⟨rfl, rfl⟩; (focus ((repeat' (exact Ext.one _ _)); done)); exact rfl; exact u8V_len; exact rfl; (intro w1 hw1; exact rdown hov hw1 (Ext.mem (by (focus ((repeat' (first | exact Ext.all _ | apply Ext.cons)); done))))); (focus (rw [fl_u8]; exact u8s_one bs)); omega; intro ov1 hov1 hsome; rw [fl_u8, Nat.add_comm] at hov1; change OvOk 1 ov1 (m % 256 :: bs).length (u8s (m % 256 :: bs)) at hov1; rw [fl_u8])) | (apply R.pure; exact rfl; first | (apply Ok1.move; exact rfl) | (apply Ok1.fieldAddr; (iterate 5 exact rfl)) | (apply Ok1.load; exact rfl; (apply Ld.own1; exact rfl; exact rfl; exact At.head; exact rfl)) | (apply Ok1.assign; exact rfl) | (apply Ok1.convU8; (iterate 5 exact rfl); omega; omega)) | (apply R.buildSlice; (iterate 12 exact rfl); intro)) | apply R.nil | (apply T.is; first | apply T.seq | apply T.region | apply T.block | apply T.skip | (apply T.cond_t; exact rfl)))
      exact ⟨(i + 1, ov1, m % 256 :: bs, m / 256), ⟨by simp only; omega, by simp only [List.length_cons, hl], hov1, by simp only; omega, by simp only; omega, hb2⟩, by simp only; omega, ⟨rfl, by simp only; rw [← slV_eq hov1, List.length_cons, Nat.add_comm]; rfl, rfl, rfl, trivial⟩, by (focus ((repeat' (first | exact Ext.one _ _ | exact Ext.here _ _ | apply Keep.cons | apply Keep.last | apply Ext.app)); done))⟩
    · have he : i = W := by omega
      subst he
      rw [Nat.sub_self] at hbe
      have hbv : bs = V := hbe
      subst hbv
      rw [← slV_eq hov]
      repeat' (first | (apply R.is1; first | (apply R.isBin; (apply R.pure; exact rfl; (apply Ok1.lss_f; exact rfl; exact rfl; omega))) | (apply R.isCall; apply R.callP rfl rfl rfl hw) | (apply R.pure; exact rfl; first | (apply Ok1.move; exact rfl) | (apply Ok1.fieldAddr; (iterate 5 exact rfl)) | (apply Ok1.load; exact rfl; (apply Ld.own1; exact rfl; exact rfl; exact At.head; exact rfl)) | (apply Ok1.assign; exact rfl))) | apply R.nil | (apply T.is; first | apply T.seq | apply T.region | apply T.exit | apply T.ret | (apply T.cond_f; exact rfl)))
      (apply RetOk.t; exact rfl)
      rw [hl] at hov ⊢
      exact ⟨_, by (focus ((repeat' (first | exact Ext.all _ | apply Keep.last | apply Ext.cons)); done)), ov, hov, rfl, rfl⟩
theorem be4 (n : Int) : beI 4 n [] = len4 n := by
  have h2 : n / 256 / 256 = n / 65536 := by omega
  have h3 : n / 65536 / 256 = n / 16777216 := by omega
  simp only [beI, len4, h2, h3]
theorem vcbytes_ok (c : Cl) (hr : c.right) (w : World) : CallM Try.prog 48 [kvC c] [] w fun v L => ∃ ov, OvOk 1 ov 9 (u8s (clI c)) ∧ v = slV ov 9 ∧ L = blkL 5 ov (u8s (clI c)) := by
  unfold Cl.right at hr
  have ho_id := vout_ok 1 (by decide) c.id (by omega) (by omega)
  have ho_exp := vout_ok 2 (by decide) c.exp (by omega) (by omega)
  have ho_ser := vout_ok 1 (by decide) c.ser (by omega) (by omega)
  simp only [show 2 ^ 1 = 2 from rfl] at ho_id ho_ser
  simp only [show 2 ^ 2 = 4 from rfl] at ho_exp
  have hcl : u8s (clI c) = u8s (beI 2 c.id []) ++ [.int .u8 c.roles] ++ u8s (beI 4 c.exp []) ++ u8s (beI 2 c.ser []) := by
    rw [be4]
    have : c.roles % 256 = c.roles := by omega
    unfold clI numI
    simp only [this, u8s_app]
    rfl
  refine enterK (tb := tb) Try.func48 rfl Try.ntmps48 rfl ?_
  simp only [kvC]
  repeat' (first | (apply R.is1; first | (apply R.isCall; first | (apply R.callE (vs := [.agg ⟨[.int .i64 1, .int .i64 c.id, .slice none 0 0]⟩]); (iterate 3 exact rfl); exact Ext.none _; intro w1 hw1; exact ho_id w1; rintro v Lo ⟨ov1, hov1, rfl, rfl⟩) | (apply R.callE (vs := [.agg ⟨[.int .i64 2, .int .i64 c.exp, .slice none 0 0]⟩]); (iterate 3 exact rfl); exact Ext.none _; intro w1 hw1; exact ho_exp w1; rintro v Lo ⟨ov3, hov3, rfl, rfl⟩; rw [slV_eq hov3]) | (apply R.callE (vs := [.agg ⟨[.int .i64 1, .int .i64 c.ser, .slice none 0 0]⟩]); (iterate 3 exact rfl); exact Ext.none _; intro w1 hw1; exact ho_ser w1; rintro v Lo ⟨ov5, hov5, rfl, rfl⟩; rw [slV_eq hov5]) | (apply R.append1; (iterate 12 exact rfl); (focus ((repeat' (first | exact OwnAt.mid hov1 | apply OwnAt.tail)); done)); exact At.head; exact rfl; exact rfl; omega; omega; intro b2 j2 k2 hj2) | (apply R.appendRd (xs := beI 4 c.exp []) (v := u8V) (sz := 1) (ov := some (b2, j2, k2)) (n := 2 + 1) (old := u8s (beI 2 c.id []) ++ [.int .u8 c.roles]); (iterate 12 exact rfl); exact hov1.some (b := b2) (ys := [.int .u8 c.roles]) (m := 1) rfl hj2; (focus ((repeat' (first | exact Ext.one _ _ | apply Ext.app)); done)); exact rfl; exact u8V_len; exact rfl; (intro w1 hw1; exact rdown hov3 hw1 (Ext.mem (by (focus ((repeat' (exact Ext.here _ _)); done))))); (focus (rw [fl_u8]; exact u8s_one _)); omega; intro ov4 hov4 _; rw [fl_u8] at hov4; rw [fl_u8]) | (apply R.appendRd (xs := beI 2 c.ser []) (v := u8V) (sz := 1) (ov := ov4) (n := 2 + 1 + 4) (old := u8s (beI 2 c.id []) ++ [.int .u8 c.roles] ++ u8s (beI 4 c.exp [])); (iterate 12 exact rfl); exact hov4; (focus ((repeat' (first | exact Ext.here _ _ | apply Ext.app)); done)); exact rfl; exact u8V_len; exact rfl; (intro w1 hw1; exact rdown hov5 hw1 (Ext.mem (by (focus ((repeat' (exact Ext.here _ _)); done))))); (focus (rw [fl_u8]; exact u8s_one _)); omega; intro ov6 hov6 _; rw [fl_u8] at hov6; rw [fl_u8])) | (apply R.pure; exact rfl; first | (apply Ok1.move; exact rfl) | (apply Ok1.fieldAddr; (iterate 5 exact rfl)) | (apply Ok1.load; exact rfl; (apply Ld.own1; exact rfl; exact rfl; (focus ((repeat' (first | exact At.head | apply At.tail | apply At.right)); done)); exact rfl)) | (apply Ok1.assign; exact rfl) | (apply Ok1.build; (iterate 5 exact rfl)) | (apply Ok1.convU8; (iterate 5 exact rfl); omega; omega)) | (apply R.box; (iterate 3 exact rfl); intro) | (apply R.buildSlice; (iterate 12 exact rfl); intro)) | apply R.nil | (apply T.is; first | apply T.seq | apply T.region | apply T.ret))
  (apply RetOk.t; exact rfl)
  rw [← hcl] at hov6 ⊢
  exact ⟨_, by (focus ((repeat' (first | exact Ext.here _ _ | apply Keep.last)); done)), ov6, hov6, rfl, rfl⟩
end Go.Proofs.Ytiegdpmkgegbaaa
