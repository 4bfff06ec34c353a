/- The statement KeysDerive: its walk, the head. -/
import Derived.Test.YtiegdpmkgegbaaaDe1
import Derived.Test.YtiegdpmkgegbaaaL07x
set_option linter.unusedSimpArgs false
set_option linter.unusedVariables false
namespace Go.Proofs.Ytiegdpmkgegbaaa
open Go.RowKit Go.Shelf
set_option maxRecDepth 100000

theorem labelG (bk : Nat) (k : List Int) (hkl : k.length ≤ 999999000) (hkb : Byt k) (n : Int) (w : World) (hk : KeyR w bk k) :
    CallM Try.prog 21 [.pointer (some ⟨bk, 0, none⟩), .int .i64 n] [] w fun v L => ∃ a e, v = .tuple #[a, .int .i64 e] ∧ GR (0 ≤ n ∧ n ≤ 7) (labelI k n) a e L := by
  by_cases h : 0 ≤ n ∧ n ≤ 7
  · exact (label_ok bk k hkl hkb n h.1 h.2 w hk).imp fun v L ⟨b, ov, h1, h2, h3⟩ => ⟨_, _, h1, .inl ⟨h, rfl, b, ov, h2, rfl, h3⟩⟩
  · exact ((label_off bk n (by omega)).w w).m.imp fun v L ⟨h1, h2⟩ => ⟨_, _, h1, .inr ⟨h, rfl, rfl, h2⟩⟩
theorem derive8 (p : Option Addr) (n cap : Nat) (k : List Int) (hn : n = k.length) (hkl : n ≤ 999999000) (hkb : Byt k) (tv : List Value) (htv : tv = tabV) (c : Cl) (v seed role : Int) (W : World) (hp : RdSl W p u8V k) (bt b6 : Nat) (a b l : Value) (e f g : Int) (La Lb Ll : Lst)
    (hl : GR (0 ≤ role ∧ role ≤ 7) (labelI k role) l g Ll)
    (hQ : T ⟨Try.prog, tb, 208, W, []⟩ (cR (cR (cR (cR (cR (cR (cR (cR (cR (cR (codeOf Try.f4))))))))))) (retQ ⟨Try.prog, tb, 208, W, []⟩ Try.f4.results.toList fun x _ => x = .bool true)
      [(0, .slice p n cap), (2, .int .i64 v), (3, .int .i64 seed), (6, .pointer (some ⟨b6, 0, none⟩)), (12, .pointer (some ⟨bt, 0, none⟩)), (13, a), (14, .int .i64 e), (15, b), (16, .int .i64 f)] ((bt, .cells ⟨tv⟩ 35 (0, 0)) :: (b6, .cells ⟨[.int .i64 c.id, .int .i64 c.roles, .int .i64 c.exp, .int .i64 c.ser]⟩ 24 (0, 0)) :: (La ++ Lb))) :
    T ⟨Try.prog, tb, 208, W, []⟩ (cR (cR (cR (cR (cR (cR (cR (cR (codeOf Try.f4))))))))) (retQ ⟨Try.prog, tb, 208, W, []⟩ Try.f4.results.toList fun x _ => x = .bool true)
      [(0, .slice p n cap), (2, .int .i64 v), (3, .int .i64 seed), (4, .int .i64 role), (6, .pointer (some ⟨b6, 0, none⟩)), (12, .pointer (some ⟨bt, 0, none⟩)), (13, a), (14, .int .i64 e), (15, b), (16, .int .i64 f), (17, l), (18, .int .i64 g), (20, .int .i64 1)] ((bt, .cells ⟨tv⟩ 35 (0, 0)) :: (b6, .cells ⟨[.int .i64 c.id, .int .i64 c.roles, .int .i64 c.exp, .int .i64 c.ser]⟩ 24 (0, 0)) :: (La ++ (Lb ++ Ll))) := by
  have htl : tv.length = 72 := by rw [htv]; exact tab_len
  rcases hl with ⟨⟨h0, h7⟩, rfl, bl, ovl, hovl, rfl, rfl⟩ | ⟨hin, rfl, rfl, rfl⟩
  · have hvl := fun w1 (hc : Chg [] W w1) => vlabel_ok p n cap k hn hkl hkb role h0 h7 w1 (hp.chg' hc (fun _ => Off.nil _))
    rw [← htv] at hvl
    clear htv
    have hal : (labelI k role).length = 32 := derive_len _ _ _
    generalize labelI k role = ka at *
    have hlk : (u8s ka).length = 32 := by rw [u8s_len, hal]
    have hko := u8s_one ka
    have hqq : decide (ka = ka) = true := decide_eq_true rfl
    repeat' (first | (apply R.is1; first | (apply R.isBin; (apply R.pure; exact rfl; first | (apply Ok1.neqB; (iterate 4 exact rfl)) | (apply Ok1.lss_t; exact rfl; exact rfl; omega) | (apply Ok1.geq_t; exact rfl; exact rfl; omega) | (apply Ok1.eql_t; exact rfl; exact rfl; omega) | (apply Ok1.neq_f; exact rfl; exact rfl; omega))) | (apply R.isCall; (apply R.callV (vs := [.agg ⟨tv⟩, .slice p n cap, .int .i64 role]); (iterate 3 exact rfl); intro w1 hw1; exact hvl w1 hw1.chg)) | (apply R.pure; exact rfl; first | (apply Ok1.load; exact rfl; apply Ld.ownk; exact rfl; exact rfl; exact At.head; exact subE_all htl) | (apply Ok1.move; exact rfl) | (apply Ok1.pick_t; exact rfl; exact rfl) | (apply Ok1.pick_f; exact rfl; exact rfl)) | (apply R.alloc; (iterate 3 exact rfl); intro)) | (apply R.is0; (apply R.store; (iterate 4 exact rfl); exact hlk; exact hko; exact Upd.head; exact setE_all hlk)) | (apply R.isG; first | (apply R.guard_run; exact rfl; exact rfl) | (apply R.guard_not; (iterate 3 exact rfl))) | apply R.nil | (apply T.is; first | (apply T.halt 14) | (apply T.drawC (id := 12) [0] (by decide); ((apply A.take 0; exact rfl; exact rfl; kernel_rfl; kernel_rfl; kernel_rfl; (apply Ok1.move; exact rfl)) <;> (apply A.take 2; exact rfl; exact rfl; kernel_rfl; kernel_rfl; kernel_rfl; (apply Ok1.sliceArr; (iterate 4 exact rfl))) <;> (apply A.one 1; kernel_rfl; exact rfl; (((apply R.callE (vs := [.pointer (some ⟨bl, 0, none⟩)]); (iterate 3 exact rfl); exact Ext.none _; intro w1 hw1; exact bytes_ok bl ka (by omega) w1 (KeyR.of (by rw [hal]; exact hovl) hw1 (Ext.mem (by (focus ((repeat' (first | exact Ext.all _ | apply Ext.cons | apply Ext.app)); done))))); rw [hal]; rintro v Lo ⟨oA, hoA, rfl, rfl⟩; rw [slV_eq hoA]))); apply R.nil; refine ⟨?_, ?_⟩; (focus ((repeat' (first | exact trivial | (refine ⟨?_, ?_⟩; (focus ((repeat' (first | exact At.head | apply At.right)); done)))))))) <;> (apply A.one 3; kernel_rfl; exact rfl; (((apply R.callV (vs := [.slice (ovp oA) 32 (ovc oA 32), .slice (some ⟨_, 0, none⟩) 32 32]); (iterate 3 exact rfl); intro w1 hw1; have h9 := same_ok (ovp oA) (some ⟨_, 0, none⟩) 32 32 (ovc oA 32) 32 ka ka hal.symm hal.symm (by decide) w1 (rdown (by rw [hal]; exact hoA) hw1 (Ext.mem (by (focus ((repeat' (exact Ext.here _ _)); done))))) (RdSl.of (junk := []) hw1 (by (focus ((repeat' (first | exact At.head | apply At.right)); done))) (by rw [fl_u8, List.append_nil])); rw [hqq] at h9; exact h9))); apply R.nil; refine ⟨?_, ?_⟩; (focus ((repeat' (first | exact trivial | (refine ⟨?_, ?_⟩; (focus ((repeat' (first | exact At.head | apply At.right)); done)))))))) <;> (apply A.take 4; exact rfl; exact rfl; kernel_rfl; kernel_rfl; kernel_rfl; (apply Ok1.not_t; exact rfl)) <;> (apply A.done; kernel_rfl))) | apply T.seq | apply T.region | apply T.skip | (apply T.cond_t; exact rfl) | (apply T.cond_f; exact rfl)))
    refine ⟨?_⟩
    apply T.weakK hQ
    · (focus ((repeat' (first | exact Ext.one _ _ | exact Ext.here _ _ | apply Keep.cons | apply Keep.app | apply Keep.last | apply Ext.cons | apply Ext.app)); done))
    · exact ⟨rfl, rfl, rfl, rfl, rfl, rfl, rfl, rfl, rfl, trivial⟩
  · rcases Int.lt_or_le role 0 with hlt | hge
    · repeat' (first | (apply R.is1; first | (apply R.isBin; (apply R.pure; exact rfl; first | (apply Ok1.neqB; (iterate 4 exact rfl)) | (apply Ok1.geq_f; exact rfl; exact rfl; omega) | (apply Ok1.eql_f; exact rfl; exact rfl; omega) | (apply Ok1.neq_t; exact rfl; exact rfl; omega) | (apply Ok1.neq_f; exact rfl; exact rfl; omega))) | (apply R.pure; exact rfl; first | (apply Ok1.move; exact rfl) | (apply Ok1.pick_t; exact rfl; exact rfl) | (apply Ok1.pick_f; exact rfl; exact rfl))) | (apply R.isG; first | (apply R.guard_run; exact rfl; exact rfl) | (apply R.guard_not; (iterate 3 exact rfl))) | apply R.nil | (apply T.is; first | (apply T.halt 14) | apply T.seq | apply T.region | apply T.skip | (apply T.cond_f; exact rfl)))
      refine ⟨?_⟩
      apply T.weakK hQ
      · (focus ((repeat' (first | exact Ext.one _ _ | exact Ext.here _ _ | apply Keep.cons | apply Keep.app | apply Keep.last)); done))
      · exact ⟨rfl, rfl, rfl, rfl, rfl, rfl, rfl, rfl, rfl, trivial⟩
    · have hgt : 8 ≤ role := by omega
      repeat' (first | (apply R.is1; first | (apply R.isBin; (apply R.pure; exact rfl; first | (apply Ok1.neqB; (iterate 4 exact rfl)) | (apply Ok1.lss_f; exact rfl; exact rfl; omega) | (apply Ok1.geq_t; exact rfl; exact rfl; omega) | (apply Ok1.eql_f; exact rfl; exact rfl; omega) | (apply Ok1.neq_t; exact rfl; exact rfl; omega) | (apply Ok1.neq_f; exact rfl; exact rfl; omega))) | (apply R.pure; exact rfl; first | (apply Ok1.move; exact rfl) | (apply Ok1.pick_t; exact rfl; exact rfl) | (apply Ok1.pick_f; exact rfl; exact rfl))) | (apply R.isG; (apply R.guard_run; exact rfl; exact rfl)) | apply R.nil | (apply T.is; first | (apply T.halt 14) | apply T.seq | apply T.region | apply T.skip | (apply T.cond_f; exact rfl)))
      refine ⟨?_⟩
      apply T.weakK hQ
      · (focus ((repeat' (first | exact Ext.one _ _ | exact Ext.here _ _ | apply Keep.cons | apply Keep.app | apply Keep.last)); done))
      · exact ⟨rfl, rfl, rfl, rfl, rfl, rfl, rfl, rfl, rfl, trivial⟩
theorem cutd (p : Option Addr) (xs : List Int) (W : World) (hb : Byt xs) (hp : RdSl W p u8V xs) : (xs.take 70).length = min xs.length 70 ∧ Byt (xs.take 70) ∧ RdSl W p u8V (xs.take 70) := ⟨by rw [List.length_take]; omega, hb.take _, hp.pre u8V_len 70⟩
theorem derive_all (p : Option Addr) (n cap : Nat) (xs : List Int) (hn : n = xs.length) (hcap : n ≤ cap) (hb : Byt xs) (c : Cl) (v seed role : Int) (W : World) (hp : RdSl W p u8V xs) :
    CallW Try.prog 4 [.slice p n cap, kvC c, .int .i64 v, .int .i64 seed, .int .i64 role] W fun x _ => x = .bool true := by
  subst hn
  obtain ⟨hkl, hkb, hkp⟩ := cutd p xs W hb hp
  have hcut := cut_ok p xs.length cap 70 hcap
  have hmin : min xs.length 70 ≤ 70 := by omega
  have hrc := right_ok c.id c.roles c.exp c.ser
  generalize hkk : xs.take 70 = k at *
  generalize hnn : min xs.length 70 = n at *
  have hkn := known_ok
  have hnw := fun w1 (hc : Chg [] W w1) => new_ok p n cap k hkl.symm (by omega) w1 (hkp.chg' hc (fun _ => Off.nil _))
  have hlb := fun bk w1 hk => labelG bk k (by omega) hkb role w1 hk
  have hln := label_nil role
  have hmk := vmake_ok
  have htl := tab_len
  have hto : tabV.all Value.oneCell' = true := rfl
  have h8 := fun tv htv => derive8 p n cap k hkl.symm (by omega) hkb tv htv c v seed role W hkp
  have h14 := fun tv htv hr => derive14 p n cap k hkl.symm (by omega) hkb tv htv c hr v seed W hkp
  obtain ⟨tv, htv⟩ : ∃ tv, tv = tabV := ⟨_, rfl⟩
  replace h8 := h8 tv htv
  replace h14 := h14 tv htv
  rw [← htv] at hmk htl hto
  clear htv
  by_cases hr : c.right
  · rw [decide_eq_true hr] at hrc
    replace h14 := h14 hr
    have hga := fun bk w1 hk => grantG bk k (by omega) hkb c hr v w1 hk
    have hgb := fun bk w1 hk => memberG bk k (by omega) hkb c hr seed w1 hk
    refine enterW (tb := tb) Try.func4 rfl Try.ntmps4 rfl ?_
    simp only [kvC] at hga hgb ⊢
    repeat' (first | (apply R.is1; first | (apply R.isCall; first | apply R.callP rfl rfl rfl hcut | (apply R.callE (vs := [.slice p n cap]); (iterate 3 exact rfl); exact Ext.none _; intro w1 hw1; exact hnw w1 hw1.chg; rintro x Lo ⟨bk, ov, rfl, hov, hsm, rfl⟩; clear hsm) | apply R.callP rfl rfl rfl hmk | apply R.callP rfl rfl rfl (to5_ok _ _ _ _) | (apply R.callE (vs := [.pointer (some ⟨bk, 0, none⟩), .agg ⟨[.int .i64 c.id, .int .i64 c.roles, .int .i64 c.exp, .int .i64 c.ser]⟩, .int .i64 v]); (iterate 3 exact rfl); exact Ext.none _; intro w1 hw1; exact hga bk w1 (KeyR.of hov hw1 (Ext.mem (by (focus ((repeat' (first | exact Ext.here _ _ | apply Ext.cons)); done))))); rintro x La ⟨a, e, rfl, ha⟩; clear hga) | (apply R.callE (vs := [.pointer (some ⟨bk, 0, none⟩), .agg ⟨[.int .i64 c.id, .int .i64 c.roles, .int .i64 c.exp, .int .i64 c.ser]⟩, .int .i64 seed]); (iterate 3 exact rfl); exact Ext.none _; intro w1 hw1; exact hgb bk w1 (KeyR.of hov hw1 (Ext.mem (by (focus ((repeat' (first | exact Ext.here _ _ | apply Ext.cons | apply Ext.app)); done))))); rintro x Lb ⟨b, f, rfl, hb⟩; clear hgb) | apply R.callP rfl rfl rfl hln | (apply R.callE (vs := [.pointer (some ⟨bk, 0, none⟩), .int .i64 role]); (iterate 3 exact rfl); exact Ext.none _; intro w1 hw1; exact hlb bk w1 (KeyR.of hov hw1 (Ext.mem (by (focus ((repeat' (first | exact Ext.here _ _ | apply Ext.cons | apply Ext.app)); done))))); rintro x Ll ⟨l, g, rfl, hl⟩)) | (apply R.pure; exact rfl; first | (apply Ok1.move; exact rfl) | (apply Ok1.load; exact rfl; (apply Ld.ownk; exact rfl; exact rfl; (focus ((repeat' (first | exact At.head | apply At.tail | apply At.right)); done)); exact rfl)) | (apply Ok1.assign; exact rfl) | (apply Ok1.extract; exact rfl; exact rfl)) | (apply R.box; (iterate 3 exact rfl); intro) | (apply R.alloc; (iterate 3 exact rfl); intro)) | (apply R.is0; (apply R.store; (iterate 4 exact rfl); exact htl; exact hto; exact Upd.head; exact setE_all htl)) | apply R.nil | (apply T.is; first | (apply T.halt 8) | apply T.seq | apply T.region))
    rename_i b6 bt
    refine ⟨?_⟩
    apply T.weakK (h8 bt b6 a b l e f g La Lb Ll hl (h14 bt b6 a b e f La Lb ha hb))
    · (focus ((repeat' (first | exact Ext.one _ _ | exact Ext.here _ _ | apply Keep.cons | apply Keep.app | apply Keep.last | apply Ext.cons | apply Ext.app)); done))
    · exact ⟨rfl, rfl, rfl, rfl, rfl, rfl, rfl, rfl, rfl, rfl, rfl, rfl, rfl, trivial⟩
  · rw [decide_eq_false hr] at hrc
    have hga := fun bk => grant_bad bk c hr v
    have hgb := fun bk => member_bad bk c hr seed
    refine enterW (tb := tb) Try.func4 rfl Try.ntmps4 rfl ?_
    simp only [kvC] at hga hgb ⊢
    repeat' (first | (apply R.is1; first | (apply R.isCall; first | apply R.callP rfl rfl rfl hcut | (apply R.callE (vs := [.slice p n cap]); (iterate 3 exact rfl); exact Ext.none _; intro w1 hw1; exact hnw w1 hw1.chg; rintro x Lo ⟨bk, ov, rfl, hov, hsm, rfl⟩; clear hsm) | apply R.callP rfl rfl rfl hmk | apply R.callP rfl rfl rfl (to5_ok _ _ _ _) | apply R.callP rfl rfl rfl (hga bk) | apply R.callP rfl rfl rfl (hgb bk) | apply R.callP rfl rfl rfl hln | (apply R.callE (vs := [.pointer (some ⟨bk, 0, none⟩), .int .i64 role]); (iterate 3 exact rfl); exact Ext.none _; intro w1 hw1; exact hlb bk w1 (KeyR.of hov hw1 (Ext.mem (by (focus ((repeat' (first | exact Ext.here _ _ | apply Ext.cons)); done))))); rintro x Ll ⟨l, g, rfl, hl⟩)) | (apply R.pure; exact rfl; first | (apply Ok1.move; exact rfl) | (apply Ok1.load; exact rfl; (apply Ld.ownk; exact rfl; exact rfl; (focus ((repeat' (first | exact At.head | apply At.tail | apply At.right)); done)); exact rfl)) | (apply Ok1.assign; exact rfl) | (apply Ok1.extract; exact rfl; exact rfl)) | (apply R.box; (iterate 3 exact rfl); intro) | (apply R.alloc; (iterate 3 exact rfl); intro)) | (apply R.is0; (apply R.store; (iterate 4 exact rfl); exact htl; exact hto; exact Upd.head; exact setE_all htl)) | apply R.nil | (apply T.is; first | (apply T.halt 8) | apply T.seq | apply T.region))
    rename_i b6 bt
    refine ⟨?_⟩
    have h9 := h8 bt b6 (.pointer none) (.pointer none) l 10 10 g [] [] Ll hl ?_
    · apply T.weakK h9
      · (focus ((repeat' (first | exact Ext.one _ _ | exact Ext.here _ _ | exact Ext.all _ | apply Keep.cons | apply Keep.app | apply Keep.last | apply Ext.cons | apply Ext.app)); done))
      · exact ⟨rfl, rfl, rfl, rfl, rfl, rfl, rfl, rfl, rfl, rfl, rfl, rfl, rfl, trivial⟩
    · repeat' (first | (apply R.is1; first | (apply R.isBin; (apply R.pure; exact rfl; first | (apply Ok1.eql_t; exact rfl; exact rfl; omega) | (apply Ok1.eqlP; (iterate 5 exact rfl)))) | (apply R.isCall; first | apply R.callP rfl rfl rfl hrc | apply R.callP rfl rfl rfl hkn) | (apply R.pure; exact rfl; first | (apply Ok1.move; exact rfl) | (apply Ok1.load; exact rfl; (apply Ld.ownk; exact rfl; exact rfl; (focus ((repeat' (first | exact At.head | apply At.tail)); done)); exact rfl)) | (apply Ok1.assign; exact rfl) | (apply Ok1.pick_t; exact rfl; exact rfl) | (apply Ok1.not_f; exact rfl))) | (apply R.isG; (apply R.guard_run; exact rfl; exact rfl)) | apply R.nil | (apply T.is; first | apply T.seq | apply T.region | apply T.ret | (apply T.cond_t; exact rfl)))
      all_goals (apply RetOk.t; exact rfl)
      all_goals rfl
end Go.Proofs.Ytiegdpmkgegbaaa
