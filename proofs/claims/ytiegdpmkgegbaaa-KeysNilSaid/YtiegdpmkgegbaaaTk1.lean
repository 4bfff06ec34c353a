/- Contracts of token: Make, Key. -/
import Derived.Test.YtiegdpmkgegbaaaMc4
import Derived.Test.YtiegdpmkgegbaaaCl1
set_option linter.unusedSimpArgs false
set_option linter.unusedVariables false
namespace Go.Proofs.Ytiegdpmkgegbaaa
open Go.RowKit Go.Shelf
set_option maxRecDepth 100000

def sTok : ByteArray := ⟨#[116, 111, 107, 101, 110]⟩
def secretI (k : List Int) (c : Cl) : List Int := deriveI k sTok [clI c]
def clC (c : Cl) : List Value := [.int .i64 c.id, .int .i64 c.roles, .int .i64 c.exp, .int .i64 c.ser]
def tkC (c : Cl) (s : List Int) : List Value := clC c ++ u8s s
def zI (n : Nat) : List Int := List.replicate n 0
theorem clBytes_bad (c : Cl) (hr : ¬ c.right) : CallP Try.prog 53 [kvC c] (.tuple #[.slice none 0 0, .int .i64 10]) := by
  have hck := check_ok c.id c.roles c.exp c.ser
  rw [if_neg hr] at hck
  refine enterP (tb := tb) Try.func53 rfl Try.ntmps53 rfl fun w0 => ?_
  simp only [kvC]
  repeat' (first | (apply R.is1; first | (apply R.isBin; (apply R.pure; exact rfl; (apply Ok1.neq_t; exact rfl; exact rfl; omega))) | (apply R.isCall; apply R.callP rfl rfl rfl hck) | (apply R.pure; exact rfl; first | (apply Ok1.move; exact rfl) | (apply Ok1.load; exact rfl; (apply Ld.ownk; exact rfl; exact rfl; exact At.head; exact rfl)) | (apply Ok1.assign; exact rfl)) | (apply R.box; (iterate 3 exact rfl); intro)) | apply R.nil | (apply T.is; first | apply T.seq | apply T.region | apply T.ret | (apply T.cond_t; exact rfl)))
  all_goals (apply RetOk.tt; exact rfl; exact rfl)
  all_goals rfl
theorem make_nil (c : Cl) : CallP Try.prog 40 [.pointer none, kvC c] (.tuple #[.agg ⟨tkC ⟨0, 0, 0, 0⟩ (zI 32)⟩, .int .i64 1]) := by
  refine enterP (tb := tb) Try.func40 rfl Try.ntmps40 rfl fun w0 => ?_
  simp only [kvC]
  repeat' (first | (apply R.is1; first | (apply R.isBin; (apply R.pure; exact rfl; (apply Ok1.eqlP; (iterate 5 exact rfl)))) | (apply R.pure; exact rfl; first | (apply Ok1.move; exact rfl) | (apply Ok1.assign; exact rfl) | (apply Ok1.build; (iterate 5 exact rfl))) | (apply R.box; (iterate 3 exact rfl); intro) | (apply R.alloc; (iterate 3 exact rfl); intro)) | (apply R.is0; (apply R.store; (iterate 6 exact rfl); exact Upd.head; exact rfl)) | apply R.nil | (apply T.is; first | apply T.seq | apply T.region | apply T.ret | (apply T.cond_t; exact rfl)))
  all_goals (apply RetOk.ct; exact rfl; ((apply Ld.ownk; exact rfl; exact rfl; exact At.head; exact rfl)); exact rfl)
  all_goals rfl
theorem make_bad (c : Cl) (hr : ¬ c.right) (bk : Nat) : CallP Try.prog 40 [.pointer (some ⟨bk, 0, none⟩), kvC c] (.tuple #[.agg ⟨tkC ⟨0, 0, 0, 0⟩ (zI 32)⟩, .int .i64 10]) := by
  have hb := clBytes_bad c hr
  refine enterP (tb := tb) Try.func40 rfl Try.ntmps40 rfl fun w0 => ?_
  simp only [kvC] at hb ⊢
  repeat' (first | (apply R.is1; first | (apply R.isBin; (apply R.pure; exact rfl; first | (apply Ok1.neq_t; exact rfl; exact rfl; omega) | (apply Ok1.eqlP; (iterate 5 exact rfl)))) | (apply R.isCall; apply R.callP rfl rfl rfl hb) | (apply R.pure; exact rfl; first | (apply Ok1.move; exact rfl) | (apply Ok1.load; exact rfl; (apply Ld.ownk; exact rfl; exact rfl; (focus ((repeat' (first | exact At.head | apply At.tail)); done)); exact rfl)) | (apply Ok1.assign; exact rfl) | (apply Ok1.build; (iterate 5 exact rfl)) | (apply Ok1.extract; exact rfl; exact rfl)) | (apply R.box; (iterate 3 exact rfl); intro) | (apply R.alloc; (iterate 3 exact rfl); intro)) | (apply R.is0; (apply R.store; (iterate 6 exact rfl); exact Upd.head; exact rfl)) | apply R.nil | (apply T.is; first | apply T.seq | apply T.region | apply T.skip | apply T.ret | (apply T.cond_t; exact rfl) | (apply T.cond_f; exact rfl)))
  all_goals (apply RetOk.ct; exact rfl; ((apply Ld.ownk; exact rfl; exact rfl; exact At.head; exact rfl)); exact rfl)
  all_goals rfl
theorem list32 {α : Type} : ∀ (l : List α), l.length = 32 → ∃ x0 x1 x2 x3 x4 x5 x6 x7 x8 x9 x10 x11 x12 x13 x14 x15 x16 x17 x18 x19 x20 x21 x22 x23 x24 x25 x26 x27 x28 x29 x30 x31, l = [x0, x1, x2, x3, x4, x5, x6, x7, x8, x9, x10, x11, x12, x13, x14, x15, x16, x17, x18, x19, x20, x21, x22, x23, x24, x25, x26, x27, x28, x29, x30, x31] := by
  intro l h
  match l, h with
  | [x0, x1, x2, x3, x4, x5, x6, x7, x8, x9, x10, x11, x12, x13, x14, x15, x16, x17, x18, x19, x20, x21, x22, x23, x24, x25, x26, x27, x28, x29, x30, x31], _ => exact ⟨x0, x1, x2, x3, x4, x5, x6, x7, x8, x9, x10, x11, x12, x13, x14, x15, x16, x17, x18, x19, x20, x21, x22, x23, x24, x25, x26, x27, x28, x29, x30, x31, rfl⟩
theorem fill_tk (a b : Nat) (c : Cl) (d : List Int) (hd : d.length = 32) : fillE (fldPl [(a, 0, 4), (b, 4, 32)]) (tkC ⟨0, 0, 0, 0⟩ (zI 32)) [(0, .agg ⟨clC c⟩), (1, .agg ⟨u8s d⟩)] = some (tkC c d) := by
  obtain ⟨x0, x1, x2, x3, x4, x5, x6, x7, x8, x9, x10, x11, x12, x13, x14, x15, x16, x17, x18, x19, x20, x21, x22, x23, x24, x25, x26, x27, x28, x29, x30, x31, rfl⟩ := list32 d hd
  rfl
theorem secret_len (k : List Int) (c : Cl) : (secretI k c).length = 32 := derive_len _ _ _
theorem secret_byt (k : List Int) (c : Cl) : Byt (secretI k c) := derive_byt _ _ _
theorem make_ok (c : Cl) (hr : c.right) (bk : Nat) (k : List Int) (hkl : k.length ≤ 999999000) (hkb : Byt k) (w : World) (hk : KeyR w bk k) : CallW Try.prog 40 [.pointer (some ⟨bk, 0, none⟩), kvC c] w fun v _ => v = .tuple #[.agg ⟨tkC c (secretI k c)⟩, .int .i64 0] := by
  have hcb := clBytes_ok c hr
  have hdl := secret_len k c
  have hdd : secretI k c = deriveI k sTok [clI c] := rfl
  have hcl := clI_len c
  have hcy := clI_byt c
  have hfl : (frameI [strI sTok, clI c]).length = 22 := rfl
  have hst : sTok.size = 5 := rfl
  generalize hsec : secretI k c = d at *
  generalize clI c = cb at *
  have hls : (u8s d).length = 32 := by rw [u8s_len, hdl]
  have htl : (tkC c d).length = 36 := by simp [tkC, clC, hls]
  have hto : (tkC c d).all Value.oneCell' = true := by simp only [tkC, List.all_append, u8s_one, Bool.and_true]; rfl
  have hfill := fun a b => fill_tk a b c d hdl
  refine enterW (tb := tb) Try.func40 rfl Try.ntmps40 rfl ?_
  simp only [kvC]
  repeat' (first | (apply R.is1; first | (apply R.isBin; (apply R.pure; exact rfl; first | (apply Ok1.neq_f; exact rfl; exact rfl; omega) | (apply Ok1.eqlP; (iterate 5 exact rfl)))) | (apply R.isCall; (apply R.callE (vs := [.agg ⟨[.int .i64 c.id, .int .i64 c.roles, .int .i64 c.exp, .int .i64 c.ser]⟩]); (iterate 3 exact rfl); exact Ext.none _; intro w1 hw1; exact hcb w1; rintro v Lo ⟨ov, hov, rfl, rfl⟩; rw [slV_eq hov]; obtain ⟨b9, j9, k9, rfl⟩ := ovsome hov (by decide); simp only [blkL, List.cons_append, List.nil_append])) | (apply R.pure; exact rfl; first | (apply Ok1.move; exact rfl) | (apply Ok1.load; exact rfl; (apply Ld.ownk; exact rfl; exact rfl; (focus ((repeat' (first | exact At.head | apply At.tail)); done)); exact rfl)) | (apply Ok1.assign; exact rfl) | (apply Ok1.extract; exact rfl; exact rfl)) | (apply R.box; (iterate 3 exact rfl); intro) | (apply R.alloc; (iterate 3 exact rfl); intro)) | apply R.nil | (apply T.is; first | apply T.seq | apply T.region | apply T.skip | (apply T.cond_f; exact rfl)))
  simp only [ovp, ovc]
  apply T.drawC (id := 6) [2] (by decide)
  (apply A.take 0; exact rfl; exact rfl; kernel_rfl; kernel_rfl; kernel_rfl; (apply Ok1.load; exact rfl; (apply Ld.ownk; exact rfl; exact rfl; exact At.head; exact rfl)))
    <;> (apply A.take 1; exact rfl; exact rfl; kernel_rfl; kernel_rfl; kernel_rfl; (apply Ok1.move; exact rfl))
    <;> (apply A.take 2; exact rfl; exact rfl; kernel_rfl; kernel_rfl; kernel_rfl; (apply Ok1.move; exact rfl))
    <;> (apply A.one 3; kernel_rfl; exact rfl; (((apply R.buildSlice; (iterate 12 exact rfl); intro))); apply R.nil; refine ⟨?_, ?_⟩; (focus ((repeat' (first | exact trivial | (refine ⟨?_, ?_⟩; (focus ((repeat' (first | exact At.head | apply At.tail)); done))))))))
    <;> (apply A.one 4; kernel_rfl; exact rfl; (((apply R.callE (vs := [.pointer (some ⟨bk, 0, none⟩), .string sTok, .slice (some ⟨_, 0, none⟩) 1 1]); (iterate 3 exact rfl); exact Ext.none _; intro w1 hw1; exact derive_ok bk k hkl hkb sTok (by rw [hst]; decide) _ 1 1 [⟨some ⟨b9, 0, none⟩, 9 + j9, cb⟩] rfl (by decide) (by intro x hx; cases List.mem_singleton.1 hx; exact hcy) (by rw [List.map_cons, List.map_nil, hfl]; decide) (by intro x hx; cases List.mem_singleton.1 hx; rw [hcl]; decide) w1 (hk.chg hw1.chg) (RdSl.of (junk := []) hw1 (by exact At.head) (by simp [fl, Pt.v, hcl])) (by intro x hx; cases List.mem_singleton.1 hx; exact RdSl.of (junk := k9) hw1 (by (focus ((repeat' (first | exact At.head | apply At.tail)); done))) (by rw [fl_u8])); rw [List.map_cons, List.map_nil, ← hdd]; rintro v Lo ⟨bk2, ov2, rfl, hov2, rfl⟩))); apply R.nil; refine ⟨?_, ?_⟩; (focus ((repeat' (first | exact trivial | (refine ⟨?_, ?_⟩; (focus ((repeat' (first | exact At.head | apply At.tail | apply At.right)); done))))))))
    <;> (apply A.one 5; kernel_rfl; exact rfl; (((apply R.callE (vs := [.pointer (some ⟨bk2, 0, none⟩)]); (iterate 3 exact rfl); exact Ext.none _; intro w1 hw1; exact bytes_ok bk2 d (by rw [hdl]; decide) w1 (KeyR.of (by rw [hdl]; exact hov2) hw1 (Ext.mem (by (focus ((repeat' (exact Ext.here _ _)); done))))); rw [hdl]; rintro v Lo ⟨ov3, hov3, rfl, rfl⟩; rw [slV_eq hov3]; obtain ⟨b3, j3, k3, rfl⟩ := ovsome hov3 (by decide); simp only [ovp, ovc, blkL, List.cons_append, List.nil_append]))); apply R.nil; refine ⟨?_, ?_⟩; (focus ((repeat' (first | exact trivial | (refine ⟨?_, ?_⟩; (focus ((repeat' (first | exact At.head | apply At.tail | apply At.right)); done))))))))
    <;> (apply A.one 6; kernel_rfl; exact rfl; (((apply R.pure; exact rfl; apply Ok1.arrPtr; (iterate 3 exact rfl); omega))); apply R.nil; refine ⟨?_, ?_⟩; (focus ((repeat' (first | exact trivial | (refine ⟨?_, ?_⟩; (focus ((repeat' (first | exact At.head | apply At.tail | apply At.right)); done))))))))
    <;> (apply A.one 7; kernel_rfl; exact rfl; (((apply R.pure; exact rfl; (apply Ok1.load; exact rfl; apply Ld.ownk; exact rfl; exact rfl; exact At.head; exact subE_app _ _ hls)))); apply R.nil; refine ⟨?_, ?_⟩; (focus ((repeat' (first | exact trivial | (refine ⟨?_, ?_⟩; (focus ((repeat' (first | exact At.head | apply At.tail | apply At.right)); done))))))))
    <;> (apply A.take 8; exact rfl; exact rfl; kernel_rfl; kernel_rfl; kernel_rfl; (apply Ok1.build; (iterate 4 exact rfl); exact hfill _ _))
    <;> (apply A.one 9; kernel_rfl; exact rfl; (((apply R.store; (iterate 4 exact rfl); exact htl; exact hto; (focus ((repeat' (first | exact Upd.head | apply Upd.tail | apply Upd.right)); done)); exact setE_all htl))); apply R.nil; refine ⟨?_, ?_⟩; (focus ((repeat' (first | exact trivial | (refine ⟨?_, ?_⟩; (focus ((repeat' (first | exact At.head | apply At.tail | apply At.right)); done))))))))
    <;> (apply A.take 10; exact rfl; exact rfl; kernel_rfl; kernel_rfl; kernel_rfl; (apply Ok1.assign; exact rfl))
    <;> (apply A.done; kernel_rfl)
  repeat' ((apply T.is; apply T.ret))
  all_goals apply RetOk.ct
  all_goals first | exact rfl | skip
  all_goals (apply Ld.ownk; exact rfl; exact rfl; (focus ((repeat' (first | exact At.head | apply At.tail | apply At.right)); done)); exact subE_all htl)
theorem RdSl.mid {w0 w : World} {S : List Nat} {L : Lst} {b : Nat} {e : TypeId} {fz : Nat × Nat} {pre junk : List Value} {xs : List Int} (hw : Hp w0 S L w) (hat : At L b (.cells ⟨pre ++ u8s xs ++ junk⟩ e fz)) {o : Nat} (ho : o = pre.length) : RdSl w (some ⟨b, o, none⟩) u8V xs := by
  subst ho
  right
  refine ⟨b, pre.length, rfl, fun k hk => ?_⟩
  have h1 := hw.get b _ hat.mem
  rw [fl_u8] at hk ⊢
  simp only [World.cell?, h1]
  simp only [List.append_assoc, List.getElem?_toArray]
  rw [List.getElem?_append_right (by omega), List.getElem?_append_left (by omega), Nat.add_sub_cancel_left]
  rfl
theorem key_ok (c : Cl) (s : List Int) (hs : s.length = 32) : ∀ w, CallM Try.prog 38 [.agg ⟨tkC c s⟩] [] w fun v L => ∃ bk ov, v = .pointer (some ⟨bk, 0, none⟩) ∧ OvOk 1 ov 32 (u8s s) ∧ L = KL bk ov s := by
  intro w
  refine enterK (tb := tb) Try.func38 rfl Try.ntmps38 rfl ?_
  have hls : (u8s s).length = 32 := by rw [u8s_len, hs]
  have htl : (tkC c s).length = 36 := by simp [tkC, clC, hls]
  repeat' (first | (apply R.is1; first | (apply R.isCall; (apply R.callE; (iterate 3 exact rfl); exact Ext.none _; intro w1 hw1; exact new_ok (some ⟨_, 4, none⟩) 32 32 s hs.symm (by decide) w1 (RdSl.mid (pre := clC c) (junk := []) hw1 (by rw [List.append_nil]; exact At.head) rfl); rintro v Lo ⟨bk2, ov2, rfl, hov2, _, rfl⟩)) | (apply R.pure; exact rfl; first | (apply Ok1.sliceArr; (iterate 4 exact rfl)) | (apply Ok1.fieldAddr; (iterate 5 exact rfl)) | (apply Ok1.assign; exact rfl)) | (apply R.box; (iterate 3 exact rfl); intro)) | apply R.nil | (apply T.is; first | apply T.seq | apply T.region | apply T.ret))
  (apply RetOk.t; exact rfl)
  rw [hs] at hov2
  refine ⟨_, ?_, bk2, ov2, rfl, hov2, rfl⟩
  (focus ((repeat' (first | exact Ext.one _ _ | exact Ext.here _ _ | apply Keep.cons | apply Keep.last)); done))
end Go.Proofs.Ytiegdpmkgegbaaa
