/- Contracts of keys: derived, Sender, Seed, Label, Grant, Member. -/
import Derived.Test.YtiegdpmkgegbaaaTk1
set_option linter.unusedSimpArgs false
set_option linter.unusedVariables false
namespace Go.Proofs.Ytiegdpmkgegbaaa
open Go.RowKit Go.Shelf
set_option maxRecDepth 100000

def sSend : ByteArray := ⟨#[115, 101, 110, 100, 101, 114]⟩
def sSeed : ByteArray := ⟨#[115, 101, 101, 100]⟩
def sLab : ByteArray := ⟨#[108, 97, 98, 101, 108]⟩
def twoB (n : Int) : List Int := [n / 256 % 256, n % 256]
def lastI (sz : Nat) (n : Int) : List Int := (twoB n).drop (2 - sz)
def senderI (k : List Int) (v : Int) : List Int := deriveI k sSend [lastI 2 v]
def seedI (k : List Int) (v : Int) : List Int := deriveI k sSeed [lastI 1 v]
def labelI (k : List Int) (v : Int) : List Int := deriveI k sLab [lastI 1 v]
theorem two_byt (n : Int) : Byt (twoB n) := by
  intro x hx
  simp only [twoB, List.mem_cons, List.not_mem_nil, or_false] at hx
  omega
theorem last_byt (sz : Nat) (n : Int) : Byt (lastI sz n) := Byt.drop (two_byt n) _
theorem derived_nil (lab : ByteArray) (n a b s : Int) : CallP Try.prog 46 [.pointer none, .string lab, .int .i64 n, .int .i64 a, .int .i64 b, .int .i64 s] (.tuple #[.pointer none, .int .i64 1]) := by
  refine enterP (tb := tb) Try.func46 rfl Try.ntmps46 rfl fun w0 => ?_
  repeat' (first | (apply R.is1; first | (apply R.isBin; (apply R.pure; exact rfl; (apply Ok1.eqlP; (iterate 5 exact rfl)))) | (apply R.pure; exact rfl; first | (apply Ok1.move; exact rfl) | (apply Ok1.assign; exact rfl))) | apply R.nil | (apply T.is; first | apply T.seq | apply T.region | apply T.block | apply T.ret | (apply T.cond_t; exact rfl)))
  all_goals (apply RetOk.tt; exact rfl; exact rfl)
  all_goals rfl
theorem derived_off (bk : Nat) (lab : ByteArray) (n a b s : Int) (h : n < a ∨ n > b) : CallP Try.prog 46 [.pointer (some ⟨bk, 0, none⟩), .string lab, .int .i64 n, .int .i64 a, .int .i64 b, .int .i64 s] (.tuple #[.pointer none, .int .i64 10]) := by
  refine enterP (tb := tb) Try.func46 rfl Try.ntmps46 rfl fun w0 => ?_
  rcases h with h | h
  · repeat' (first | (apply R.is1; first | (apply R.isBin; (apply R.pure; exact rfl; first | (apply Ok1.lss_t; exact rfl; exact rfl; omega) | (apply Ok1.eqlP; (iterate 5 exact rfl)))) | (apply R.pure; exact rfl; first | (apply Ok1.move; exact rfl) | (apply Ok1.assign; exact rfl) | (apply Ok1.pick_t; exact rfl; exact rfl))) | (apply R.isG; (apply R.guard_not; (iterate 3 exact rfl))) | apply R.nil | (apply T.is; first | apply T.seq | apply T.region | apply T.block | apply T.ret | (apply T.cond_t; exact rfl) | (apply T.cond_f; exact rfl)))
    all_goals (apply RetOk.tt; exact rfl; exact rfl)
    all_goals rfl
  · by_cases h2 : n < a
    · repeat' (first | (apply R.is1; first | (apply R.isBin; (apply R.pure; exact rfl; first | (apply Ok1.lss_t; exact rfl; exact rfl; omega) | (apply Ok1.eqlP; (iterate 5 exact rfl)))) | (apply R.pure; exact rfl; first | (apply Ok1.move; exact rfl) | (apply Ok1.assign; exact rfl) | (apply Ok1.pick_t; exact rfl; exact rfl))) | (apply R.isG; (apply R.guard_not; (iterate 3 exact rfl))) | apply R.nil | (apply T.is; first | apply T.seq | apply T.region | apply T.block | apply T.ret | (apply T.cond_t; exact rfl) | (apply T.cond_f; exact rfl)))
      all_goals (apply RetOk.tt; exact rfl; exact rfl)
      all_goals rfl
    · repeat' (first | (apply R.is1; first | (apply R.isBin; (apply R.pure; exact rfl; first | (apply Ok1.lss_f; exact rfl; exact rfl; omega) | (apply Ok1.gtr_t; exact rfl; exact rfl; omega) | (apply Ok1.eqlP; (iterate 5 exact rfl)))) | (apply R.pure; exact rfl; first | (apply Ok1.move; exact rfl) | (apply Ok1.assign; exact rfl) | (apply Ok1.pick_f; exact rfl; exact rfl))) | (apply R.isG; (apply R.guard_run; exact rfl; exact rfl)) | apply R.nil | (apply T.is; first | apply T.seq | apply T.region | apply T.block | apply T.ret | (apply T.cond_t; exact rfl) | (apply T.cond_f; exact rfl)))
      all_goals (apply RetOk.tt; exact rfl; exact rfl)
      all_goals rfl
theorem derived_ok (bk : Nat) (k : List Int) (hkl : k.length ≤ 999999000) (hkb : Byt k) (lab : ByteArray) (hlab : lab.size ≤ 1000) (n a b : Int) (s : Nat) (h1 : a ≤ n) (h2 : n ≤ b) (hs : s ≤ 2) (w : World) (hk : KeyR w bk k) :
    CallM Try.prog 46 [.pointer (some ⟨bk, 0, none⟩), .string lab, .int .i64 n, .int .i64 a, .int .i64 b, .int .i64 s] [] w fun v L => ∃ bk' ov, v = .tuple #[.pointer (some ⟨bk', 0, none⟩), .int .i64 0] ∧ OvOk 1 ov 32 (u8s (deriveI k lab [lastI s n])) ∧ L = KL bk' ov (deriveI k lab [lastI s n]) := by
  have hll : (lastI s n).length = s := by simp [lastI, twoB]; omega
  have hfl : (frameI [strI lab, lastI s n]).length ≤ 999998000 := by
    have h3 : (strI lab).length = lab.size := by simp [strI]
    simp only [frameI, List.flatMap_cons, List.flatMap_nil, List.append_nil, List.length_append, hll, h3]
    simp only [len4, List.length_cons, List.length_nil]
    omega
  refine enterK (tb := tb) Try.func46 rfl Try.ntmps46 rfl ?_
  have hsub : (2 : Int) - (s : Int) = ((2 - s : Nat) : Int) := by omega
  have hsuf := fun p (w1 : World) (h : RdSl w1 p u8V (twoB n)) => RdSl.suf u8V_len h (cap := 2) (i := 2 - s) (by simp [twoB]) (by simp [twoB])
  have hl0 : (twoB n).length = 2 := rfl
  have hcells : u8s (twoB n) = [.int .u8 (IntKind.u8.wrap (n / 256)), .int .u8 (IntKind.u8.wrap n)] := by simp only [u8_mod]; rfl
  have hss : 2 - (2 - s) = s := by omega
  repeat' (first | (apply R.is1; first | (apply R.isBin; (apply R.pure; exact rfl; first | (apply Ok1.sub64; exact rfl; exact rfl; omega; omega) | (apply Ok1.lss_f; exact rfl; exact rfl; omega) | (apply Ok1.gtr_f; exact rfl; exact rfl; omega) | (apply Ok1.shr; exact rfl; exact rfl; omega; exact Nat.le_of_ble_eq_true rfl; (exact pwE8)) | (apply Ok1.eqlP; (iterate 5 exact rfl)))) | (apply R.isCall; (apply R.callE; (iterate 3 exact rfl); exact Ext.none _; intro w1 hw1; exact derive_ok bk k hkl hkb lab (by omega) _ 1 1 [⟨_, 2 - (2 - s), lastI s n⟩] rfl (by decide) (by intro x hx; cases List.mem_singleton.1 hx; exact last_byt _ _) hfl (by intro x hx; cases List.mem_singleton.1 hx; rw [hll]; omega) w1 (hk.chg hw1.chg) (RdSl.of (junk := []) hw1 (by exact At.head) (by simp only [fl, Pt.v, List.map_cons, List.map_nil, List.flatten_cons, List.flatten_nil, List.append_nil]; rw [hll, hss])) (by intro x hx; cases List.mem_singleton.1 hx; exact hsuf _ _ (RdSl.of (junk := []) hw1 (by (focus ((repeat' (first | exact At.head | apply At.tail)); done))) (by rw [fl_u8, hcells]; rfl))); rw [List.map_cons, List.map_nil]; rintro v Lo ⟨bk2, ov2, rfl, hov2, rfl⟩)) | (apply R.pure; exact rfl; first | (apply Ok1.sufR (i := 2 - s) (sz := 1); (iterate 5 exact rfl); exact congrArg (fun z => some (Value.int .i64 z)) hsub; omega; omega) | (apply Ok1.move; exact rfl) | (apply Ok1.assign; exact rfl) | (apply Ok1.pick_f; exact rfl; exact rfl) | (apply Ok1.conv; (iterate 5 exact rfl))) | (apply R.buildSlice; (iterate 12 exact rfl); intro)) | (apply R.isG; (apply R.guard_run; exact rfl; exact rfl)) | apply R.nil | (apply T.is; first | apply T.seq | apply T.region | apply T.block | apply T.skip | apply T.ret | (apply T.cond_f; exact rfl)))
  all_goals (apply RetOk.tt; exact rfl; exact rfl)
  all_goals refine ⟨_, ?_, bk2, ov2, rfl, hov2, rfl⟩
  all_goals (focus ((repeat' (first | exact Ext.one _ _ | exact Ext.here _ _ | apply Keep.cons | apply Keep.last)); done))
theorem sender_nil (n : Int) : CallP Try.prog 24 [.pointer none, .int .i64 n] (.tuple #[.pointer none, .int .i64 1]) := by
  have hd := derived_nil sSend n 1 65535 2
  refine enterP (tb := tb) Try.func24 rfl Try.ntmps24 rfl fun w0 => ?_
  repeat' (first | (apply R.is1; first | (apply R.isCall; apply R.callP rfl rfl rfl hd) | (apply R.pure; exact rfl; first | (apply Ok1.move; exact rfl) | (apply Ok1.assign; exact rfl) | (apply Ok1.extract; exact rfl; exact rfl))) | apply R.nil | (apply T.is; first | apply T.seq | apply T.region | apply T.ret))
  all_goals (apply RetOk.tt; exact rfl; exact rfl)
  all_goals rfl
theorem sender_off (bk : Nat) (n : Int) (h : n < 1 ∨ n > 65535) : CallP Try.prog 24 [.pointer (some ⟨bk, 0, none⟩), .int .i64 n] (.tuple #[.pointer none, .int .i64 10]) := by
  have hd := derived_off bk sSend n 1 65535 2 h
  refine enterP (tb := tb) Try.func24 rfl Try.ntmps24 rfl fun w0 => ?_
  repeat' (first | (apply R.is1; first | (apply R.isCall; apply R.callP rfl rfl rfl hd) | (apply R.pure; exact rfl; first | (apply Ok1.move; exact rfl) | (apply Ok1.assign; exact rfl) | (apply Ok1.extract; exact rfl; exact rfl))) | apply R.nil | (apply T.is; first | apply T.seq | apply T.region | apply T.ret))
  all_goals (apply RetOk.tt; exact rfl; exact rfl)
  all_goals rfl
theorem sender_ok (bk : Nat) (k : List Int) (hkl : k.length ≤ 999999000) (hkb : Byt k) (n : Int) (h1 : 1 ≤ n) (h2 : n ≤ 65535) (w : World) (hk : KeyR w bk k) :
    CallM Try.prog 24 [.pointer (some ⟨bk, 0, none⟩), .int .i64 n] [] w fun v L => ∃ bk' ov, v = .tuple #[.pointer (some ⟨bk', 0, none⟩), .int .i64 0] ∧ OvOk 1 ov 32 (u8s (senderI k n)) ∧ L = KL bk' ov (senderI k n) := by
  refine enterK (tb := tb) Try.func24 rfl Try.ntmps24 rfl ?_
  repeat' (first | (apply R.is1; first | (apply R.isCall; (apply R.callE; (iterate 3 exact rfl); exact Ext.none _; intro w1 hw1; exact derived_ok bk k hkl hkb sSend (by decide) n 1 65535 2 h1 h2 (by decide) w1 (hk.chg hw1.chg); rintro v Lo ⟨bk2, ov2, rfl, hov2, rfl⟩)) | (apply R.pure; exact rfl; first | (apply Ok1.move; exact rfl) | (apply Ok1.assign; exact rfl) | (apply Ok1.extract; exact rfl; exact rfl))) | apply R.nil | (apply T.is; first | apply T.seq | apply T.region | apply T.ret))
  all_goals (apply RetOk.tt; exact rfl; exact rfl)
  all_goals refine ⟨_, ?_, bk2, ov2, rfl, hov2, rfl⟩
  all_goals (focus ((repeat' (first | exact Ext.one _ _ | exact Ext.here _ _ | apply Keep.cons | apply Keep.last)); done))
theorem seed_nil (n : Int) : CallP Try.prog 25 [.pointer none, .int .i64 n] (.tuple #[.pointer none, .int .i64 1]) := by
  have hd := derived_nil sSeed n 0 3 1
  refine enterP (tb := tb) Try.func25 rfl Try.ntmps25 rfl fun w0 => ?_
  repeat' (first | (apply R.is1; first | (apply R.isCall; apply R.callP rfl rfl rfl hd) | (apply R.pure; exact rfl; first | (apply Ok1.move; exact rfl) | (apply Ok1.assign; exact rfl) | (apply Ok1.extract; exact rfl; exact rfl))) | apply R.nil | (apply T.is; first | apply T.seq | apply T.region | apply T.ret))
  all_goals (apply RetOk.tt; exact rfl; exact rfl)
  all_goals rfl
theorem seed_off (bk : Nat) (n : Int) (h : n < 0 ∨ n > 3) : CallP Try.prog 25 [.pointer (some ⟨bk, 0, none⟩), .int .i64 n] (.tuple #[.pointer none, .int .i64 10]) := by
  have hd := derived_off bk sSeed n 0 3 1 h
  refine enterP (tb := tb) Try.func25 rfl Try.ntmps25 rfl fun w0 => ?_
  repeat' (first | (apply R.is1; first | (apply R.isCall; apply R.callP rfl rfl rfl hd) | (apply R.pure; exact rfl; first | (apply Ok1.move; exact rfl) | (apply Ok1.assign; exact rfl) | (apply Ok1.extract; exact rfl; exact rfl))) | apply R.nil | (apply T.is; first | apply T.seq | apply T.region | apply T.ret))
  all_goals (apply RetOk.tt; exact rfl; exact rfl)
  all_goals rfl
theorem seed_ok (bk : Nat) (k : List Int) (hkl : k.length ≤ 999999000) (hkb : Byt k) (n : Int) (h1 : 0 ≤ n) (h2 : n ≤ 3) (w : World) (hk : KeyR w bk k) :
    CallM Try.prog 25 [.pointer (some ⟨bk, 0, none⟩), .int .i64 n] [] w fun v L => ∃ bk' ov, v = .tuple #[.pointer (some ⟨bk', 0, none⟩), .int .i64 0] ∧ OvOk 1 ov 32 (u8s (seedI k n)) ∧ L = KL bk' ov (seedI k n) := by
  refine enterK (tb := tb) Try.func25 rfl Try.ntmps25 rfl ?_
  repeat' (first | (apply R.is1; first | (apply R.isCall; (apply R.callE; (iterate 3 exact rfl); exact Ext.none _; intro w1 hw1; exact derived_ok bk k hkl hkb sSeed (by decide) n 0 3 1 h1 h2 (by decide) w1 (hk.chg hw1.chg); rintro v Lo ⟨bk2, ov2, rfl, hov2, rfl⟩)) | (apply R.pure; exact rfl; first | (apply Ok1.move; exact rfl) | (apply Ok1.assign; exact rfl) | (apply Ok1.extract; exact rfl; exact rfl))) | apply R.nil | (apply T.is; first | apply T.seq | apply T.region | apply T.ret))
  all_goals (apply RetOk.tt; exact rfl; exact rfl)
  all_goals refine ⟨_, ?_, bk2, ov2, rfl, hov2, rfl⟩
  all_goals (focus ((repeat' (first | exact Ext.one _ _ | exact Ext.here _ _ | apply Keep.cons | apply Keep.last)); done))
theorem label_nil (n : Int) : CallP Try.prog 21 [.pointer none, .int .i64 n] (.tuple #[.pointer none, .int .i64 1]) := by
  have hd := derived_nil sLab n 0 7 1
  refine enterP (tb := tb) Try.func21 rfl Try.ntmps21 rfl fun w0 => ?_
  repeat' (first | (apply R.is1; first | (apply R.isCall; apply R.callP rfl rfl rfl hd) | (apply R.pure; exact rfl; first | (apply Ok1.move; exact rfl) | (apply Ok1.assign; exact rfl) | (apply Ok1.extract; exact rfl; exact rfl))) | apply R.nil | (apply T.is; first | apply T.seq | apply T.region | apply T.ret))
  all_goals (apply RetOk.tt; exact rfl; exact rfl)
  all_goals rfl
theorem label_off (bk : Nat) (n : Int) (h : n < 0 ∨ n > 7) : CallP Try.prog 21 [.pointer (some ⟨bk, 0, none⟩), .int .i64 n] (.tuple #[.pointer none, .int .i64 10]) := by
  have hd := derived_off bk sLab n 0 7 1 h
  refine enterP (tb := tb) Try.func21 rfl Try.ntmps21 rfl fun w0 => ?_
  repeat' (first | (apply R.is1; first | (apply R.isCall; apply R.callP rfl rfl rfl hd) | (apply R.pure; exact rfl; first | (apply Ok1.move; exact rfl) | (apply Ok1.assign; exact rfl) | (apply Ok1.extract; exact rfl; exact rfl))) | apply R.nil | (apply T.is; first | apply T.seq | apply T.region | apply T.ret))
  all_goals (apply RetOk.tt; exact rfl; exact rfl)
  all_goals rfl
theorem label_ok (bk : Nat) (k : List Int) (hkl : k.length ≤ 999999000) (hkb : Byt k) (n : Int) (h1 : 0 ≤ n) (h2 : n ≤ 7) (w : World) (hk : KeyR w bk k) :
    CallM Try.prog 21 [.pointer (some ⟨bk, 0, none⟩), .int .i64 n] [] w fun v L => ∃ bk' ov, v = .tuple #[.pointer (some ⟨bk', 0, none⟩), .int .i64 0] ∧ OvOk 1 ov 32 (u8s (labelI k n)) ∧ L = KL bk' ov (labelI k n) := by
  refine enterK (tb := tb) Try.func21 rfl Try.ntmps21 rfl ?_
  repeat' (first | (apply R.is1; first | (apply R.isCall; (apply R.callE; (iterate 3 exact rfl); exact Ext.none _; intro w1 hw1; exact derived_ok bk k hkl hkb sLab (by decide) n 0 7 1 h1 h2 (by decide) w1 (hk.chg hw1.chg); rintro v Lo ⟨bk2, ov2, rfl, hov2, rfl⟩)) | (apply R.pure; exact rfl; first | (apply Ok1.move; exact rfl) | (apply Ok1.assign; exact rfl) | (apply Ok1.extract; exact rfl; exact rfl))) | apply R.nil | (apply T.is; first | apply T.seq | apply T.region | apply T.ret))
  all_goals (apply RetOk.tt; exact rfl; exact rfl)
  all_goals refine ⟨_, ?_, bk2, ov2, rfl, hov2, rfl⟩
  all_goals (focus ((repeat' (first | exact Ext.one _ _ | exact Ext.here _ _ | apply Keep.cons | apply Keep.last)); done))
theorem grant_nil (c : Cl) (n : Int) : CallP Try.prog 12 [.pointer none, kvC c, .int .i64 n] (.tuple #[.pointer none, .int .i64 1]) := by
  have hd := make_nil c
  refine enterP (tb := tb) Try.func12 rfl Try.ntmps12 rfl fun w0 => ?_
  simp only [kvC] at hd ⊢
  repeat' (first | (apply R.is1; first | (apply R.isBin; (apply R.pure; exact rfl; (apply Ok1.neq_t; exact rfl; exact rfl; omega))) | (apply R.isCall; apply R.callP rfl rfl rfl hd) | (apply R.pure; exact rfl; first | (apply Ok1.move; exact rfl) | (apply Ok1.load; exact rfl; (apply Ld.ownk; exact rfl; exact rfl; exact At.head; exact rfl)) | (apply Ok1.assign; exact rfl) | (apply Ok1.extract; exact rfl; exact rfl)) | (apply R.box; (iterate 3 exact rfl); intro) | (apply R.alloc; (iterate 3 exact rfl); intro)) | (apply R.is0; (apply R.store; (iterate 6 exact rfl); exact Upd.head; exact rfl)) | apply R.nil | (apply T.is; first | apply T.seq | apply T.region | apply T.ret | (apply T.cond_t; exact rfl)))
  all_goals (apply RetOk.tt; exact rfl; exact rfl)
  all_goals rfl
theorem grant_bad (bk : Nat) (c : Cl) (hr : ¬ c.right) (n : Int) : CallP Try.prog 12 [.pointer (some ⟨bk, 0, none⟩), kvC c, .int .i64 n] (.tuple #[.pointer none, .int .i64 10]) := by
  have hd := make_bad c hr bk
  refine enterP (tb := tb) Try.func12 rfl Try.ntmps12 rfl fun w0 => ?_
  simp only [kvC] at hd ⊢
  repeat' (first | (apply R.is1; first | (apply R.isBin; (apply R.pure; exact rfl; (apply Ok1.neq_t; exact rfl; exact rfl; omega))) | (apply R.isCall; apply R.callP rfl rfl rfl hd) | (apply R.pure; exact rfl; first | (apply Ok1.move; exact rfl) | (apply Ok1.load; exact rfl; (apply Ld.ownk; exact rfl; exact rfl; exact At.head; exact rfl)) | (apply Ok1.assign; exact rfl) | (apply Ok1.extract; exact rfl; exact rfl)) | (apply R.box; (iterate 3 exact rfl); intro) | (apply R.alloc; (iterate 3 exact rfl); intro)) | (apply R.is0; (apply R.store; (iterate 6 exact rfl); exact Upd.head; exact rfl)) | apply R.nil | (apply T.is; first | apply T.seq | apply T.region | apply T.ret | (apply T.cond_t; exact rfl)))
  all_goals (apply RetOk.tt; exact rfl; exact rfl)
  all_goals rfl
theorem grant_off (bk : Nat) (k : List Int) (hkl : k.length ≤ 999999000) (hkb : Byt k) (c : Cl) (hr : c.right) (n : Int) (h : n < 1 ∨ n > 65535) (w : World) (hk : KeyR w bk k) :
    CallW Try.prog 12 [.pointer (some ⟨bk, 0, none⟩), kvC c, .int .i64 n] w fun v _ => v = .tuple #[.pointer none, .int .i64 10] := by
  have hd := fun w1 (hc : Chg [] w w1) => make_ok c hr bk k hkl hkb w1 (hk.chg hc)
  have hsl := secret_len k c
  have hls : (u8s (secretI k c)).length = 32 := by rw [u8s_len, hsl]
  generalize secretI k c = d at *
  have htl : (tkC c d).length = 36 := by simp [tkC, clC, hls]
  have hto : (tkC c d).all Value.oneCell' = true := by simp only [tkC, List.all_append, u8s_one, Bool.and_true]; rfl
  refine enterW (tb := tb) Try.func12 rfl Try.ntmps12 rfl ?_
  simp only [kvC] at hd ⊢
  repeat' (first | (apply R.is1; first | (apply R.isBin; (apply R.pure; exact rfl; (apply Ok1.neq_f; exact rfl; exact rfl; omega))) | (apply R.isCall; first | (apply R.callV (vs := [_, .agg _]); (iterate 3 exact rfl); intro w1 hw1; exact hd w1 hw1.chg) | (apply R.callE (vs := [.agg _]); (iterate 3 exact rfl); exact Ext.none _; intro w1 hw1; exact key_ok c d hsl w1; rintro v Lo ⟨bk2, ov2, rfl, hov2, rfl⟩; simp only [KL, List.cons_append]) | (apply R.callP; (iterate 3 exact rfl); exact sender_off _ n h)) | (apply R.pure; exact rfl; first | (apply Ok1.load; exact rfl; apply Ld.ownk; exact rfl; exact rfl; exact At.head; exact subE_all htl) | (apply Ok1.move; exact rfl) | (apply Ok1.load; exact rfl; (apply Ld.ownk; exact rfl; exact rfl; exact At.head; exact rfl)) | (apply Ok1.assign; exact rfl) | (apply Ok1.extract; exact rfl; exact rfl)) | (apply R.box; (iterate 3 exact rfl); intro) | (apply R.alloc; (iterate 3 exact rfl); intro)) | (apply R.is0; (apply R.store; (iterate 4 exact rfl); exact htl; exact hto; exact Upd.head; exact setE_all htl)) | apply R.nil | (apply T.is; first | apply T.seq | apply T.region | apply T.skip | apply T.ret | (apply T.cond_f; exact rfl)))
  all_goals (apply RetOk.tt; exact rfl; exact rfl)
  all_goals rfl
theorem grant_ok (bk : Nat) (k : List Int) (hkl : k.length ≤ 999999000) (hkb : Byt k) (c : Cl) (hr : c.right) (n : Int) (h1 : 1 ≤ n) (h2 : n ≤ 65535) (w : World) (hk : KeyR w bk k) :
    CallM Try.prog 12 [.pointer (some ⟨bk, 0, none⟩), kvC c, .int .i64 n] [] w fun v L => ∃ bk' ov, v = .tuple #[.pointer (some ⟨bk', 0, none⟩), .int .i64 0] ∧ OvOk 1 ov 32 (u8s (senderI (secretI k c) n)) ∧ L = KL bk' ov (senderI (secretI k c) n) := by
  have hd := fun w1 (hc : Chg [] w w1) => make_ok c hr bk k hkl hkb w1 (hk.chg hc)
  have hsl := secret_len k c
  have hsb := secret_byt k c
  have hls : (u8s (secretI k c)).length = 32 := by rw [u8s_len, hsl]
  generalize secretI k c = d at *
  have htl : (tkC c d).length = 36 := by simp [tkC, clC, hls]
  have hto : (tkC c d).all Value.oneCell' = true := by simp only [tkC, List.all_append, u8s_one, Bool.and_true]; rfl
  refine enterK (tb := tb) Try.func12 rfl Try.ntmps12 rfl ?_
  simp only [kvC] at hd ⊢
  repeat' (first | (apply R.is1; first | (apply R.isBin; (apply R.pure; exact rfl; (apply Ok1.neq_f; exact rfl; exact rfl; omega))) | (apply R.isCall; first | (apply R.callV (vs := [_, .agg _]); (iterate 3 exact rfl); intro w1 hw1; exact hd w1 hw1.chg) | (apply R.callE (vs := [.agg _]); (iterate 3 exact rfl); exact Ext.none _; intro w1 hw1; exact key_ok c d hsl w1; rintro v Lo ⟨bk2, ov2, rfl, hov2, rfl⟩) | (apply R.callE (vs := [.pointer (some ⟨bk2, 0, none⟩), .int .i64 n]); (iterate 3 exact rfl); exact Ext.none _; intro w1 hw1; exact sender_ok bk2 d (by rw [hsl]; decide) hsb n h1 h2 w1 (KeyR.of (by rw [hsl]; exact hov2) hw1 (Ext.mem (by (focus ((repeat' (exact Ext.here _ _)); done))))); rintro v Lo ⟨bk3, ov3, rfl, hov3, rfl⟩)) | (apply R.pure; exact rfl; first | (apply Ok1.load; exact rfl; apply Ld.ownk; exact rfl; exact rfl; exact At.head; exact subE_all htl) | (apply Ok1.move; exact rfl) | (apply Ok1.load; exact rfl; (apply Ld.ownk; exact rfl; exact rfl; exact At.head; exact rfl)) | (apply Ok1.assign; exact rfl) | (apply Ok1.extract; exact rfl; exact rfl)) | (apply R.box; (iterate 3 exact rfl); intro) | (apply R.alloc; (iterate 3 exact rfl); intro)) | (apply R.is0; (apply R.store; (iterate 4 exact rfl); exact htl; exact hto; exact Upd.head; exact setE_all htl)) | apply R.nil | (apply T.is; first | apply T.seq | apply T.region | apply T.skip | apply T.ret | (apply T.cond_f; exact rfl)))
  all_goals (apply RetOk.tt; exact rfl; exact rfl)
  all_goals refine ⟨_, ?_, bk3, ov3, rfl, hov3, rfl⟩
  all_goals (focus ((repeat' (first | exact Ext.one _ _ | exact Ext.here _ _ | apply Keep.cons | apply Keep.last)); done))
theorem member_nil (c : Cl) (n : Int) : CallP Try.prog 20 [.pointer none, kvC c, .int .i64 n] (.tuple #[.pointer none, .int .i64 1]) := by
  have hd := make_nil c
  refine enterP (tb := tb) Try.func20 rfl Try.ntmps20 rfl fun w0 => ?_
  simp only [kvC] at hd ⊢
  repeat' (first | (apply R.is1; first | (apply R.isBin; (apply R.pure; exact rfl; (apply Ok1.neq_t; exact rfl; exact rfl; omega))) | (apply R.isCall; apply R.callP rfl rfl rfl hd) | (apply R.pure; exact rfl; first | (apply Ok1.move; exact rfl) | (apply Ok1.load; exact rfl; (apply Ld.ownk; exact rfl; exact rfl; exact At.head; exact rfl)) | (apply Ok1.assign; exact rfl) | (apply Ok1.extract; exact rfl; exact rfl)) | (apply R.box; (iterate 3 exact rfl); intro) | (apply R.alloc; (iterate 3 exact rfl); intro)) | (apply R.is0; (apply R.store; (iterate 6 exact rfl); exact Upd.head; exact rfl)) | apply R.nil | (apply T.is; first | apply T.seq | apply T.region | apply T.ret | (apply T.cond_t; exact rfl)))
  all_goals (apply RetOk.tt; exact rfl; exact rfl)
  all_goals rfl
theorem member_bad (bk : Nat) (c : Cl) (hr : ¬ c.right) (n : Int) : CallP Try.prog 20 [.pointer (some ⟨bk, 0, none⟩), kvC c, .int .i64 n] (.tuple #[.pointer none, .int .i64 10]) := by
  have hd := make_bad c hr bk
  refine enterP (tb := tb) Try.func20 rfl Try.ntmps20 rfl fun w0 => ?_
  simp only [kvC] at hd ⊢
  repeat' (first | (apply R.is1; first | (apply R.isBin; (apply R.pure; exact rfl; (apply Ok1.neq_t; exact rfl; exact rfl; omega))) | (apply R.isCall; apply R.callP rfl rfl rfl hd) | (apply R.pure; exact rfl; first | (apply Ok1.move; exact rfl) | (apply Ok1.load; exact rfl; (apply Ld.ownk; exact rfl; exact rfl; exact At.head; exact rfl)) | (apply Ok1.assign; exact rfl) | (apply Ok1.extract; exact rfl; exact rfl)) | (apply R.box; (iterate 3 exact rfl); intro) | (apply R.alloc; (iterate 3 exact rfl); intro)) | (apply R.is0; (apply R.store; (iterate 6 exact rfl); exact Upd.head; exact rfl)) | apply R.nil | (apply T.is; first | apply T.seq | apply T.region | apply T.ret | (apply T.cond_t; exact rfl)))
  all_goals (apply RetOk.tt; exact rfl; exact rfl)
  all_goals rfl
theorem member_off (bk : Nat) (k : List Int) (hkl : k.length ≤ 999999000) (hkb : Byt k) (c : Cl) (hr : c.right) (n : Int) (h : n < 0 ∨ n > 3) (w : World) (hk : KeyR w bk k) :
    CallW Try.prog 20 [.pointer (some ⟨bk, 0, none⟩), kvC c, .int .i64 n] w fun v _ => v = .tuple #[.pointer none, .int .i64 10] := by
  have hd := fun w1 (hc : Chg [] w w1) => make_ok c hr bk k hkl hkb w1 (hk.chg hc)
  have hsl := secret_len k c
  have hls : (u8s (secretI k c)).length = 32 := by rw [u8s_len, hsl]
  generalize secretI k c = d at *
  have htl : (tkC c d).length = 36 := by simp [tkC, clC, hls]
  have hto : (tkC c d).all Value.oneCell' = true := by simp only [tkC, List.all_append, u8s_one, Bool.and_true]; rfl
  refine enterW (tb := tb) Try.func20 rfl Try.ntmps20 rfl ?_
  simp only [kvC] at hd ⊢
  repeat' (first | (apply R.is1; first | (apply R.isBin; (apply R.pure; exact rfl; (apply Ok1.neq_f; exact rfl; exact rfl; omega))) | (apply R.isCall; first | (apply R.callV (vs := [_, .agg _]); (iterate 3 exact rfl); intro w1 hw1; exact hd w1 hw1.chg) | (apply R.callE (vs := [.agg _]); (iterate 3 exact rfl); exact Ext.none _; intro w1 hw1; exact key_ok c d hsl w1; rintro v Lo ⟨bk2, ov2, rfl, hov2, rfl⟩; simp only [KL, List.cons_append]) | (apply R.callP; (iterate 3 exact rfl); exact seed_off _ n h)) | (apply R.pure; exact rfl; first | (apply Ok1.load; exact rfl; apply Ld.ownk; exact rfl; exact rfl; exact At.head; exact subE_all htl) | (apply Ok1.move; exact rfl) | (apply Ok1.load; exact rfl; (apply Ld.ownk; exact rfl; exact rfl; exact At.head; exact rfl)) | (apply Ok1.assign; exact rfl) | (apply Ok1.extract; exact rfl; exact rfl)) | (apply R.box; (iterate 3 exact rfl); intro) | (apply R.alloc; (iterate 3 exact rfl); intro)) | (apply R.is0; (apply R.store; (iterate 4 exact rfl); exact htl; exact hto; exact Upd.head; exact setE_all htl)) | apply R.nil | (apply T.is; first | apply T.seq | apply T.region | apply T.skip | apply T.ret | (apply T.cond_f; exact rfl)))
  all_goals (apply RetOk.tt; exact rfl; exact rfl)
  all_goals rfl
theorem member_ok (bk : Nat) (k : List Int) (hkl : k.length ≤ 999999000) (hkb : Byt k) (c : Cl) (hr : c.right) (n : Int) (h1 : 0 ≤ n) (h2 : n ≤ 3) (w : World) (hk : KeyR w bk k) :
    CallM Try.prog 20 [.pointer (some ⟨bk, 0, none⟩), kvC c, .int .i64 n] [] w fun v L => ∃ bk' ov, v = .tuple #[.pointer (some ⟨bk', 0, none⟩), .int .i64 0] ∧ OvOk 1 ov 32 (u8s (seedI (secretI k c) n)) ∧ L = KL bk' ov (seedI (secretI k c) n) := by
  have hd := fun w1 (hc : Chg [] w w1) => make_ok c hr bk k hkl hkb w1 (hk.chg hc)
  have hsl := secret_len k c
  have hsb := secret_byt k c
  have hls : (u8s (secretI k c)).length = 32 := by rw [u8s_len, hsl]
  generalize secretI k c = d at *
  have htl : (tkC c d).length = 36 := by simp [tkC, clC, hls]
  have hto : (tkC c d).all Value.oneCell' = true := by simp only [tkC, List.all_append, u8s_one, Bool.and_true]; rfl
  refine enterK (tb := tb) Try.func20 rfl Try.ntmps20 rfl ?_
  simp only [kvC] at hd ⊢
  repeat' (first | (apply R.is1; first | (apply R.isBin; (apply R.pure; exact rfl; (apply Ok1.neq_f; exact rfl; exact rfl; omega))) | (apply R.isCall; first | (apply R.callV (vs := [_, .agg _]); (iterate 3 exact rfl); intro w1 hw1; exact hd w1 hw1.chg) | (apply R.callE (vs := [.agg _]); (iterate 3 exact rfl); exact Ext.none _; intro w1 hw1; exact key_ok c d hsl w1; rintro v Lo ⟨bk2, ov2, rfl, hov2, rfl⟩) | (apply R.callE (vs := [.pointer (some ⟨bk2, 0, none⟩), .int .i64 n]); (iterate 3 exact rfl); exact Ext.none _; intro w1 hw1; exact seed_ok bk2 d (by rw [hsl]; decide) hsb n h1 h2 w1 (KeyR.of (by rw [hsl]; exact hov2) hw1 (Ext.mem (by (focus ((repeat' (exact Ext.here _ _)); done))))); rintro v Lo ⟨bk3, ov3, rfl, hov3, rfl⟩)) | (apply R.pure; exact rfl; first | (apply Ok1.load; exact rfl; apply Ld.ownk; exact rfl; exact rfl; exact At.head; exact subE_all htl) | (apply Ok1.move; exact rfl) | (apply Ok1.load; exact rfl; (apply Ld.ownk; exact rfl; exact rfl; exact At.head; exact rfl)) | (apply Ok1.assign; exact rfl) | (apply Ok1.extract; exact rfl; exact rfl)) | (apply R.box; (iterate 3 exact rfl); intro) | (apply R.alloc; (iterate 3 exact rfl); intro)) | (apply R.is0; (apply R.store; (iterate 4 exact rfl); exact htl; exact hto; exact Upd.head; exact setE_all htl)) | apply R.nil | (apply T.is; first | apply T.seq | apply T.region | apply T.skip | apply T.ret | (apply T.cond_f; exact rfl)))
  all_goals (apply RetOk.tt; exact rfl; exact rfl)
  all_goals refine ⟨_, ?_, bk3, ov3, rfl, hov3, rfl⟩
  all_goals (focus ((repeat' (first | exact Ext.one _ _ | exact Ext.here _ _ | apply Keep.cons | apply Keep.last)); done))
end Go.Proofs.Ytiegdpmkgegbaaa
