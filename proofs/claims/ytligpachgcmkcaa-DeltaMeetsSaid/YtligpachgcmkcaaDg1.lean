/- Contracts of the digest: words turned, read; the tables; the words of all rounds. -/
import Derived.Test.YtligpachgcmkcaaS0
import Derived.Test.YtligpachgcmkcaaEng26
import Derived.Test.YtligpachgcmkcaaTab
set_option linter.unusedSimpArgs false
set_option linter.unusedVariables false
namespace Go.Proofs.Ytligpachgcmkcaa
open Go.RowKit Go.Shelf
set_option maxRecDepth 100000

def u8V (x : Int) : List Value := [.int .u8 x]
theorem u8V_len (x : Int) : (u8V x).length = 1 := rfl
theorem u8V_one (x : Int) : (u8V x).all Value.oneCell' = true := rfl
theorem fl_u8 (bs : List Int) : fl u8V bs = u8s bs := by
  unfold fl u8s
  induction bs with
  | nil => rfl
  | cons a l ih => simp only [List.map_cons, List.flatten_cons, ih]; rfl
def Byt (bs : List Int) : Prop := ∀ x ∈ bs, 0 ≤ x ∧ x ≤ 255
theorem rot_ok (x k s p q : Int) (h : andI .u64 (IntKind.u64.wrap k) 31 = s) (h0 : 0 < s) (h1 : s < 32) (hq : pw s.toNat = q) (hp : pw (32 - s).toNat = p) : CallP Try.prog 132 [.int .u32 x, .int .i64 k] (.int .u32 (rotr x p q)) := by
  refine enterP (tb := tb) Try.func132 rfl Try.ntmps132 rfl fun w => ?_
  have hs32 : s.toNat ≤ IntKind.u32.bits := by show s.toNat ≤ 32; omega
  have hs33 : (32 - s).toNat ≤ IntKind.u32.bits := by show (32 - s).toNat ≤ 32; omega
  repeat' (first | (apply R.is1; first | (apply R.isBin; (apply R.pure; exact rfl; first | (apply Ok1.andE; exact rfl; exact rfl; exact h) | (apply Ok1.subU; exact rfl; exact rfl; omega; omega) | (apply Ok1.shl; exact rfl; exact rfl; omega; exact hs32; exact hq) | (apply Ok1.shr; exact rfl; exact rfl; omega; exact hs33; exact hp) | (apply Ok1.orK; exact rfl; exact rfl))) | (apply R.pure; exact rfl; first | (apply Ok1.move; exact rfl) | (apply Ok1.assign; exact rfl) | (apply Ok1.conv; (iterate 5 exact rfl)))) | apply R.nil | (apply T.is; first | apply T.seq | apply T.region | apply T.ret))
  (apply RetOk.t; exact rfl)
  rfl
theorem turnedA_ok (x : Int) : CallP Try.prog 131 [.int .u32 x, .int .i64 6, .int .i64 11, .int .i64 25] (.int .u32 (turned x 64 67108864 2048 2097152 33554432 128)) := by
  refine enterP (tb := tb) Try.func131 rfl Try.ntmps131 rfl fun w => ?_
  repeat' (first | (apply R.is1; first | (apply R.isBin; (apply R.pure; exact rfl; (apply Ok1.xorK; exact rfl; exact rfl))) | (apply R.isCall; first | apply R.callP rfl rfl rfl (rot_ok x (IntKind.i64.wrap (0 - 6)) 26 64 67108864 (by decide +kernel) (by decide) (by decide) rfl rfl) | apply R.callP rfl rfl rfl (rot_ok x (IntKind.i64.wrap (0 - 11)) 21 2048 2097152 (by decide +kernel) (by decide) (by decide) rfl rfl) | apply R.callP rfl rfl rfl (rot_ok x (IntKind.i64.wrap (0 - 25)) 7 33554432 128 (by decide +kernel) (by decide) (by decide) rfl rfl)) | (apply R.pure; exact rfl; first | (apply Ok1.move; exact rfl) | (apply Ok1.assign; exact rfl) | (apply Ok1.neg; exact rfl))) | apply R.nil | (apply T.is; first | apply T.seq | apply T.region | apply T.ret))
  (apply RetOk.t; exact rfl)
  rfl
theorem turnedB_ok (x : Int) : CallP Try.prog 131 [.int .u32 x, .int .i64 2, .int .i64 13, .int .i64 22] (.int .u32 (turned x 4 1073741824 8192 524288 4194304 1024)) := by
  refine enterP (tb := tb) Try.func131 rfl Try.ntmps131 rfl fun w => ?_
  repeat' (first | (apply R.is1; first | (apply R.isBin; (apply R.pure; exact rfl; (apply Ok1.xorK; exact rfl; exact rfl))) | (apply R.isCall; first | apply R.callP rfl rfl rfl (rot_ok x (IntKind.i64.wrap (0 - 2)) 30 4 1073741824 (by decide +kernel) (by decide) (by decide) rfl rfl) | apply R.callP rfl rfl rfl (rot_ok x (IntKind.i64.wrap (0 - 13)) 19 8192 524288 (by decide +kernel) (by decide) (by decide) rfl rfl) | apply R.callP rfl rfl rfl (rot_ok x (IntKind.i64.wrap (0 - 22)) 10 4194304 1024 (by decide +kernel) (by decide) (by decide) rfl rfl)) | (apply R.pure; exact rfl; first | (apply Ok1.move; exact rfl) | (apply Ok1.assign; exact rfl) | (apply Ok1.neg; exact rfl))) | apply R.nil | (apply T.is; first | apply T.seq | apply T.region | apply T.ret))
  (apply RetOk.t; exact rfl)
  rfl
theorem table_ok : CallP Try.prog 130 [] (.agg ⟨u32s kI⟩) := by
  refine enterP (tb := tb) Try.func130 rfl Try.ntmps130 rfl fun w => ?_
  repeat' (first | (apply R.is1; first | (apply R.pure; exact rfl; (apply Ok1.buildA; (iterate 6 exact rfl))) | (apply R.alloc; (iterate 3 exact rfl); intro)) | (apply R.is0; (apply R.store; (iterate 6 exact rfl); exact Upd.head; exact rfl)) | apply R.nil | (apply T.is; first | apply T.seq | apply T.region | apply T.ret))
  (apply RetOk.c; exact rfl; ((apply Ld.ownk; exact rfl; exact rfl; exact At.head; exact rfl)))
  rfl
theorem begun_ok : CallP Try.prog 87 [] (.agg ⟨h0I.v⟩) := by
  refine enterP (tb := tb) Try.func87 rfl Try.ntmps87 rfl fun w => ?_
  repeat' (first | (apply R.is1; first | (apply R.pure; exact rfl; first | (apply Ok1.build; (iterate 5 exact rfl)) | (apply Ok1.buildA; (iterate 6 exact rfl))) | (apply R.alloc; (iterate 3 exact rfl); intro)) | (apply R.is0; (apply R.store; (iterate 6 exact rfl); exact Upd.head; exact rfl)) | apply R.nil | (apply T.is; first | apply T.seq | apply T.region | apply T.ret))
  (apply RetOk.c; exact rfl; ((apply Ld.ownk; exact rfl; exact rfl; exact At.head; exact rfl)))
  rfl
theorem byt_get {bs : List Int} (hb : Byt bs) {i : Nat} (h : i < bs.length) : ∃ x, bs[i]? = some x ∧ bs.getD i 0 = x ∧ 0 ≤ x ∧ x ≤ 255 := ⟨bs[i], List.getElem?_eq_getElem h, by simp [h], hb _ (List.getElem_mem h)⟩
theorem word_ok (p : Option Addr) (n cap : Nat) (bs : List Int) (hn : n = bs.length) (hl : 4 ≤ bs.length) (hb : Byt bs) (w : World) (hp : RdSl w p u8V bs) : CallW Try.prog 137 [.slice p n cap] w fun v _ => v = .int .u32 (wordI (bs.getD 0 0) (bs.getD 1 0) (bs.getD 2 0) (bs.getD 3 0)) := by
  subst hn
  obtain ⟨x0, h0, g0, l0, u0⟩ := byt_get hb (i := 0) (by omega)
  obtain ⟨x1, h1, g1, l1, u1⟩ := byt_get hb (i := 1) (by omega)
  obtain ⟨x2, h2, g2, l2, u2⟩ := byt_get hb (i := 2) (by omega)
  obtain ⟨x3, h3, g3, l3, u3⟩ := byt_get hb (i := 3) (by omega)
  rw [g0, g1, g2, g3]
  obtain ⟨b, o, hpe, H0⟩ := hp.at h0
  replace H0 := H0 1 u8V_len
  obtain ⟨b', o', hpe1, H1⟩ := hp.at h1
  replace H1 := H1 1 u8V_len
  rw [hpe] at hpe1; cases hpe1
  obtain ⟨b', o', hpe1, H2⟩ := hp.at h2
  replace H2 := H2 1 u8V_len
  rw [hpe] at hpe1; cases hpe1
  obtain ⟨b', o', hpe1, H3⟩ := hp.at h3
  replace H3 := H3 1 u8V_len
  rw [hpe] at hpe1; cases hpe1
  refine enterW (tb := tb) Try.func137 rfl Try.ntmps137 rfl ?_
  repeat' (first | (apply R.is1; (apply R.pure; exact rfl; (apply Ok1.assign; exact rfl))) | apply R.nil | (apply T.is; first | (apply T.drawC (id := 1) [] (by decide); ((apply A.take 0; exact rfl; exact rfl; kernel_rfl; kernel_rfl; kernel_rfl; (apply Ok1.move; exact rfl)) <;> (apply A.take 1; exact rfl; exact rfl; kernel_rfl; kernel_rfl; kernel_rfl; (apply Ok1.indexAddrP; (iterate 4 exact rfl); exact hpe; exact rfl; omega; omega)) <;> (apply A.take 2; exact rfl; exact rfl; kernel_rfl; kernel_rfl; kernel_rfl; (apply Ok1.load; exact rfl; apply Ld.row0 H0; exact rfl; exact List.not_mem_nil; (iterate 3 exact rfl))) <;> (apply A.take 3; exact rfl; exact rfl; kernel_rfl; kernel_rfl; kernel_rfl; (apply Ok1.convU32; (iterate 5 exact rfl); omega; omega)) <;> (apply A.take 4; exact rfl; exact rfl; kernel_rfl; kernel_rfl; kernel_rfl; (apply Ok1.shl; exact rfl; exact rfl; omega; exact Nat.le_of_ble_eq_true rfl; exact rfl)) <;> (apply A.take 5; exact rfl; exact rfl; kernel_rfl; kernel_rfl; kernel_rfl; (apply Ok1.move; exact rfl)) <;> (apply A.take 6; exact rfl; exact rfl; kernel_rfl; kernel_rfl; kernel_rfl; (apply Ok1.indexAddrP; (iterate 4 exact rfl); exact hpe; exact rfl; omega; omega)) <;> (apply A.take 7; exact rfl; exact rfl; kernel_rfl; kernel_rfl; kernel_rfl; (apply Ok1.load; exact rfl; apply Ld.row0 H1; exact rfl; exact List.not_mem_nil; (iterate 3 exact rfl))) <;> (apply A.take 8; exact rfl; exact rfl; kernel_rfl; kernel_rfl; kernel_rfl; (apply Ok1.convU32; (iterate 5 exact rfl); omega; omega)) <;> (apply A.take 9; exact rfl; exact rfl; kernel_rfl; kernel_rfl; kernel_rfl; (apply Ok1.shl; exact rfl; exact rfl; omega; exact Nat.le_of_ble_eq_true rfl; exact rfl)) <;> (apply A.take 10; exact rfl; exact rfl; kernel_rfl; kernel_rfl; kernel_rfl; (apply Ok1.orK; exact rfl; exact rfl)) <;> (apply A.take 11; exact rfl; exact rfl; kernel_rfl; kernel_rfl; kernel_rfl; (apply Ok1.move; exact rfl)) <;> (apply A.take 12; exact rfl; exact rfl; kernel_rfl; kernel_rfl; kernel_rfl; (apply Ok1.indexAddrP; (iterate 4 exact rfl); exact hpe; exact rfl; omega; omega)) <;> (apply A.take 13; exact rfl; exact rfl; kernel_rfl; kernel_rfl; kernel_rfl; (apply Ok1.load; exact rfl; apply Ld.row0 H2; exact rfl; exact List.not_mem_nil; (iterate 3 exact rfl))) <;> (apply A.take 14; exact rfl; exact rfl; kernel_rfl; kernel_rfl; kernel_rfl; (apply Ok1.convU32; (iterate 5 exact rfl); omega; omega)) <;> (apply A.take 15; exact rfl; exact rfl; kernel_rfl; kernel_rfl; kernel_rfl; (apply Ok1.shl; exact rfl; exact rfl; omega; exact Nat.le_of_ble_eq_true rfl; exact rfl)) <;> (apply A.take 16; exact rfl; exact rfl; kernel_rfl; kernel_rfl; kernel_rfl; (apply Ok1.orK; exact rfl; exact rfl)) <;> (apply A.take 17; exact rfl; exact rfl; kernel_rfl; kernel_rfl; kernel_rfl; (apply Ok1.move; exact rfl)) <;> (apply A.take 18; exact rfl; exact rfl; kernel_rfl; kernel_rfl; kernel_rfl; (apply Ok1.indexAddrP; (iterate 4 exact rfl); exact hpe; exact rfl; omega; omega)) <;> (apply A.take 19; exact rfl; exact rfl; kernel_rfl; kernel_rfl; kernel_rfl; (apply Ok1.load; exact rfl; apply Ld.row0 H3; exact rfl; exact List.not_mem_nil; (iterate 3 exact rfl))) <;> (apply A.take 20; exact rfl; exact rfl; kernel_rfl; kernel_rfl; kernel_rfl; (apply Ok1.convU32; (iterate 5 exact rfl); omega; omega)) <;> (apply A.take 21; exact rfl; exact rfl; kernel_rfl; kernel_rfl; kernel_rfl; (apply Ok1.orK; exact rfl; exact rfl)) <;> (apply A.take 22; exact rfl; exact rfl; kernel_rfl; kernel_rfl; kernel_rfl; (apply Ok1.assign; exact rfl)) <;> (apply A.done; kernel_rfl))) | apply T.seq | apply T.region | apply T.ret))
  (apply RetOk.t; exact rfl)
  exact congrArg _ (word_or ⟨l0, u0⟩ ⟨l1, u1⟩ ⟨l2, u2⟩ ⟨l3, u3⟩)
end Go.Proofs.Ytligpachgcmkcaa
