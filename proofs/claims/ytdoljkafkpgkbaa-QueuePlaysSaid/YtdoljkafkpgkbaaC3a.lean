/- Contracts: math/bits.Len. -/
import Derived.Test.YtdoljkafkpgkbaaC2
set_option linter.unusedSimpArgs false
set_option linter.unusedVariables false
namespace Go.Proofs.Ytdoljkafkpgkbaa
open Go.RowKit Go.Shelf
set_option maxRecDepth 100000

theorem len64_ok (x : Int) (h0 : 0 ≤ x) (h1 : x ≤ 18446744073709551615) : CallP Try.prog 63 [.int .u64 x] (.int .i64 (blen x.toNat)) := by
  refine enterP (tb := tb) Try.func63 rfl Try.ntmps63 rfl fun w => ?_
  repeat' (first | (apply R.is1; first | (apply R.isBin; first | (apply R.pure; exact rfl; first | (apply Ok1.add64; exact rfl; exact rfl; omega; omega) | (apply Ok1.geq_t; exact rfl; exact rfl; omega) | (apply Ok1.geq_f; exact rfl; exact rfl; omega) | (apply Ok1.shr; exact rfl; exact rfl; omega; exact Nat.le_of_ble_eq_true rfl; (first | exact pwE1 | exact pwE2 | exact pwE3 | exact pwE4 | exact pwE5 | exact pwE6 | exact pwE7 | exact pwE8 | exact pwE16 | exact pwE24 | exact pwE32 | exact rfl))) | (apply R.geq rfl rfl rfl <;> intro)) | (apply R.pure; exact rfl; first | (apply Ok1.len8; (iterate 4 exact rfl); omega; omega; kernel_rfl) | (apply Ok1.move; exact rfl) | (apply Ok1.assign; exact rfl) | (apply Ok1.index1; (iterate 6 exact rfl); omega; omega; exact rfl) | (apply Ok1.indexk; (iterate 6 exact rfl); omega; omega; exact rfl) | (apply Ok1.convI64; (iterate 5 exact rfl); omega; omega) | (apply Ok1.convU64; (iterate 5 exact rfl); omega; omega) | (apply Ok1.convU32; (iterate 5 exact rfl); omega; omega) | (apply Ok1.convU8; (iterate 5 exact rfl); omega; omega) | (apply Ok1.conv; (iterate 5 exact rfl)))) | (apply R.is0; first | fail) | (apply R.isG; first | (apply R.guard_run; exact rfl; exact rfl) | (apply R.guard_not; (iterate 3 exact rfl)) | (apply R.guard_not0; exact rfl; exact rfl) | (apply R.guard_un; (iterate 3 exact rfl)) | (apply R.guard_un0; exact rfl; exact rfl) | (apply R.guard rfl rfl ?_ (fun h => ⟨rfl, ?_⟩) <;> try intro)) | apply R.nil | (apply T.is; first | apply T.seq | apply T.region | apply T.block | apply T.scope | apply T.label | apply T.skip | apply T.exit | apply T.ret | (apply T.cond_t; exact rfl) | (apply T.cond_f; exact rfl) | (apply T.cond_h; exact rfl; assumption) | (apply T.cond_n; exact rfl; assumption) | (apply T.cond rfl <;> intro)) | apply Rnd.step)
  all_goals (apply RetOk.t; exact rfl)
  all_goals congr 1
  all_goals rw [Nat.min_eq_left (blen_le 8 (by omega))]
  all_goals first
    | (rw [blen32 (x := x.toNat) (by omega), blen16 (x := x.toNat / 4294967296) (by omega), blen8 (x := x.toNat / 4294967296 / 65536) (by omega), show (x / 4294967296 / 65536 / 256).toNat = x.toNat / 4294967296 / 65536 / 256 by omega]; omega)
    | (rw [blen32 (x := x.toNat) (by omega), blen16 (x := x.toNat / 4294967296) (by omega), show (x / 4294967296 / 65536).toNat = x.toNat / 4294967296 / 65536 by omega]; omega)
    | (rw [blen32 (x := x.toNat) (by omega), blen8 (x := x.toNat / 4294967296) (by omega), show (x / 4294967296 / 256).toNat = x.toNat / 4294967296 / 256 by omega]; omega)
    | (rw [blen32 (x := x.toNat) (by omega), show (x / 4294967296).toNat = x.toNat / 4294967296 by omega]; omega)
    | (rw [blen16 (x := x.toNat) (by omega), blen8 (x := x.toNat / 65536) (by omega), show (x / 65536 / 256).toNat = x.toNat / 65536 / 256 by omega]; omega)
    | (rw [blen16 (x := x.toNat) (by omega), show (x / 65536).toNat = x.toNat / 65536 by omega]; omega)
    | (rw [blen8 (x := x.toNat) (by omega), show (x / 256).toNat = x.toNat / 256 by omega]; omega)
    | omega
theorem len_ok (x : Int) (h0 : 0 ≤ x) (h1 : x ≤ 18446744073709551615) : CallP Try.prog 52 [.int .u64 x] (.int .i64 (blen x.toNat)) := by
  refine enterP (tb := tb) Try.func52 rfl Try.ntmps52 rfl fun w => ?_
  repeat' (first | (apply R.is1; first | (apply R.isCall; first | apply R.callP rfl rfl rfl (len64_ok _ (by omega) (by omega))) | (apply R.pure; exact rfl; first | (apply Ok1.move; exact rfl) | (apply Ok1.assign; exact rfl) | (apply Ok1.convI64; (iterate 5 exact rfl); omega; omega) | (apply Ok1.convU64; (iterate 5 exact rfl); omega; omega) | (apply Ok1.convU32; (iterate 5 exact rfl); omega; omega) | (apply Ok1.convU8; (iterate 5 exact rfl); omega; omega) | (apply Ok1.conv; (iterate 5 exact rfl)))) | (apply R.is0; first | fail) | (apply R.isG; first | (apply R.guard_run; exact rfl; exact rfl) | (apply R.guard_not; (iterate 3 exact rfl)) | (apply R.guard_not0; exact rfl; exact rfl) | (apply R.guard_un; (iterate 3 exact rfl)) | (apply R.guard_un0; exact rfl; exact rfl) | (apply R.guard rfl rfl ?_ (fun h => ⟨rfl, ?_⟩) <;> try intro)) | apply R.nil | (apply T.is; first | apply T.seq | apply T.region | apply T.block | apply T.scope | apply T.label | apply T.skip | apply T.exit | apply T.ret | (apply T.cond_t; exact rfl) | (apply T.cond_f; exact rfl) | (apply T.cond_h; exact rfl; assumption) | (apply T.cond_n; exact rfl; assumption) | (apply T.cond rfl <;> intro)) | apply Rnd.step)
  all_goals (apply RetOk.t; exact rfl)
  rfl
end Go.Proofs.Ytdoljkafkpgkbaa
