/- A nil ring; the statement KeysNil: its walk. -/
import Derived.Test.YtiegdpmkgegbaaaKy3
import Derived.Test.YtiegdpmkgegbaaaEng29
set_option linter.unusedSimpArgs false
set_option linter.unusedVariables false
namespace Go.Proofs.Ytiegdpmkgegbaaa
open Go.RowKit Go.Shelf
set_option maxRecDepth 100000

theorem rto_nil (n : Int) : CallP Try.prog 16 [.pointer none, .int .i64 n] (.tuple #[.pointer none, .int .i64 11]) := by
  refine enterP (tb := tb) Try.func16 rfl Try.ntmps16 rfl fun w0 => ?_
  repeat' (first | (apply R.is1; first | (apply R.isBin; (apply R.pure; exact rfl; (apply Ok1.eqlP; (iterate 5 exact rfl)))) | (apply R.pure; exact rfl; first | (apply Ok1.move; exact rfl) | (apply Ok1.assign; exact rfl))) | apply R.nil | (apply T.is; first | apply T.seq | apply T.region | apply T.ret | (apply T.cond_t; exact rfl)))
  all_goals (apply RetOk.tt; exact rfl; exact rfl)
  all_goals rfl
theorem rseed_nil (n : Int) : CallP Try.prog 39 [.pointer none, .int .i64 n] (.tuple #[.pointer none, .int .i64 11]) := by
  refine enterP (tb := tb) Try.func39 rfl Try.ntmps39 rfl fun w0 => ?_
  repeat' (first | (apply R.is1; first | (apply R.isBin; (apply R.pure; exact rfl; (apply Ok1.eqlP; (iterate 5 exact rfl)))) | (apply R.pure; exact rfl; first | (apply Ok1.move; exact rfl) | (apply Ok1.assign; exact rfl))) | apply R.nil | (apply T.is; first | apply T.seq | apply T.region | apply T.ret | (apply T.cond_t; exact rfl)))
  all_goals (apply RetOk.tt; exact rfl; exact rfl)
  all_goals rfl
theorem rfrom_nil (c : Cl) : CallP Try.prog 32 [.pointer none, kvC c] (.tuple #[.pointer none, .int .i64 11]) := by
  refine enterP (tb := tb) Try.func32 rfl Try.ntmps32 rfl fun w0 => ?_
  simp only [kvC]
  repeat' (first | (apply R.is1; first | (apply R.isBin; (apply R.pure; exact rfl; (apply Ok1.eqlP; (iterate 5 exact rfl)))) | (apply R.pure; exact rfl; first | (apply Ok1.move; exact rfl) | (apply Ok1.assign; exact rfl)) | (apply R.box; (iterate 3 exact rfl); intro)) | apply R.nil | (apply T.is; first | apply T.seq | apply T.region | apply T.block | apply T.ret | (apply T.cond_t; exact rfl)))
  all_goals (apply RetOk.tt; exact rfl; exact rfl)
  all_goals rfl
theorem rlabel_nil (n : Int) : CallP Try.prog 35 [.pointer none, .int .i64 n] (.tuple #[.pointer none, .int .i64 11]) := by
  refine enterP (tb := tb) Try.func35 rfl Try.ntmps35 rfl fun w0 => ?_
  repeat' (first | (apply R.is1; first | (apply R.isBin; (apply R.pure; exact rfl; (apply Ok1.eqlP; (iterate 5 exact rfl)))) | (apply R.pure; exact rfl; first | (apply Ok1.move; exact rfl) | (apply Ok1.assign; exact rfl))) | apply R.nil | (apply T.is; first | apply T.seq | apply T.region | apply T.block | apply T.ret | (apply T.cond_t; exact rfl)))
  all_goals (apply RetOk.tt; exact rfl; exact rfl)
  all_goals rfl
theorem radd_nil (c : Cl) (k : Option Addr) : CallP Try.prog 29 [.pointer none, kvC c, .pointer k] (.int .i64 11) := by
  refine enterP (tb := tb) Try.func29 rfl Try.ntmps29 rfl fun w0 => ?_
  simp only [kvC]
  repeat' (first | (apply R.is1; first | (apply R.isBin; (apply R.pure; exact rfl; (apply Ok1.eqlP; (iterate 5 exact rfl)))) | (apply R.pure; exact rfl; first | (apply Ok1.move; exact rfl) | (apply Ok1.assign; exact rfl)) | (apply R.box; (iterate 3 exact rfl); intro)) | apply R.nil | (apply T.is; first | apply T.seq | apply T.region | apply T.ret | (apply T.cond_t; exact rfl)))
  all_goals (apply RetOk.t; exact rfl)
  all_goals rfl
theorem rlearn_nil (n : Int) (k : Option Addr) : CallP Try.prog 33 [.pointer none, .int .i64 n, .pointer k] (.int .i64 11) := by
  refine enterP (tb := tb) Try.func33 rfl Try.ntmps33 rfl fun w0 => ?_
  repeat' (first | (apply R.is1; first | (apply R.isBin; (apply R.pure; exact rfl; (apply Ok1.eqlP; (iterate 5 exact rfl)))) | (apply R.pure; exact rfl; first | (apply Ok1.move; exact rfl) | (apply Ok1.assign; exact rfl))) | apply R.nil | (apply T.is; first | apply T.seq | apply T.region | apply T.block | apply T.ret | (apply T.cond_t; exact rfl)))
  all_goals (apply RetOk.t; exact rfl)
  all_goals rfl
theorem rdrop_nil (p : Option Addr) (n cap : Nat) : CallP Try.prog 31 [.pointer none, .slice p n cap] (.int .i64 0) := by
  refine enterP (tb := tb) Try.func31 rfl Try.ntmps31 rfl fun w0 => ?_
  repeat' (first | (apply R.is1; first | (apply R.isBin; (apply R.pure; exact rfl; (apply Ok1.eqlP; (iterate 5 exact rfl)))) | (apply R.pure; exact rfl; first | (apply Ok1.move; exact rfl) | (apply Ok1.assign; exact rfl))) | apply R.nil | (apply T.is; first | apply T.seq | apply T.region | apply T.scope | apply T.ret | (apply T.cond_t; exact rfl)))
  all_goals (apply RetOk.t; exact rfl)
  all_goals rfl
theorem rknown_nil : CallP Try.prog 36 [.pointer none] (.slice none 0 0) := by
  refine enterP (tb := tb) Try.func36 rfl Try.ntmps36 rfl fun w0 => ?_
  repeat' (first | (apply R.is1; first | (apply R.isBin; (apply R.pure; exact rfl; (apply Ok1.eqlP; (iterate 5 exact rfl)))) | (apply R.pure; exact rfl; first | (apply Ok1.move; exact rfl) | (apply Ok1.assign; exact rfl))) | apply R.nil | (apply T.is; first | apply T.seq | apply T.region | apply T.ret | (apply T.cond_t; exact rfl)))
  all_goals (apply RetOk.t; exact rfl)
  all_goals rfl
theorem rown_nil : CallP Try.prog 27 [.pointer none] (.agg ⟨tkC ⟨0, 0, 0, 0⟩ (zI 32)⟩) := by
  refine enterP (tb := tb) Try.func27 rfl Try.ntmps27 rfl fun w0 => ?_
  repeat' (first | (apply R.is1; first | (apply R.isBin; (apply R.pure; exact rfl; (apply Ok1.eqlP; (iterate 5 exact rfl)))) | (apply R.pure; exact rfl; first | (apply Ok1.move; exact rfl) | (apply Ok1.build; (iterate 5 exact rfl))) | (apply R.alloc; (iterate 3 exact rfl); intro)) | (apply R.is0; (apply R.store; (iterate 6 exact rfl); exact Upd.head; exact rfl)) | apply R.nil | (apply T.is; first | apply T.seq | apply T.region | apply T.ret | (apply T.cond_t; exact rfl)))
  all_goals (apply RetOk.c; exact rfl; ((apply Ld.ownk; exact rfl; exact rfl; exact At.head; exact rfl)))
  all_goals rfl
theorem keysNil_ok (c : Cl) (n : Int) : CallP Try.prog 6 [kvC c, .int .i64 n] (.bool true) := by
  have hkn := known_ok
  have hrc := right_ok c.id c.roles c.exp c.ser
  have h1 := rto_nil n
  have h2 := rseed_nil n
  have h3 := rfrom_nil c
  have h4 := rlabel_nil n
  have h5 := sender_nil n
  have h6 := grant_nil c n
  have h7 := radd_nil c none
  have h8 := rlearn_nil n none
  have h9 := rknown_nil
  have h10 := rown_nil
  simp only [kvC] at h3 h6 h7
  by_cases hr : c.right
  · rw [decide_eq_true hr] at hrc
    have hnew := fun w => ring_new c hr (zI 32) rfl w
    refine enterP (tb := tb) Try.func6 rfl Try.ntmps6 rfl fun w0 => ?_
    simp only [kvC]
    repeat' (first | (apply R.is1; first | (apply R.isBin; (apply R.pure; exact rfl; first | (apply Ok1.eqlFq2; (iterate 7 exact rfl); exact ⟨fun _ => rfl, fun _ => rfl⟩) | (apply Ok1.eqlB2; (iterate 4 exact rfl)) | (apply Ok1.eql_t; exact rfl; exact rfl; omega) | (apply Ok1.neq_f; exact rfl; exact rfl; omega) | (apply Ok1.eqlP; (iterate 5 exact rfl)))) | (apply R.isCall; first | apply R.callP rfl rfl rfl hkn | apply R.callP rfl rfl rfl hrc | apply R.callP rfl rfl rfl (to5_ok _ _ _ _) | (apply R.callE (vs := [.agg ⟨tkC c (zI 32)⟩]); (iterate 3 exact rfl); exact Ext.none _; intro w1 hw1; exact hnew w1; rintro x Lo ⟨br, m1, m2, rfl, rfl⟩) | apply R.callP rfl rfl rfl h1 | apply R.callP rfl rfl rfl h2 | apply R.callP rfl rfl rfl h3 | apply R.callP rfl rfl rfl h4 | apply R.callP rfl rfl rfl h5 | apply R.callP rfl rfl rfl h6 | apply R.callP rfl rfl rfl h7 | apply R.callP rfl rfl rfl h8 | apply R.callP rfl rfl rfl (rdrop_nil _ 1 1) | apply R.callP rfl rfl rfl h9 | apply R.callP rfl rfl rfl h10 | (apply R.pure; exact rfl; (apply Ok1.lenS; (iterate 3 exact rfl)))) | (apply R.pure; exact rfl; first | (apply Ok1.move; exact rfl) | (apply Ok1.load; exact rfl; (apply Ld.ownk; exact rfl; exact rfl; (focus ((repeat' (first | exact At.head | apply At.tail)); done)); exact rfl)) | (apply Ok1.assign; exact rfl) | (apply Ok1.build; (iterate 5 exact rfl)) | (apply Ok1.extract; exact rfl; exact rfl) | (apply Ok1.pick_t; exact rfl; exact rfl)) | (apply R.box; (iterate 3 exact rfl); intro) | (apply R.buildSlice; (iterate 12 exact rfl); intro)) | (apply R.isG; (apply R.guard_run; exact rfl; exact rfl)) | apply R.nil | (apply T.is; first | apply T.seq | apply T.region | apply T.ret))
    all_goals (apply RetOk.t; exact rfl)
    all_goals rfl
  · rw [decide_eq_false hr] at hrc
    have hnew := ring_bad c hr (zI 32) rfl
    refine enterP (tb := tb) Try.func6 rfl Try.ntmps6 rfl fun w0 => ?_
    simp only [kvC]
    repeat' (first | (apply R.is1; first | (apply R.isBin; (apply R.pure; exact rfl; first | (apply Ok1.eqlFq2; (iterate 7 exact rfl); exact ⟨fun _ => rfl, fun _ => rfl⟩) | (apply Ok1.eqlB2; (iterate 4 exact rfl)) | (apply Ok1.eql_t; exact rfl; exact rfl; omega) | (apply Ok1.eql_f; exact rfl; exact rfl; omega) | (apply Ok1.neq_t; exact rfl; exact rfl; omega) | (apply Ok1.eqlP; (iterate 5 exact rfl)))) | (apply R.isCall; first | apply R.callP rfl rfl rfl hkn | apply R.callP rfl rfl rfl hrc | apply R.callP rfl rfl rfl (to5_ok _ _ _ _) | apply R.callP rfl rfl rfl hnew | apply R.callP rfl rfl rfl h1 | apply R.callP rfl rfl rfl h2 | apply R.callP rfl rfl rfl h3 | apply R.callP rfl rfl rfl h4 | apply R.callP rfl rfl rfl h5 | apply R.callP rfl rfl rfl h6 | apply R.callP rfl rfl rfl h7 | apply R.callP rfl rfl rfl h8 | apply R.callP rfl rfl rfl (rdrop_nil _ 1 1) | apply R.callP rfl rfl rfl h9 | apply R.callP rfl rfl rfl h10 | (apply R.pure; exact rfl; (apply Ok1.lenS; (iterate 3 exact rfl)))) | (apply R.pure; exact rfl; first | (apply Ok1.move; exact rfl) | (apply Ok1.load; exact rfl; (apply Ld.ownk; exact rfl; exact rfl; exact At.head; exact rfl)) | (apply Ok1.assign; exact rfl) | (apply Ok1.build; (iterate 5 exact rfl)) | (apply Ok1.extract; exact rfl; exact rfl) | (apply Ok1.pick_t; exact rfl; exact rfl)) | (apply R.box; (iterate 3 exact rfl); intro) | (apply R.buildSlice; (iterate 12 exact rfl); intro)) | (apply R.isG; (apply R.guard_run; exact rfl; exact rfl)) | apply R.nil | (apply T.is; first | apply T.seq | apply T.region | apply T.ret))
    all_goals (apply RetOk.t; exact rfl)
    all_goals rfl
end Go.Proofs.Ytiegdpmkgegbaaa
