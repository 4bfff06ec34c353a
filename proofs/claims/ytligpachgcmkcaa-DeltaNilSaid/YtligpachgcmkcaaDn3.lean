/- The statement DeltaNil: its walk, the rest. -/
import Derived.Test.YtligpachgcmkcaaDn2
set_option linter.unusedSimpArgs false
set_option linter.unusedVariables false
namespace Go.Proofs.Ytligpachgcmkcaa
open Go.RowKit Go.Shelf
set_option maxRecDepth 100000

theorem answer_nil (v : List Value) (hv : v.length = 4) (room : Int) : CallP Try.prog 45 [.pointer none, .agg ⟨v⟩, .int .i64 room] (.tuple #[.agg ⟨noD⟩, .int .i64 11]) := by
  refine enterP (tb := tb) Try.func45 rfl Try.ntmps45 rfl fun w => ?_
  repeat' (first | (apply R.is1; first | (apply R.isBin; (apply R.pure; exact rfl; (apply Ok1.eqlP; (iterate 5 exact rfl)))) | (apply R.pure; exact rfl; first | (apply Ok1.move; exact rfl) | (apply Ok1.assign; exact rfl) | (apply Ok1.build; (iterate 5 exact rfl))) | (apply R.box; (iterate 3 exact rfl); intro) | (apply R.alloc; (iterate 3 exact rfl); intro)) | (apply R.is0; (apply R.store; (iterate 6 exact rfl); exact Upd.head; exact rfl)) | apply R.nil | (apply T.is; first | apply T.seq | apply T.region | apply T.block | apply T.ret | (apply T.cond_t; exact rfl)))
  all_goals (apply RetOk.ct; exact rfl; ((apply Ld.ownk; exact rfl; exact rfl; exact At.head; exact rfl)); exact rfl)
  all_goals rfl
theorem size_zero : CallP Try.prog 49 [.agg ⟨noD⟩] (.int .i64 16) := by
  refine enterP (tb := tb) Try.func49 rfl Try.ntmps49 rfl fun w => ?_
  simp only [noD]
  repeat' (first | (apply R.is1; first | (apply R.isBin; (apply R.pure; exact rfl; first | (apply Ok1.add64; exact rfl; exact rfl; omega; omega) | (apply Ok1.lss_t; exact rfl; exact rfl; omega) | (apply Ok1.lss_f; exact rfl; exact rfl; omega) | (apply Ok1.mul64; exact rfl; exact rfl; omega; omega))) | (apply R.isCall; (apply R.pure; exact rfl; (apply Ok1.lenS; (iterate 3 exact rfl)))) | (apply R.pure; exact rfl; first | (apply Ok1.move; exact rfl) | (apply Ok1.fieldAddr; (iterate 5 exact rfl)) | (apply Ok1.load; exact rfl; (apply Ld.ownk; exact rfl; exact rfl; exact At.head; exact rfl)) | (apply Ok1.assign; exact rfl) | (apply Ok1.index1; (iterate 6 exact rfl); omega; omega; exact rfl)) | (apply R.box; (iterate 3 exact rfl); intro)) | apply R.nil | (apply T.is; first | apply T.rounds 5 | apply T.seq | apply T.region | apply T.block | apply T.skip | apply T.exit | apply T.ret | (apply T.cond_t; exact rfl) | (apply T.cond_f; exact rfl)))
  all_goals (apply RetOk.t; exact rfl)
  all_goals rfl
theorem merge_nil (b : Nat) (w : World) (hb : w.heap[b]? = some (.cells ⟨noD⟩ 41 (0, 0))) : CallM Try.prog 46 [.pointer none, .slice (some ⟨b, 0, none⟩) 1 1] [] w fun v L => ∃ ov, OvOk 1 ov 1 [.int .i64 11] ∧ v = .tuple #[.int .i64 0, slV ov 1] ∧ L = blkL 35 ov [.int .i64 11] := by
  have hap := apply_nil [(0, ⟨none, 0, []⟩), (0, ⟨none, 0, []⟩), (0, ⟨none, 0, []⟩), (0, ⟨none, 0, []⟩)]
  have he : dlV [(0, ⟨none, 0, []⟩), (0, ⟨none, 0, []⟩), (0, ⟨none, 0, []⟩), (0, ⟨none, 0, []⟩)] = noD := rfl
  rw [he] at hap
  have h0 : OvOk 1 none 0 [] := OvOk.start 1
  refine enterK (tb := tb) Try.func46 rfl Try.ntmps46 rfl ?_
  repeat' (first | (apply R.is1; first | (apply R.isBin; (apply R.pure; exact rfl; first | (apply Ok1.add64; exact rfl; exact rfl; omega; omega) | (apply Ok1.lss_t; exact rfl; exact rfl; omega) | (apply Ok1.lss_f; exact rfl; exact rfl; omega))) | (apply R.isCall; first | apply R.callP rfl rfl rfl hap | (apply R.append1; (iterate 12 exact rfl); (focus ((repeat' (exact OwnAt.nil _)); done)); exact At.head; exact rfl; exact rfl; omega; omega; intro b2 j2 k2 hj2) | (apply R.pure; exact rfl; (apply Ok1.lenS; (iterate 3 exact rfl)))) | (apply R.pure; exact rfl; first | (apply Ok1.load; exact rfl; first | (apply Ld.blkk; exact rfl; exact rfl; exact hb; exact List.not_mem_nil; exact rfl) | (apply Ld.ownk; exact rfl; exact rfl; exact At.head; exact rfl)) | (apply Ok1.move; exact rfl) | (apply Ok1.assign; exact rfl) | (apply Ok1.indexAddr; (iterate 5 exact rfl); omega; omega) | (apply Ok1.extract; exact rfl; exact rfl)) | (apply R.alloc; (iterate 3 exact rfl); intro) | (apply R.buildSlice; (iterate 12 exact rfl); intro)) | (apply R.is0; (apply R.store; (iterate 6 exact rfl); exact Upd.head; exact rfl)) | apply R.nil | (apply T.is; first | apply T.rounds 2 | apply T.seq | apply T.region | apply T.block | apply T.skip | apply T.exit | apply T.ret | (apply T.cond_t; exact rfl) | (apply T.cond_f; exact rfl)))
  all_goals (apply RetOk.tt; exact rfl; exact rfl)
  all_goals exact ⟨_, by (focus ((repeat' (first | exact Keep.nil _ | exact Ext.one _ _ | apply Keep.cons)); done)), some (b2, j2, k2), ⟨rfl, hj2⟩, rfl, rfl⟩
theorem ask_nil (v0 v1 v2 v3 : Int) (p8 : List Int) (hp : p8.length = 8) : CallP Try.prog 47 [.pointer none, .agg ⟨dgV [v0, v1, v2, v3] p8⟩] (.tuple #[.agg ⟨[.int .i64 0, .int .i64 0, .int .i64 0, .int .i64 0]⟩, .bool (decide (0 < v0 ∨ 0 < v1 ∨ 0 < v2 ∨ 0 < v3))]) := by
  have hvn := versions_nil
  have hcv := covers_ok 0 0 0 0 v0 v1 v2 v3
  have hs4 : subE (dgV [v0, v1, v2, v3] p8) 0 4 = some [.int .i64 v0, .int .i64 v1, .int .i64 v2, .int .i64 v3] := subE_app _ _ rfl
  generalize dgV [v0, v1, v2, v3] p8 = D at *
  refine enterP (tb := tb) Try.func47 rfl Try.ntmps47 rfl fun w => ?_
  by_cases h : v0 ≤ 0 ∧ v1 ≤ 0 ∧ v2 ≤ 0 ∧ v3 ≤ 0
  · rw [decide_eq_true h] at hcv
    rw [decide_eq_false (by omega)]
    repeat' (first | (apply R.is1; first | (apply R.isCall; first | apply R.callP rfl rfl rfl hvn | apply R.callP rfl rfl rfl hcv) | (apply R.pure; exact rfl; first | (apply Ok1.load; exact rfl; apply Ld.ownk; exact rfl; exact rfl; (focus ((repeat' (first | exact At.head | apply At.tail)); done)); exact hs4) | (apply Ok1.move; exact rfl) | (apply Ok1.fieldAddr; (iterate 5 exact rfl)) | (apply Ok1.load; exact rfl; (apply Ld.ownk; exact rfl; exact rfl; exact At.head; exact rfl)) | (apply Ok1.assign; exact rfl) | (apply Ok1.buildA; (iterate 6 exact rfl))) | (apply R.box; (iterate 3 exact rfl); intro) | (apply R.alloc; (iterate 3 exact rfl); intro)) | (apply R.is0; (apply R.store; (iterate 6 exact rfl); (focus ((repeat' (first | exact Upd.head | apply Upd.tail)); done)); exact rfl)) | apply R.nil | (apply T.is; first | apply T.seq | apply T.region | apply T.ret | (apply T.cond_t; exact rfl)))
    all_goals (apply RetOk.ct; exact rfl; ((apply Ld.ownk; exact rfl; exact rfl; (focus ((repeat' (first | exact At.head | apply At.tail)); done)); exact rfl)); exact rfl)
    all_goals rfl
  · rw [decide_eq_false h] at hcv
    rw [decide_eq_true (by omega)]
    repeat' (first | (apply R.is1; first | (apply R.isCall; first | apply R.callP rfl rfl rfl hvn | apply R.callP rfl rfl rfl hcv) | (apply R.pure; exact rfl; first | (apply Ok1.load; exact rfl; apply Ld.ownk; exact rfl; exact rfl; (focus ((repeat' (first | exact At.head | apply At.tail)); done)); exact hs4) | (apply Ok1.move; exact rfl) | (apply Ok1.fieldAddr; (iterate 5 exact rfl)) | (apply Ok1.load; exact rfl; (apply Ld.ownk; exact rfl; exact rfl; exact At.head; exact rfl)) | (apply Ok1.assign; exact rfl)) | (apply R.box; (iterate 3 exact rfl); intro) | (apply R.alloc; (iterate 3 exact rfl); intro)) | (apply R.is0; (apply R.store; (iterate 6 exact rfl); (focus ((repeat' (first | exact Upd.head | apply Upd.tail)); done)); exact rfl)) | apply R.nil | (apply T.is; first | apply T.seq | apply T.region | apply T.skip | apply T.ret | (apply T.cond_f; exact rfl)))
    all_goals (apply RetOk.ct; exact rfl; ((apply Ld.ownk; exact rfl; exact rfl; (focus ((repeat' (first | exact At.head | apply At.tail)); done)); exact rfl)); exact rfl)
    all_goals rfl
end Go.Proofs.Ytligpachgcmkcaa
