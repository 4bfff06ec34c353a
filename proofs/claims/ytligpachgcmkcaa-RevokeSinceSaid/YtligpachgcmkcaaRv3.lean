/- Contracts of revoke: is one revoked, versions joined, covered; few. -/
import Derived.Test.YtligpachgcmkcaaRv2
set_option linter.unusedSimpArgs false
set_option linter.unusedVariables false
namespace Go.Proofs.Ytligpachgcmkcaa
open Go.RowKit Go.Shelf
set_option maxRecDepth 100000

theorem has_ok (bs : Nat) (gs : List Lg) (hg : GOk gs) (s : Int) (w : World) (hs : SetR w bs gs) :
    CallM Try.prog 19 [.pointer (some ⟨bs, 0, none⟩), .int .i64 s] [] w fun v L => v = .bool (decide (s ∈ lcat gs)) ∧ L = [] := by
  have hall := fun w1 (hc : Chg [] w w1) => rall_ok bs gs hg w1 (hs.chg hc)
  have hle := hg.cat 4
  rw [List.take_of_length_le (by rw [hg.len]; omega)] at hle
  have hul := uniq_le (lcat gs)
  have hum : decide (s ∈ lcat gs) = decide (s ∈ uniq (lcat gs)) := by simp only [uniq_mem]
  rw [hum]
  generalize uniq (lcat gs) = us at *
  refine enterK (tb := tb) Try.func19 rfl Try.ntmps19 rfl ?_
  repeat' (first | (apply R.is1; first | (apply R.isCall; first | (apply R.callE (vs := [.pointer (some ⟨bs, 0, none⟩)]); (iterate 3 exact rfl); exact Ext.none _; intro w1 hw1; exact hall w1 hw1.chg; rintro v Lo ⟨ov, hov, rfl, rfl⟩; rw [slV_eq hov]) | (apply R.callV (vs := [.slice (ovp ov) us.length (ovc ov us.length), .int .i64 s]); (iterate 3 exact rfl); intro w1 hw1; exact contains_ok (ovp ov) us.length (ovc ov us.length) us rfl (by omega) s w1 (irdown hov hw1 (Ext.mem (by (focus ((repeat' (exact Ext.here _ _)); done))))))) | (apply R.pure; exact rfl; first | (apply Ok1.move; exact rfl) | (apply Ok1.assign; exact rfl))) | apply R.nil | (apply T.is; first | apply T.seq | apply T.region | apply T.ret))
  (apply RetOk.t; exact rfl)
  exact ⟨_, by (focus ((repeat' (exact Keep.nil _)); done)), rfl, rfl⟩
theorem has_nil (s : Int) (w : World) : CallM Try.prog 19 [.pointer none, .int .i64 s] [] w fun v L => v = .bool false ∧ L = [] := by
  have hall := fun w1 => rall_nil w1
  refine enterK (tb := tb) Try.func19 rfl Try.ntmps19 rfl ?_
  repeat' (first | (apply R.is1; first | (apply R.isCall; first | (apply R.callE (vs := [.pointer none]); (iterate 3 exact rfl); exact Ext.none _; intro w1 hw1; exact hall w1; rintro v Lo ⟨ov, hov, rfl, rfl⟩; rw [slV_eq hov]) | (apply R.callV (vs := [.slice (ovp ov) 0 (ovc ov 0), .int .i64 s]); (iterate 3 exact rfl); intro w1 hw1; exact contains_ok (ovp ov) 0 (ovc ov 0) [] rfl (by decide) s w1 (.inl rfl))) | (apply R.pure; exact rfl; first | (apply Ok1.move; exact rfl) | (apply Ok1.assign; exact rfl))) | apply R.nil | (apply T.is; first | apply T.seq | apply T.region | apply T.ret))
  (apply RetOk.t; exact rfl)
  exact ⟨_, by (focus ((repeat' (exact Keep.nil _)); done)), rfl, rfl⟩
theorem rnew_ok (w : World) : CallM Try.prog 12 [] [] w fun v L => ∃ bs, v = .pointer (some ⟨bs, 0, none⟩) ∧ L = SetL bs [lg0, lg0, lg0, lg0] := by
  refine enterK (tb := tb) Try.func12 rfl Try.ntmps12 rfl ?_
  repeat' (first | (apply R.is1; first | (apply R.pure; exact rfl; first | (apply Ok1.assign; exact rfl) | (apply Ok1.build; (iterate 5 exact rfl))) | (apply R.box; (iterate 3 exact rfl); intro)) | apply R.nil | (apply T.is; first | apply T.seq | apply T.region | apply T.ret))
  (apply RetOk.t; exact rfl)
  exact ⟨_, Keep.last (.all _), _, rfl, rfl⟩
theorem GOk.new : GOk [lg0, lg0, lg0, lg0] := ⟨rfl, by intro g h; simp only [List.mem_cons, List.not_mem_nil, or_false, or_self] at h; rw [h]; exact lg0_ok, by intro g h; simp only [List.mem_cons, List.not_mem_nil, or_false, or_self] at h; rw [h]; decide⟩
theorem few_ok (p : Option Addr) (n cap : Nat) (xs : List Int) (hn : n = xs.length) (hcap : n ≤ cap) (k : Nat) (hk : k ≤ 1000) (w : World) (hp : RdSl w p iV xs) :
    CallM Try.prog 16 [.slice p n cap, .int .i64 k] [] w fun v L => ∃ ov, OvOk 1 ov (min n k) (iis (xs.take k)) ∧ v = slV ov (min n k) ∧ L = blkL 3 ov (iis (xs.take k)) := by
  subst hn
  have hmin : (min (xs.length : Int) k) = ((min xs.length k : Nat) : Int) := by omega
  have hl : (xs.take k).length = min xs.length k := by rw [List.length_take]; omega
  have hp2 := hp.pre iV_len k
  refine enterK (tb := tb) Try.func16 rfl Try.ntmps16 rfl ?_
  repeat' (first | (apply R.is1; first | (apply R.buildSlice0; (iterate 4 exact rfl); intro b0) | (apply R.isCall; first | (apply R.appendRd (xs := xs.take k) (v := iV) (sz := 1) (ov := some (b0, 0, [])) (n := 0) (old := []) (m := min xs.length k); (iterate 12 exact rfl); exact ⟨rfl, rfl⟩; (focus ((repeat' (exact Ext.one _ _)); done)); exact hl.symm; exact iV_len; exact rfl; (intro w1 hw1; exact hp2.chg hw1.chg (Off.nil _)); (focus (rw [fl_i]; exact iis_one _)); omega; intro ov1 hov1 hsome) | (apply R.pure; exact rfl; first | (apply Ok1.lenS; (iterate 3 exact rfl)) | (apply Ok1.min2; exact rfl; exact rfl))) | (apply R.pure; exact rfl; first | (apply Ok1.preR (i := min xs.length k); (iterate 4 exact rfl); exact congrArg (fun z => some (Value.int .i64 z)) hmin; omega) | (apply Ok1.move; exact rfl) | (apply Ok1.assign; exact rfl))) | apply R.nil | (apply T.is; first | apply T.seq | apply T.region | apply T.ret))
  rw [Nat.zero_add, List.nil_append, fl_i] at hov1
  rw [Nat.zero_add, List.nil_append, fl_i]
  repeat' (fail)
  (apply RetOk.t; exact rfl)
  refine ⟨_, ?_, ov1, hov1, rfl, rfl⟩
  (focus ((repeat' (first | exact Ext.here _ _ | apply Keep.last)); done))
theorem join_ok (a0 a1 a2 a3 b0 b1 b2 b3 : Int) : CallP Try.prog 40 [.agg ⟨[.int .i64 a0, .int .i64 a1, .int .i64 a2, .int .i64 a3]⟩, .agg ⟨[.int .i64 b0, .int .i64 b1, .int .i64 b2, .int .i64 b3]⟩] (.agg ⟨[.int .i64 (max a0 b0), .int .i64 (max a1 b1), .int .i64 (max a2 b2), .int .i64 (max a3 b3)]⟩) := by
  refine enterP (tb := tb) Try.func40 rfl Try.ntmps40 rfl fun w => ?_
  repeat' (first | (apply R.is1; first | (apply R.isBin; (apply R.pure; exact rfl; first | (apply Ok1.add64; exact rfl; exact rfl; omega; omega) | (apply Ok1.lss_t; exact rfl; exact rfl; omega) | (apply Ok1.lss_f; exact rfl; exact rfl; omega))) | (apply R.pure; exact rfl; first | (apply Ok1.move; exact rfl) | (apply Ok1.load; exact rfl; (apply Ld.ownk; exact rfl; exact rfl; (focus ((repeat' (first | exact At.head | apply At.tail)); done)); exact rfl)) | (apply Ok1.assign; exact rfl)) | (apply R.box; (iterate 3 exact rfl); intro) | (apply R.alloc; (iterate 3 exact rfl); intro)) | (apply R.is0; (apply R.store; (iterate 6 exact rfl); exact Upd.head; exact rfl)) | apply R.nil | (apply T.is; first | apply T.rounds 5 | (apply T.drawC (id := 4) [0,1] (by decide); ((apply A.take 0; exact rfl; exact rfl; kernel_rfl; kernel_rfl; kernel_rfl; (apply Ok1.move; exact rfl)) <;> (apply A.take 1; exact rfl; exact rfl; kernel_rfl; kernel_rfl; kernel_rfl; (apply Ok1.move; exact rfl)) <;> (apply A.take 2; exact rfl; exact rfl; kernel_rfl; kernel_rfl; kernel_rfl; (apply Ok1.indexAddrA; (iterate 5 exact rfl); omega; omega)) <;> (apply A.take 4; exact rfl; exact rfl; kernel_rfl; kernel_rfl; kernel_rfl; (apply Ok1.move; exact rfl)) <;> (apply A.take 5; exact rfl; exact rfl; kernel_rfl; kernel_rfl; kernel_rfl; (apply Ok1.indexAddrA; (iterate 5 exact rfl); omega; omega)) <;> (apply A.take 6; exact rfl; exact rfl; kernel_rfl; kernel_rfl; kernel_rfl; (apply Ok1.load; exact rfl; (apply Ld.own1; exact rfl; exact rfl; (focus ((repeat' (first | exact At.head | apply At.tail)); done)); exact rfl))) <;> (apply A.one 3; kernel_rfl; exact rfl; (((apply R.pure; exact rfl; (apply Ok1.load; exact rfl; (apply Ld.own1; exact rfl; exact rfl; (focus ((repeat' (first | exact At.head | apply At.tail)); done)); exact rfl))))); apply R.nil; refine ⟨?_, ?_⟩; (focus ((repeat' (first | exact trivial | (refine ⟨?_, ?_⟩; (focus ((repeat' (first | exact At.head | apply At.tail)); done)))))))) <;> (apply A.take 7; exact rfl; exact rfl; kernel_rfl; kernel_rfl; kernel_rfl; (apply Ok1.max2; exact rfl; exact rfl)) <;> (apply A.take 8; exact rfl; exact rfl; kernel_rfl; kernel_rfl; kernel_rfl; (apply Ok1.indexAddrA; (iterate 5 exact rfl); omega; omega)) <;> (apply A.one 9; kernel_rfl; exact rfl; (((apply R.store; (iterate 6 exact rfl); (focus ((repeat' (first | exact Upd.head | apply Upd.tail)); done)); exact rfl))); apply R.nil; refine ⟨?_, ?_⟩; (focus ((repeat' (first | exact trivial | (refine ⟨?_, ?_⟩; (focus ((repeat' (first | exact At.head | apply At.tail)); done)))))))) <;> (apply A.done; kernel_rfl))) | apply T.seq | apply T.region | apply T.block | apply T.skip | apply T.exit | apply T.ret | (apply T.cond_t; exact rfl) | (apply T.cond_f; exact rfl)))
  all_goals (apply RetOk.c; exact rfl; ((apply Ld.ownk; exact rfl; exact rfl; exact At.head; exact rfl)))
  all_goals rfl
end Go.Proofs.Ytligpachgcmkcaa
