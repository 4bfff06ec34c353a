/- Contracts of wire: many numbers written. -/
import Derived.Test.YtligpachgcmkcaaWi2
import Derived.Test.YtligpachgcmkcaaEng29
import Derived.Test.YtligpachgcmkcaaSl3
set_option linter.unusedSimpArgs false
set_option linter.unusedVariables false
namespace Go.Proofs.Ytligpachgcmkcaa
open Go.RowKit Go.Shelf
set_option maxRecDepth 100000

def numsI (s : Nat) (xs : List Int) : List Int := xs.flatMap (numI s)
theorem nums_take {s : Nat} {xs : List Int} {i : Nat} {x : Int} (h : xs[i]? = some x) : numsI s (xs.take (i + 1)) = numsI s (xs.take i) ++ numI s x := by
  unfold numsI
  rw [List.take_add_one, h, List.flatMap_append]
  simp
theorem nums_le (s : Nat) (xs : List Int) : (numsI s xs).length ≤ 4 * xs.length := by
  induction xs with
  | nil => exact Nat.le_refl _
  | cons x l ih =>
    have := (num_len s x).2
    simp only [numsI, List.flatMap_cons, List.length_append, List.length_cons] at *
    omega
theorem numbers_ok (bw : Nat) (ov : Ov) (bs : List Int) (hov : OvOk 1 ov bs.length (u8s bs)) (s : Nat) (p : Option Addr) (n cap : Nat) (xs : List Int) (hn : n = xs.length) (hf : ∀ x ∈ xs, Fits s x) (hbig : bs.length + 4 * xs.length ≤ 1000) (w : World) (hp : RdSl w p iV xs) (hoff : xs ≠ [] → Off p (blks (WL bw ov bs))) :
    CallM Try.prog 65 [.pointer (some ⟨bw, 0, none⟩), .int .i64 s, .slice p n cap] (WL bw ov bs) w (WRes bw (bs ++ numsI s xs)) := by
  subst hn
  refine enterK (tb := tb) Try.func65 rfl Try.ntmps65 rfl ?_
  repeat' (first | (apply R.is1; first | (apply R.isCall; (apply R.pure; exact rfl; (apply Ok1.lenS; (iterate 3 exact rfl)))) | (apply R.pure; exact rfl; first | (apply Ok1.move; exact rfl) | (apply Ok1.assign; exact rfl))) | apply R.nil | (apply T.is; first | apply T.seq | apply T.region | apply T.block))
  apply T.loopK (α := Nat × Ov) (I := fun y => y.1 ≤ xs.length ∧ OvOk 1 y.2 (bs ++ numsI s (xs.take y.1)).length (u8s (bs ++ numsI s (xs.take y.1)))) (σi := fun y => [(0, .pointer (some ⟨bw, 0, none⟩)), (1, .int .i64 s), (9, .slice p xs.length cap), (10, .int .i64 xs.length), (11, .int .i64 y.1)]) (Li := fun y => WL bw y.2 (bs ++ numsI s (xs.take y.1))) (μ := fun y => xs.length - y.1) (i0 := (0, ov))
  · refine ⟨Nat.zero_le _, ?_⟩
    simpa [numsI] using hov
  · exact ⟨rfl, rfl, rfl, rfl, rfl, trivial⟩
  · simp only [List.take_zero, numsI, List.flatMap_nil, List.append_nil]
    (focus ((repeat' (first | exact Ext.one _ _ | exact Ext.all _ | apply Keep.cons | apply Keep.last)); done))
  · rintro ⟨i, ov1⟩ ⟨hi, hov1⟩
    simp only at hi hov1 ⊢
    rcases Nat.lt_or_ge i xs.length with hlt | hge
    · obtain ⟨x, hx⟩ : ∃ x, xs[i]? = some x := ⟨_, List.getElem?_eq_getElem (by omega)⟩
      obtain ⟨b, o, hpe, H⟩ := hp.at hx
      replace H := H 1 iV_len
      have hxf := hf x (List.mem_of_getElem? hx)
      have htk : (xs.take i).length = i := by rw [List.length_take]; omega
      have hnl := nums_le s (xs.take i)
      have hput := fun bf fz e w1 => put_ok bw ov1 (bs ++ numsI s (xs.take i)) hov1 s x hxf (by rw [List.length_append]; omega) bf fz e w1
      have hoff1 := hoff (by rintro rfl; cases hx)
      unfold WRes at hput
      rw [List.append_assoc, ← nums_take hx] at hput
      repeat' (first | (apply R.is1; first | (apply R.isBin; (apply R.pure; exact rfl; first | (apply Ok1.add64; exact rfl; exact rfl; omega; omega) | (apply Ok1.lss_t; exact rfl; exact rfl; omega))) | (apply R.isCall; (apply R.callE (Li := WL bw ov1 (bs ++ numsI s (xs.take i))); (iterate 3 exact rfl); (focus ((repeat' (first | exact Ext.all _ | apply Ext.cons)); done)); intro w1 hw1; exact hput _ _ _ w1 (hw1.get _ _ (At.mem (by exact At.head))) (RdSl.off hw1 (by (focus ((repeat' (first | exact Ext.all _ | apply Ext.cons)); done))) (At.mem (by exact At.head))); rintro v Lo ⟨ov2, rfl, hov2, rfl⟩)) | (apply R.pure; exact rfl; first | (apply Ok1.indexAddrP; (iterate 4 exact rfl); exact hpe; exact rfl; omega; omega) | (apply Ok1.load; exact rfl; apply Ld.row1 (f := 0) H; exact rfl; exact hoff1 _ hpe; (iterate 3 exact rfl)) | (apply Ok1.move; exact rfl) | (apply Ok1.assign; exact rfl) | (apply Ok1.build; (iterate 5 exact rfl))) | (apply R.buildSlice; (iterate 12 exact rfl); intro)) | apply R.nil | (apply T.is; first | apply T.seq | apply T.region | apply T.block | apply T.skip | (apply T.cond_t; exact rfl)))
      exact ⟨(i + 1, ov2), ⟨by simp only; omega, hov2⟩, by simp only; omega, ⟨rfl, rfl, rfl, rfl, rfl, trivial⟩, by (focus ((repeat' (first | exact Ext.one _ _ | exact Ext.here _ _ | apply Keep.cons | apply Keep.last)); done))⟩
    · have him : i = xs.length := by omega
      subst him
      rw [List.take_length] at hov1 ⊢
      repeat' (first | (apply R.is1; first | (apply R.isBin; (apply R.pure; exact rfl; (apply Ok1.lss_f; exact rfl; exact rfl; omega))) | (apply R.pure; exact rfl; first | (apply Ok1.move; exact rfl) | (apply Ok1.assign; exact rfl))) | apply R.nil | (apply T.is; first | apply T.seq | apply T.region | apply T.exit | apply T.ret | (apply T.cond_f; exact rfl)))
      (apply RetOk.t; exact rfl)
      exact ⟨_, by (focus ((repeat' (first | exact Ext.one _ _ | exact Ext.all _ | apply Keep.cons | apply Keep.last)); done)), ov1, rfl, hov1, rfl⟩
end Go.Proofs.Ytligpachgcmkcaa
/- Contracts: the document's bytes of a field. -/
set_option linter.unusedSimpArgs false
set_option linter.unusedVariables false
namespace Go.Proofs.Ytligpachgcmkcaa
open Go.RowKit Go.Shelf
set_option maxRecDepth 100000

theorem dwidth_ok (s : Nat) (k : Int) (hs : s = 0 ∨ s = 1 ∨ s = 2 ∨ s = 3) (hk : (pw s : Int) = k) : CallP Try.prog 94 [.int .i64 s] (.int .i64 k) := by
  subst hk
  rcases hs with rfl | rfl | rfl | rfl
  all_goals
    refine enterP (tb := tb) Try.func94 rfl Try.ntmps94 rfl fun w => ?_
    repeat' (first | (apply R.is1; (apply R.pure; exact rfl; first | (apply Ok1.move; exact rfl) | (apply Ok1.assign; exact rfl) | (apply Ok1.index1; (iterate 6 exact rfl); omega; omega; exact rfl) | (apply Ok1.buildA; (iterate 6 exact rfl)))) | apply R.nil | (apply T.is; first | apply T.seq | apply T.region | apply T.ret))
    (apply RetOk.t; exact rfl)
    rfl
theorem dout_ok (s : Nat) (n : Int) (h : Fits s n) (w : World) : CallM Try.prog 67 [.agg ⟨fldV s n⟩] [] w fun v L => ∃ ov, OvOk 1 ov (numI s n).length (u8s (numI s n)) ∧ v = slV ov (numI s n).length ∧ L = blkL 5 ov (u8s (numI s n)) := by
  have hn : n ≤ 4294967295 := by unfold Fits at h; omega
  have h0 := h.1
  have hs : s = 0 ∨ s = 1 ∨ s = 2 := by unfold Fits at h; omega
  unfold fldV
  rcases hs with rfl | rfl | rfl
  · refine enterK (tb := tb) Try.func67 rfl Try.ntmps67 rfl ?_
    repeat' (first | (apply R.is1; first | (apply R.isBin; (apply R.pure; exact rfl; first | (apply Ok1.add64; exact rfl; exact rfl; omega; omega) | (apply Ok1.lss_t; exact rfl; exact rfl; omega) | (apply Ok1.lss_f; exact rfl; exact rfl; omega) | (apply Ok1.eql_f; exact rfl; exact rfl; omega) | (apply Ok1.quo64; exact rfl; exact rfl; omega; omega; omega) | (apply Ok1.remN; exact rfl; exact rfl; omega; omega))) | (apply R.isCall; first | apply R.callP rfl rfl rfl (dwidth_ok 0 1 (by decide) rfl) | (apply R.appendSl (ov := some (_, 0, [])) (n := 1) (old := [_]) (ov2 := none) (m := 0) (news := []) (e3 := 5); (iterate 12 exact rfl); exact ⟨rfl, rfl⟩; exact ⟨rfl, rfl⟩; exact Ext.one _ _; exact (by simp [blkL]); exact rfl; omega; intro ov1 hov1)) | (apply R.pure; exact rfl; first | (apply Ok1.move; exact rfl) | (apply Ok1.fieldAddr; (iterate 5 exact rfl)) | (apply Ok1.load; exact rfl; (apply Ld.own1; exact rfl; exact rfl; (focus ((repeat' (first | exact At.head | apply At.right)); done)); exact rfl)) | (apply Ok1.assign; exact rfl) | (apply Ok1.convU8; (iterate 5 exact rfl); omega; omega)) | (apply R.box; (iterate 3 exact rfl); intro) | (apply R.buildSlice; (iterate 12 exact rfl); intro)) | apply R.nil | (apply T.is; first | apply T.rounds 2 | apply T.seq | apply T.region | apply T.block | apply T.skip | apply T.exit | apply T.ret | (apply T.cond_t; exact rfl) | (apply T.cond_f; exact rfl)))
    (apply RetOk.t; exact rfl)
    exact ⟨_, by (focus ((repeat' (first | exact Ext.here _ _ | apply Keep.last)); done)), ov1, hov1, rfl, rfl⟩
  · refine enterK (tb := tb) Try.func67 rfl Try.ntmps67 rfl ?_
    repeat' (first | (apply R.is1; first | (apply R.isBin; (apply R.pure; exact rfl; first | (apply Ok1.add64; exact rfl; exact rfl; omega; omega) | (apply Ok1.lss_t; exact rfl; exact rfl; omega) | (apply Ok1.lss_f; exact rfl; exact rfl; omega) | (apply Ok1.eql_f; exact rfl; exact rfl; omega) | (apply Ok1.quo64; exact rfl; exact rfl; omega; omega; omega) | (apply Ok1.remN; exact rfl; exact rfl; omega; omega))) | (apply R.isCall; first | apply R.callP rfl rfl rfl (dwidth_ok 1 2 (by decide) rfl) | (apply R.appendSl (ov := some (_, 0, [])) (n := 1) (old := [_]) (ov2 := none) (m := 0) (news := []) (e3 := 5); (iterate 12 exact rfl); exact ⟨rfl, rfl⟩; exact ⟨rfl, rfl⟩; exact Ext.one _ _; exact (by simp [blkL]); exact rfl; omega; intro ov1 hov1) | (apply R.appendSl (ov := some (_, 0, [])) (n := 1) (old := [_]); (iterate 12 exact rfl); exact ⟨rfl, rfl⟩; assumption; exact Ext.one _ _; exact Ext.mem (by (focus ((repeat' (first | exact Ext.here _ _ | apply Ext.cons)); done))); exact rfl; omega; intro ov1 hov1)) | (apply R.pure; exact rfl; first | (apply Ok1.move; exact rfl) | (apply Ok1.fieldAddr; (iterate 5 exact rfl)) | (apply Ok1.load; exact rfl; (apply Ld.own1; exact rfl; exact rfl; (focus ((repeat' (first | exact At.head | apply At.right)); done)); exact rfl)) | (apply Ok1.assign; exact rfl) | (apply Ok1.convU8; (iterate 5 exact rfl); omega; omega)) | (apply R.box; (iterate 3 exact rfl); intro) | (apply R.buildSlice; (iterate 12 exact rfl); intro)) | apply R.nil | (apply T.is; first | apply T.rounds 3 | apply T.seq | apply T.region | apply T.block | apply T.skip | apply T.exit | apply T.ret | (apply T.cond_t; exact rfl) | (apply T.cond_f; exact rfl)))
    (apply RetOk.t; exact rfl)
    exact ⟨_, by (focus ((repeat' (first | exact Ext.here _ _ | apply Keep.last)); done)), ov1, hov1, rfl, rfl⟩
  · refine enterK (tb := tb) Try.func67 rfl Try.ntmps67 rfl ?_
    repeat' (first | (apply R.is1; first | (apply R.isBin; (apply R.pure; exact rfl; first | (apply Ok1.add64; exact rfl; exact rfl; omega; omega) | (apply Ok1.lss_t; exact rfl; exact rfl; omega) | (apply Ok1.lss_f; exact rfl; exact rfl; omega) | (apply Ok1.eql_f; exact rfl; exact rfl; omega) | (apply Ok1.quo64; exact rfl; exact rfl; omega; omega; omega) | (apply Ok1.remN; exact rfl; exact rfl; omega; omega))) | (apply R.isCall; first | apply R.callP rfl rfl rfl (dwidth_ok 2 4 (by decide) rfl) | (apply R.appendSl (ov := some (_, 0, [])) (n := 1) (old := [_]) (ov2 := none) (m := 0) (news := []) (e3 := 5); (iterate 12 exact rfl); exact ⟨rfl, rfl⟩; exact ⟨rfl, rfl⟩; exact Ext.one _ _; exact (by simp [blkL]); exact rfl; omega; intro ov1 hov1) | (apply R.appendSl (ov := some (_, 0, [])) (n := 1) (old := [_]); (iterate 12 exact rfl); exact ⟨rfl, rfl⟩; assumption; exact Ext.one _ _; exact Ext.mem (by (focus ((repeat' (first | exact Ext.here _ _ | apply Ext.cons)); done))); exact rfl; omega; intro ov1 hov1)) | (apply R.pure; exact rfl; first | (apply Ok1.move; exact rfl) | (apply Ok1.fieldAddr; (iterate 5 exact rfl)) | (apply Ok1.load; exact rfl; (apply Ld.own1; exact rfl; exact rfl; (focus ((repeat' (first | exact At.head | apply At.right)); done)); exact rfl)) | (apply Ok1.assign; exact rfl) | (apply Ok1.convU8; (iterate 5 exact rfl); omega; omega)) | (apply R.box; (iterate 3 exact rfl); intro) | (apply R.buildSlice; (iterate 12 exact rfl); intro)) | apply R.nil | (apply T.is; first | apply T.rounds 5 | apply T.seq | apply T.region | apply T.block | apply T.skip | apply T.exit | apply T.ret | (apply T.cond_t; exact rfl) | (apply T.cond_f; exact rfl)))
    have e : u8s (numI 2 n) = [.int .u8 (n / 256 / 256 / 256 % 256), .int .u8 (n / 256 / 256 % 256), .int .u8 (n / 256 % 256), .int .u8 (n % 256)] := by
      simp only [u8s, numI, len4, List.map_cons, List.map_nil, List.cons.injEq, Value.int.injEq, true_and, and_true]
      omega
    rw [e]
    (apply RetOk.t; exact rfl)
    exact ⟨_, by (focus ((repeat' (first | exact Ext.here _ _ | apply Keep.last)); done)), ov1, hov1, rfl, rfl⟩
end Go.Proofs.Ytligpachgcmkcaa
