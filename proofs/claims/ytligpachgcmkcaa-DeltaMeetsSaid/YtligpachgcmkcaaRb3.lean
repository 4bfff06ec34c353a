/- Contracts of revoke: a delta's bytes. -/
import Derived.Test.YtligpachgcmkcaaWr2
import Derived.Test.YtligpachgcmkcaaRs1
set_option linter.unusedSimpArgs false
set_option linter.unusedVariables false
namespace Go.Proofs.Ytligpachgcmkcaa
open Go.RowKit Go.Shelf
set_option maxRecDepth 100000

def encL (x : Int × List Int) : List Int := numsI 1 [x.1, (x.2.length : Int)] ++ numsI 1 x.2
def encD (dd : List (Int × List Int)) : List Int := dd.flatMap encL
theorem nums1_len (xs : List Int) : (numsI 1 xs).length = 2 * xs.length := by
  induction xs with
  | nil => rfl
  | cons x l ih =>
    simp only [numsI, List.flatMap_cons, List.length_append, List.length_cons] at *
    simp only [numI, List.length_cons, List.length_nil]
    omega
theorem encL_len (x : Int × List Int) : (encL x).length = 4 + 2 * x.2.length := by
  rw [encL, List.length_append, nums1_len, nums1_len]; rfl
theorem encD_le {dd : List (Int × List Int)} {k : Nat} (h : ∀ x ∈ dd, x.2.length ≤ k) : (encD dd).length ≤ (4 + 2 * k) * dd.length := by
  induction dd with
  | nil => exact Nat.zero_le _
  | cons x l ih =>
    have h1 := ih fun y hy => h y (List.mem_cons_of_mem _ hy)
    have h2 := h x List.mem_cons_self
    have h3 := encL_len x
    simp only [encD, List.flatMap_cons, List.length_append, List.length_cons] at *
    rw [Nat.mul_add, Nat.mul_one]
    omega
theorem encD_snoc {dd : List (Int × List Int)} {i : Nat} {x : Int × List Int} (h : dd[i]? = some x) : encD (dd.take (i + 1)) = encD (dd.take i) ++ encL x := by
  unfold encD
  rw [List.take_add_one, h, List.flatMap_append]
  simp
theorem nums_byt (s : Nat) (xs : List Int) : Byt (numsI s xs) := by
  intro y hy
  obtain ⟨x, hx, h⟩ := List.mem_flatMap.1 hy
  exact num_byt s x y h
theorem encD_byt (dd : List (Int × List Int)) : Byt (encD dd) := by
  intro y hy
  obtain ⟨x, hx, h⟩ := List.mem_flatMap.1 hy
  rcases List.mem_append.1 h with h | h
  · exact nums_byt _ _ y h
  · exact nums_byt _ _ y h
theorem i_at {xs : List Int} {i : Nat} {x : Int} (h : xs[i]? = some x) : (iis xs)[i * 1]? = some (.int .i64 x) := by rw [Nat.mul_one, iis, List.getElem?_map, h]; rfl
theorem dok_fits {x : Int × Pi} (h : DOk1 x) : (∀ y ∈ [x.1, (x.2.xs.length : Int)], Fits 1 y) ∧ ∀ y ∈ x.2.xs, Fits 1 y := by
  obtain ⟨h1, h2, h3, h4⟩ := h
  refine ⟨fun y hy => ?_, fun y hy => ?_⟩
  · simp only [List.mem_cons, List.not_mem_nil, or_false] at hy
    rcases hy with rfl | rfl
    · exact ⟨h1, .inr (.inl ⟨rfl, by omega⟩)⟩
    · exact ⟨by omega, .inr (.inl ⟨rfl, by omega⟩)⟩
  · have := h4 y hy
    exact ⟨by omega, .inr (.inl ⟨rfl, this.2⟩)⟩
def BRes (bs : List Int) (v : Value) (L : Lst) : Prop := ∃ ov, OvOk 1 ov bs.length (u8s bs) ∧ v = .tuple #[slV ov bs.length, .int .i64 0] ∧ L = blkL 5 ov (u8s bs)
theorem wbytes_bad (d : Dl) (hl : d.length = 4) (h40 : ∀ x ∈ d, x.2.xs.length ≤ 40) (hd : ¬ DOk d) (w : World) (hr : ∀ x ∈ d, RdSl w x.2.p iV x.2.xs) :
    CallM Try.prog 28 [.agg ⟨dlV d⟩] [] w fun v L => v = .tuple #[.slice none 0 0, .int .i64 10] ∧ L = [] := by
  have hck := fun w1 (hc : Chg [] w w1) => rcheck_ok d hl (fun x hx => by have := h40 x hx; omega) w1 fun x hx => (hr x hx).chg' hc (fun _ => Off.nil _)
  rw [if_neg hd] at hck
  have hl8 : (dlV d).length = 8 := by simp [dlV, fl_pi, iis_len, hl]
  refine enterK (tb := tb) Try.func28 rfl Try.ntmps28 rfl ?_
  repeat' (first | (apply R.is1; first | (apply R.isBin; (apply R.pure; exact rfl; (apply Ok1.neq_t; exact rfl; exact rfl; omega))) | (apply R.isCall; (apply R.callV (vs := [.agg ⟨dlV d⟩]); (iterate 3 exact rfl); intro w1 hw1; exact hck w1 hw1.chg)) | (apply R.pure; exact rfl; first | (apply Ok1.load; exact rfl; apply Ld.ownk; exact rfl; exact rfl; exact At.head; exact subE_all hl8) | (apply Ok1.move; exact rfl) | (apply Ok1.assign; exact rfl)) | (apply R.box; (iterate 3 exact rfl); intro)) | apply R.nil | (apply T.is; first | apply T.seq | apply T.region | apply T.ret | (apply T.cond_t; exact rfl)))
  (apply RetOk.tt; exact rfl; exact rfl)
  exact ⟨_, by (focus ((repeat' (exact Keep.nil _)); done)), rfl, rfl⟩
theorem wbytes_ok (d : Dl) (hl : d.length = 4) (h40 : ∀ x ∈ d, x.2.xs.length ≤ 40) (hd : DOk d) (w : World) (hr : ∀ x ∈ d, RdSl w x.2.p iV x.2.xs) :
    CallM Try.prog 28 [.agg ⟨dlV d⟩] [] w (BRes (encD (pur d))) := by
  have hck := fun w1 (hc : Chg [] w w1) => rcheck_ok d hl (fun x hx => by have := h40 x hx; omega) w1 fun x hx => (hr x hx).chg' hc (fun _ => Off.nil _)
  rw [if_pos hd] at hck
  have hl8 : (dlV d).length = 8 := by simp [dlV, fl_pi, iis_len, hl]
  have hfr := dl_froms hl
  have hcells := fun i x h => dl_log hl (i := i) (x := x) h
  unfold BRes
  refine enterK (tb := tb) Try.func28 rfl Try.ntmps28 rfl ?_
  repeat' (first | (apply R.is1; first | (apply R.isBin; (apply R.pure; exact rfl; (apply Ok1.neq_f; exact rfl; exact rfl; omega))) | (apply R.isCall; (apply R.callV (vs := [.agg ⟨dlV d⟩]); (iterate 3 exact rfl); intro w1 hw1; exact hck w1 hw1.chg)) | (apply R.pure; exact rfl; first | (apply Ok1.load; exact rfl; first | (apply Ld.ownk; exact rfl; exact rfl; (focus ((repeat' (first | exact At.head | apply At.tail)); done)); exact subE_all hl8) | (apply Ld.ownk; exact rfl; exact rfl; (focus ((repeat' (first | exact At.head | apply At.tail)); done)); exact hfr)) | (apply Ok1.move; exact rfl) | (apply Ok1.fieldAddr; (iterate 5 exact rfl)) | (apply Ok1.assign; exact rfl)) | (apply R.box; (iterate 3 exact rfl); intro) | (apply R.alloc; (iterate 3 exact rfl); intro)) | apply R.nil | (apply T.is; first | apply T.seq | apply T.region | apply T.block | apply T.skip | (apply T.cond_f; exact rfl)))
  rename_i bd bw
  have hpl : (pur d).length = 4 := by rw [pur, List.length_map, hl]
  have hp40 : ∀ x ∈ pur d, x.2.length ≤ 40 := by
    intro x hx
    obtain ⟨y, hy, rfl⟩ := List.mem_map.1 hx
    exact h40 y hy
  have hle : ∀ i, (encD ((pur d).take i)).length ≤ 336 := fun i => by
    have h1 := encD_le (dd := (pur d).take i) (k := 40) fun x hx => hp40 x (List.mem_of_mem_take hx)
    have h2 : ((pur d).take i).length ≤ 4 := by rw [List.length_take]; omega
    have h3 := Nat.mul_le_mul_left (4 + 2 * 40) h2
    omega
  apply T.loopK (α := Nat × Ov) (I := fun y => y.1 ≤ 4 ∧ OvOk 1 y.2 (encD ((pur d).take y.1)).length (u8s (encD ((pur d).take y.1)))) (σi := fun y => [(1, .pointer (some ⟨bd, 0, none⟩)), (5, .pointer (some ⟨bw, 0, none⟩)), (14, .agg ⟨iis (d.map (·.1))⟩), (15, .int .i64 y.1)])
    (Li := fun y => (bd, .cells ⟨dlV d⟩ 41 (0, 0)) :: WL bw y.2 (encD ((pur d).take y.1))) (μ := fun y => 4 - y.1) (i0 := (0, none))
  · exact ⟨Nat.zero_le _, OvOk.start 1⟩
  · exact ⟨rfl, rfl, rfl, rfl, trivial⟩
  · (focus ((repeat' (first | exact Keep.nil _ | exact Ext.one _ _ | apply Keep.cons | apply Ext.cons)); done))
  · rintro ⟨i, ov⟩ ⟨hi, hov⟩
    simp only at hi hov ⊢
    rcases Nat.lt_or_ge i 4 with hlt | hge
    · obtain ⟨x, hx⟩ : ∃ x, d[i]? = some x := ⟨_, List.getElem?_eq_getElem (by omega)⟩
      have hxm := List.mem_of_getElem? hx
      have hxp : (pur d)[i]? = some (x.1, x.2.xs) := by rw [pur, List.getElem?_map, hx]; rfl
      have hfx : (iis (d.map (·.1)))[i * 1]? = some (.int .i64 x.1) := i_at (by rw [List.getElem?_map, hx]; rfl)
      have hlx := hcells i x hx
      have hx40 := h40 x hxm
      obtain ⟨f1, f2⟩ := dok_fits (hd x hxm)
      have hrx := hr x hxm
      have hli := hle i
      have hn1 := fun p w1 h1 h2 => numbers_ok bw ov (encD ((pur d).take i)) hov 1 p 2 2 [x.1, (x.2.xs.length : Int)] rfl f1 (by simp only [List.length_cons, List.length_nil]; omega) w1 h1 h2
      have hn2 := fun ov1 hov1 w1 h1 h2 => numbers_ok bw ov1 (encD ((pur d).take i) ++ numsI 1 [x.1, (x.2.xs.length : Int)]) hov1 1 x.2.p x.2.xs.length x.2.cap x.2.xs rfl f2 (by rw [List.length_append, nums1_len]; simp only [List.length_cons, List.length_nil]; omega) w1 h1 h2
      have hsn := encD_snoc hxp
      rw [encL, ← List.append_assoc] at hsn
      simp only [← hsn] at hn2
      generalize encD ((pur d).take i) = B0 at *
      generalize hB2 : encD ((pur d).take (i + 1)) = B2 at *
      generalize B0 ++ numsI 1 [x.1, (x.2.xs.length : Int)] = B1 at *
      repeat' (first | (apply R.is1; first | (apply R.isBin; (apply R.pure; exact rfl; first | (apply Ok1.add64; exact rfl; exact rfl; omega; omega) | (apply Ok1.lss_t; exact rfl; exact rfl; omega))) | (apply R.pure; exact rfl; first | (apply Ok1.index1; (iterate 6 exact rfl); omega; omega; exact hfx) | (apply Ok1.move; exact rfl) | (apply Ok1.assign; exact rfl))) | apply R.nil | (apply T.is; first | (apply T.drawC (id := 8) [0] (by decide); ((apply A.take 0; exact rfl; exact rfl; kernel_rfl; kernel_rfl; kernel_rfl; (apply Ok1.move; exact rfl)) <;> (apply A.take 1; exact rfl; exact rfl; kernel_rfl; kernel_rfl; kernel_rfl; (apply Ok1.move; exact rfl)) <;> (apply A.take 2; exact rfl; exact rfl; kernel_rfl; kernel_rfl; kernel_rfl; (apply Ok1.fieldAddr; (iterate 5 exact rfl))) <;> (apply A.take 3; exact rfl; exact rfl; kernel_rfl; kernel_rfl; kernel_rfl; (apply Ok1.indexAddrA; (iterate 5 exact rfl); omega; omega)) <;> (apply A.take 4; exact rfl; exact rfl; kernel_rfl; kernel_rfl; kernel_rfl; (apply Ok1.load; exact rfl; apply Ld.own1; exact rfl; exact rfl; exact At.head; exact hlx)) <;> (apply A.take 5; exact rfl; exact rfl; kernel_rfl; kernel_rfl; kernel_rfl; (apply Ok1.lenS; (iterate 3 exact rfl))) <;> (apply A.take 8; exact rfl; exact rfl; kernel_rfl; kernel_rfl; kernel_rfl; (apply Ok1.move; exact rfl)) <;> (apply A.take 9; exact rfl; exact rfl; kernel_rfl; kernel_rfl; kernel_rfl; (apply Ok1.fieldAddr; (iterate 5 exact rfl))) <;> (apply A.take 10; exact rfl; exact rfl; kernel_rfl; kernel_rfl; kernel_rfl; (apply Ok1.indexAddrA; (iterate 5 exact rfl); omega; omega)) <;> (apply A.take 11; exact rfl; exact rfl; kernel_rfl; kernel_rfl; kernel_rfl; (apply Ok1.load; exact rfl; apply Ld.own1; exact rfl; exact rfl; exact At.head; exact hlx)) <;> (apply A.one 6; kernel_rfl; exact rfl; (((apply R.buildSlice; (iterate 12 exact rfl); intro))); apply R.nil; refine ⟨?_, ?_⟩; (focus ((repeat' (first | exact trivial | (refine ⟨?_, ?_⟩; (focus ((repeat' (first | exact At.head | apply At.tail)); done)))))))) <;> (apply A.one 7; kernel_rfl; exact rfl; (((apply R.callE (Li := WL bw ov B0) (vs := [.pointer (some ⟨bw, 0, none⟩), .int .i64 1, .slice (some ⟨_, 0, none⟩) 2 2]); (iterate 3 exact rfl); (focus ((repeat' (first | exact Ext.all _ | apply Ext.cons)); done)); intro w1 hw1; exact hn1 _ w1 (RdSl.of (junk := []) hw1 (by exact At.head) rfl) (fun _ => Off.of hw1 (by (focus ((repeat' (first | exact Ext.all _ | apply Ext.cons)); done))) (by exact At.head)); rintro v Lo ⟨ov1, rfl, hov1, rfl⟩))); apply R.nil; refine ⟨?_, ?_⟩; (focus ((repeat' (first | exact trivial | (refine ⟨?_, ?_⟩; (focus ((repeat' (first | exact At.head | apply At.tail | apply At.right)); done)))))))) <;> (apply A.one 12; kernel_rfl; exact rfl; (((apply R.callE (Li := WL bw ov1 B1) (vs := [.pointer (some ⟨bw, 0, none⟩), .int .i64 1, .slice x.2.p x.2.xs.length x.2.cap]); (iterate 3 exact rfl); (focus ((repeat' (exact Ext.here _ _)); done)); intro w1 hw1; exact hn2 ov1 hov1 w1 (hrx.chg' hw1.chg (fun _ => Off.nil _)) (RdSl.old iV_len (by decide) hrx (fun _ => Off.nil _) hw1 (by (focus ((repeat' (exact Ext.here _ _)); done)))); rintro v Lo ⟨ov2, rfl, hov2, rfl⟩))); apply R.nil; refine ⟨?_, ?_⟩; (focus ((repeat' (first | exact trivial | (refine ⟨?_, ?_⟩; (focus ((repeat' (first | exact At.head | apply At.tail | apply At.right)); done)))))))) <;> (apply A.done; kernel_rfl))) | apply T.seq | apply T.region | apply T.block | apply T.skip | (apply T.cond_t; exact rfl)))
      subst hB2
      exact ⟨(i + 1, ov2), ⟨by simp only; omega, hov2⟩, by simp only; omega, ⟨rfl, rfl, rfl, rfl, trivial⟩, by (focus ((repeat' (first | exact Ext.one _ _ | exact Ext.here _ _ | apply Keep.cons | apply Keep.last | apply Ext.cons | apply Ext.app)); done))⟩
    · have hi4 : i = 4 := by omega
      subst hi4
      have hli := hle 4
      rw [List.take_of_length_le (by omega)] at hov hli ⊢
      have hwo := fun w1 h1 h2 => wout_ok bw ov (encD (pur d)) hov (by omega) w1 h1 h2
      generalize encD (pur d) = B at *
      simp only [WL]
      repeat' (first | (apply R.is1; first | (apply R.isBin; (apply R.pure; exact rfl; (apply Ok1.lss_f; exact rfl; exact rfl; omega))) | (apply R.isCall; (apply R.callE (vs := [.pointer (some ⟨bw, 0, none⟩)]); (iterate 3 exact rfl); exact Ext.none _; intro w1 hw1; exact hwo w1 (hw1.get _ _ (At.mem (by (focus ((repeat' (first | exact At.head | apply At.tail)); done))))) (rdown hov hw1 (Ext.mem (by (focus ((repeat' (first | exact Ext.all _ | apply Ext.cons)); done))))); rintro v Lo ⟨ov2, hov2, rfl, rfl⟩)) | (apply R.pure; exact rfl; first | (apply Ok1.assign; exact rfl) | (apply Ok1.extract; exact rfl; exact rfl))) | apply R.nil | (apply T.is; first | apply T.seq | apply T.region | apply T.exit | apply T.ret | (apply T.cond_f; exact rfl)))
      (apply RetOk.tt; exact rfl; exact rfl)
      exact ⟨_, by (focus ((repeat' (first | exact Ext.here _ _ | apply Keep.last)); done)), ov2, hov2, rfl, rfl⟩
end Go.Proofs.Ytligpachgcmkcaa
/- Contracts: the document's bytes of a delta; the same deltas. -/
set_option linter.unusedSimpArgs false
set_option linter.unusedVariables false
namespace Go.Proofs.Ytligpachgcmkcaa
open Go.RowKit Go.Shelf
set_option maxRecDepth 100000

theorem dbytes_ok (d : Dl) (hl : d.length = 4) (h40 : ∀ x ∈ d, x.2.xs.length ≤ 40) (hd : DOk d) (w : World) (hr : ∀ x ∈ d, RdSl w x.2.p iV x.2.xs) :
    CallM Try.prog 32 [.agg ⟨dlV d⟩] [] w fun v L => ∃ ov, OvOk 1 ov (encD (pur d)).length (u8s (encD (pur d))) ∧ v = slV ov (encD (pur d)).length ∧ L = blkL 5 ov (u8s (encD (pur d))) := by
  have hl8 : (dlV d).length = 8 := by simp [dlV, fl_pi, iis_len, hl]
  have hcells := fun i x h => dl_log hl (i := i) (x := x) h
  have hpl : (pur d).length = 4 := by rw [pur, List.length_map, hl]
  have hp40 : ∀ x ∈ pur d, x.2.length ≤ 40 := by
    intro x hx
    obtain ⟨y, hy, rfl⟩ := List.mem_map.1 hx
    exact h40 y hy
  have hle : ∀ i, (encD ((pur d).take i)).length ≤ 336 := fun i => by
    have h1 := encD_le (dd := (pur d).take i) (k := 40) fun x hx => hp40 x (List.mem_of_mem_take hx)
    have h2 : ((pur d).take i).length ≤ 4 := by rw [List.length_take]; omega
    have h3 := Nat.mul_le_mul_left (4 + 2 * 40) h2
    omega
  refine enterK (tb := tb) Try.func32 rfl Try.ntmps32 rfl ?_
  repeat' (first | (apply R.is1; first | (apply R.pure; exact rfl; (apply Ok1.assign; exact rfl)) | (apply R.box; (iterate 3 exact rfl); intro)) | apply R.nil | (apply T.is; first | apply T.seq | apply T.region | apply T.block))
  rename_i bd
  apply T.loopK (α := Nat × Ov) (I := fun y => y.1 ≤ 4 ∧ OvOk 1 y.2 (encD ((pur d).take y.1)).length (u8s (encD ((pur d).take y.1)))) (σi := fun y => [(1, .pointer (some ⟨bd, 0, none⟩)), (3, slV y.2 (encD ((pur d).take y.1)).length), (4, .int .i64 y.1)])
    (Li := fun y => (bd, .cells ⟨dlV d⟩ 32 (0, 0)) :: blkL 5 y.2 (u8s (encD ((pur d).take y.1)))) (μ := fun y => 4 - y.1) (i0 := (0, none))
  · exact ⟨Nat.zero_le _, OvOk.start 1⟩
  · exact ⟨rfl, rfl, rfl, trivial⟩
  · (focus ((repeat' (first | exact Keep.nil _ | exact Ext.one _ _ | apply Keep.cons)); done))
  · rintro ⟨i, ov⟩ ⟨hi, hov⟩
    simp only at hi hov ⊢
    rcases Nat.lt_or_ge i 4 with hlt | hge
    · obtain ⟨x, hx⟩ : ∃ x, d[i]? = some x := ⟨_, List.getElem?_eq_getElem (by omega)⟩
      have hxm := List.mem_of_getElem? hx
      have hxp : (pur d)[i]? = some (x.1, x.2.xs) := by rw [pur, List.getElem?_map, hx]; rfl
      have hfx : (dlV d)[0 + i * 1]? = some (.int .i64 x.1) := by
        rw [Nat.zero_add, dlV, List.getElem?_append_left (by rw [iis_len, List.length_map, hl]; omega)]
        exact i_at (by rw [List.getElem?_map, hx]; rfl)
      have hlx := hcells i x hx
      have hx40 := h40 x hxm
      obtain ⟨f1, f2⟩ := dok_fits (hd x hxm)
      have hrx := hr x hxm
      have hli := hle i
      have ha := fun w1 => dout_ok 1 x.1 (f1 _ (by simp)) w1
      have hb := fun w1 => dout_ok 1 x.2.xs.length (f1 _ (by simp)) w1
      have hla := num_len 1 x.1
      have hlb := num_len 1 (x.2.xs.length : Int)
      have hsn := encD_snoc hxp
      rw [encL, numsI, List.flatMap_cons, List.flatMap_cons, List.flatMap_nil, List.append_nil, ← List.append_assoc, ← List.append_assoc] at hsn
      simp only at hsn
      generalize encD ((pur d).take i) = B0 at *
      generalize hB2 : encD ((pur d).take (i + 1)) = B2 at *
      generalize numI 1 x.1 = N1 at *
      generalize numI 1 (x.2.xs.length : Int) = N2 at *
      repeat' (first | (apply R.is1; first | (apply R.isBin; (apply R.pure; exact rfl; (apply Ok1.lss_t; exact rfl; exact rfl; omega))) | (apply R.isCall; first | (apply R.callE (vs := [.agg ⟨fldV 1 x.1⟩]); (iterate 3 exact rfl); exact Ext.none _; intro w1 hw1; exact ha w1; rintro v Lo ⟨ova, hova, rfl, rfl⟩) | (apply R.callE (vs := [.agg ⟨fldV 1 x.2.xs.length⟩]); (iterate 3 exact rfl); exact Ext.none _; intro w1 hw1; exact hb w1; rintro v Lo ⟨ovb, hovb, rfl, rfl⟩) | (apply R.appendSl (ov := ov) (n := B0.length) (old := u8s B0) (ov2 := ova) (m := N1.length) (news := u8s N1) (e3 := 5); (iterate 12 exact rfl); exact hov; exact hova; (focus ((repeat' (first | exact Ext.all _ | apply Ext.cons | apply Ext.app)); done)); exact Ext.mem (by (focus ((repeat' (exact Ext.here _ _)); done))); exact u8s_one _; omega; intro ov1 hov1; rw [← u8s_app, ← List.length_append]; rw [← u8s_app, ← List.length_append] at hov1) | (apply R.appendSl (ov := ov1) (n := (B0 ++ N1).length) (old := u8s (B0 ++ N1)) (ov2 := ovb) (m := N2.length) (news := u8s N2) (e3 := 5); (iterate 12 exact rfl); exact hov1; exact hovb; (focus ((repeat' (first | exact Ext.here _ _ | apply Ext.app)); done)); exact Ext.mem (by (focus ((repeat' (exact Ext.here _ _)); done))); exact u8s_one _; (rw [List.length_append]; omega); intro ov2 hov2; rw [← u8s_app, ← List.length_append]; rw [← u8s_app, ← List.length_append] at hov2) | (apply R.pure; exact rfl; (apply Ok1.lenS; (iterate 3 exact rfl)))) | (apply R.pure; exact rfl; first | (apply Ok1.load; exact rfl; first | (apply Ld.own1; exact rfl; exact rfl; (focus ((repeat' (first | exact At.head | apply At.right)); done)); exact hfx) | (apply Ld.own1; exact rfl; exact rfl; (focus ((repeat' (first | exact At.head | apply At.right)); done)); exact hlx)) | (apply Ok1.move; exact rfl) | (apply Ok1.fieldAddr; (iterate 5 exact rfl)) | (apply Ok1.assign; exact rfl) | (apply Ok1.indexAddrA; (iterate 5 exact rfl); omega; omega) | (apply Ok1.build; (iterate 5 exact rfl)))) | apply R.nil | (apply T.is; first | apply T.seq | apply T.region | apply T.block | apply T.skip | (apply T.cond_t; exact rfl)))
      have hsn2 : B2 = (B0 ++ N1 ++ N2) ++ numsI 1 (x.2.xs.take x.2.xs.length) := by rw [List.take_length]; exact hsn.symm ▸ rfl
      have hb3 : (B0 ++ N1 ++ N2).length ≤ 420 := by simp only [List.length_append]; omega
      generalize B0 ++ N1 ++ N2 = B3 at *
      apply T.loopK (α := Nat × Ov) (I := fun y => y.1 ≤ x.2.xs.length ∧ OvOk 1 y.2 (B3 ++ numsI 1 (x.2.xs.take y.1)).length (u8s (B3 ++ numsI 1 (x.2.xs.take y.1)))) (σi := fun y => [(1, .pointer (some ⟨bd, 0, none⟩)), (3, slV y.2 (B3 ++ numsI 1 (x.2.xs.take y.1)).length), (4, .int .i64 i), (5, .int .i64 y.1)])
        (Li := fun y => (bd, .cells ⟨dlV d⟩ 32 (0, 0)) :: blkL 5 y.2 (u8s (B3 ++ numsI 1 (x.2.xs.take y.1)))) (μ := fun y => x.2.xs.length - y.1) (i0 := (0, ov2))
      · refine ⟨Nat.zero_le _, ?_⟩
        simpa [numsI] using hov2
      · simp only [List.take_zero, numsI, List.flatMap_nil, List.append_nil]
        exact ⟨rfl, rfl, rfl, rfl, trivial⟩
      · simp only [List.take_zero, numsI, List.flatMap_nil, List.append_nil]
        (focus ((repeat' (first | exact Ext.one _ _ | exact Ext.here _ _ | apply Keep.cons | apply Keep.last | apply Ext.app)); done))
      · rintro ⟨k, ov3⟩ ⟨hk, hov3⟩
        simp only at hk hov3 ⊢
        rcases Nat.lt_or_ge k x.2.xs.length with hkl | hkg
        · obtain ⟨y, hy⟩ : ∃ y, x.2.xs[k]? = some y := ⟨_, List.getElem?_eq_getElem (by omega)⟩
          obtain ⟨b, o, hpe, H⟩ := hrx.at hy
          replace H := H 1 iV_len
          have hyf := f2 y (List.mem_of_getElem? hy)
          have hc := fun w1 => dout_ok 1 y hyf w1
          have hnl := nums1_len (x.2.xs.take k)
          have htl : (x.2.xs.take k).length = k := by rw [List.length_take]; omega
          have hlc := num_len 1 y
          have htk := nums_take (s := 1) hy
          have hbl : (B3 ++ numsI 1 (x.2.xs.take k)).length ≤ 520 := by rw [List.length_append]; omega
          have htk2 : B3 ++ numsI 1 (x.2.xs.take (k + 1)) = B3 ++ numsI 1 (x.2.xs.take k) ++ numI 1 y := by rw [htk, List.append_assoc]
          generalize B3 ++ numsI 1 (x.2.xs.take k) = B4 at *
          generalize numI 1 y = N3 at *
          repeat' (first | (apply R.is1; first | (apply R.isBin; (apply R.pure; exact rfl; first | (apply Ok1.add64; exact rfl; exact rfl; omega; omega) | (apply Ok1.lss_t; exact rfl; exact rfl; omega))) | (apply R.isCall; first | (apply R.callE (vs := [.agg ⟨fldV 1 y⟩]); (iterate 3 exact rfl); exact Ext.none _; intro w1 hw1; exact hc w1; rintro v Lo ⟨ovc, hovc, rfl, rfl⟩) | (apply R.appendSl (ov := ov3) (n := B4.length) (old := u8s B4) (ov2 := ovc) (m := N3.length) (news := u8s N3) (e3 := 5); (iterate 12 exact rfl); exact hov3; exact hovc; (focus ((repeat' (first | exact Ext.all _ | apply Ext.cons | apply Ext.app)); done)); exact Ext.mem (by (focus ((repeat' (exact Ext.here _ _)); done))); exact u8s_one _; omega; intro ov4 hov4; rw [← u8s_app, ← List.length_append]; rw [← u8s_app, ← List.length_append] at hov4) | (apply R.pure; exact rfl; (apply Ok1.lenS; (iterate 3 exact rfl)))) | (apply R.pure; exact rfl; first | (apply Ok1.load; exact rfl; first | (apply Ld.own1; exact rfl; exact rfl; (focus ((repeat' (first | exact At.head | apply At.tail)); done)); exact hlx) | (apply Ld.row1 (f := 0) H; exact rfl; exact List.not_mem_nil; (iterate 3 exact rfl))) | (apply Ok1.indexAddrP; (iterate 4 exact rfl); exact hpe; exact rfl; omega; omega) | (apply Ok1.move; exact rfl) | (apply Ok1.fieldAddr; (iterate 5 exact rfl)) | (apply Ok1.assign; exact rfl) | (apply Ok1.indexAddrA; (iterate 5 exact rfl); omega; omega) | (apply Ok1.build; (iterate 5 exact rfl)))) | apply R.nil | (apply T.is; first | apply T.seq | apply T.region | apply T.block | apply T.skip | (apply T.cond_t; exact rfl)))
          refine ⟨(k + 1, ov4), ?_⟩
          simp only [htk2]
          exact ⟨⟨by omega, hov4⟩, by omega, ⟨rfl, rfl, rfl, rfl, trivial⟩, by (focus ((repeat' (first | exact Ext.one _ _ | exact Ext.here _ _ | apply Keep.cons | apply Keep.last | apply Ext.app)); done))⟩
        · have hkk : k = x.2.xs.length := by omega
          subst hkk
          rw [← hsn2] at hov3 ⊢
          subst hB2
          repeat' (first | (apply R.is1; first | (apply R.isBin; (apply R.pure; exact rfl; first | (apply Ok1.add64; exact rfl; exact rfl; omega; omega) | (apply Ok1.lss_f; exact rfl; exact rfl; omega))) | (apply R.isCall; (apply R.pure; exact rfl; (apply Ok1.lenS; (iterate 3 exact rfl)))) | (apply R.pure; exact rfl; first | (apply Ok1.load; exact rfl; (apply Ld.own1; exact rfl; exact rfl; exact At.head; exact hlx)) | (apply Ok1.move; exact rfl) | (apply Ok1.fieldAddr; (iterate 5 exact rfl)) | (apply Ok1.assign; exact rfl) | (apply Ok1.indexAddrA; (iterate 5 exact rfl); omega; omega))) | apply R.nil | (apply T.is; first | apply T.seq | apply T.region | apply T.exit | (apply T.cond_f; exact rfl)))
          exact ⟨(i + 1, ov3), ⟨by simp only; omega, hov3⟩, by simp only; omega, ⟨rfl, rfl, rfl, trivial⟩, by (focus ((repeat' (first | exact Ext.one _ _ | exact Ext.all _ | apply Keep.cons | apply Keep.last)); done))⟩
    · have hi4 : i = 4 := by omega
      subst hi4
      have hli := hle 4
      rw [List.take_of_length_le (by omega)] at hov hli ⊢
      generalize encD (pur d) = B at *
      repeat' (first | (apply R.is1; first | (apply R.isBin; (apply R.pure; exact rfl; (apply Ok1.lss_f; exact rfl; exact rfl; omega))) | (apply R.pure; exact rfl; first | (apply Ok1.move; exact rfl) | (apply Ok1.assign; exact rfl))) | apply R.nil | (apply T.is; first | apply T.seq | apply T.region | apply T.exit | apply T.ret | (apply T.cond_f; exact rfl)))
      (apply RetOk.t; exact rfl)
      exact ⟨_, by (focus ((repeat' (first | exact Ext.all _ | apply Keep.last | apply Ext.cons)); done)), ov, hov, rfl, rfl⟩
end Go.Proofs.Ytligpachgcmkcaa
/- Contracts: the same deltas; plain: a delta that is being read. -/
set_option linter.unusedSimpArgs false
set_option linter.unusedVariables false
namespace Go.Proofs.Ytligpachgcmkcaa
open Go.RowKit Go.Shelf
set_option maxRecDepth 100000

theorem pur_get {d : Dl} {i : Nat} {x : Int × Pi} (h : d[i]? = some x) : (pur d)[i]? = some (x.1, x.2.xs) := by rw [pur, List.getElem?_map, h]; rfl
theorem dl_fr0 {d : Dl} {i : Nat} {x : Int × Pi} (h : d[i]? = some x) : (dlV d)[0 + i * 1]? = some (.int .i64 x.1) := by
  rw [Nat.zero_add, dlV, List.getElem?_append_left]
  · exact dl_from h
  · rw [iis_len, List.length_map]; have := (List.getElem?_eq_some_iff.1 h).1; omega
theorem same8_ok (d e : Dl) (hd : d.length = 4) (he : e.length = 4) (hbig : ∀ x ∈ d, x.2.xs.length ≤ 1000000) (w : World) (hr : ∀ x ∈ d, RdSl w x.2.p iV x.2.xs) (hq : ∀ x ∈ e, RdSl w x.2.p iV x.2.xs) :
    CallW Try.prog 23 [.agg ⟨dlV d⟩, .agg ⟨dlV e⟩] w fun v _ => v = .bool (decide (pur d = pur e)) := by
  have hl1 : (pur d).length = 4 := by rw [pur, List.length_map, hd]
  have hl2 : (pur e).length = 4 := by rw [pur, List.length_map, he]
  refine enterW (tb := tb) Try.func23 rfl Try.ntmps23 rfl ?_
  repeat' (first | (apply R.is1; first | (apply R.pure; exact rfl; (apply Ok1.assign; exact rfl)) | (apply R.box; (iterate 3 exact rfl); intro)) | apply R.nil | (apply T.is; first | apply T.seq | apply T.region | apply T.block))
  rename_i bd be
  apply T.loopK (α := Nat) (I := fun i => i ≤ 4 ∧ (pur d).take i = (pur e).take i) (σi := fun i => [(2, .pointer (some ⟨bd, 0, none⟩)), (3, .pointer (some ⟨be, 0, none⟩)), (5, .int .i64 i)]) (Li := fun _ => [(bd, .cells ⟨dlV d⟩ 32 (0, 0)), (be, .cells ⟨dlV e⟩ 32 (0, 0))]) (μ := fun i => 4 - i) (i0 := 0)
  · exact ⟨Nat.zero_le _, by simp⟩
  · exact ⟨rfl, rfl, rfl, trivial⟩
  · (focus ((repeat' (first | exact Keep.nil _ | exact Ext.one _ _ | apply Keep.cons | apply Ext.cons)); done))
  · rintro i ⟨hi, hpre⟩
    rcases Nat.lt_or_ge i 4 with hlt | hge
    · obtain ⟨x, hx⟩ : ∃ x, d[i]? = some x := ⟨_, List.getElem?_eq_getElem (by omega)⟩
      obtain ⟨y, hy⟩ : ∃ y, e[i]? = some y := ⟨_, List.getElem?_eq_getElem (by omega)⟩
      have hxf := dl_fr0 hx
      have hyf := dl_fr0 hy
      have hxl := dl_log hd hx
      have hyl := dl_log he hy
      have hxm := List.mem_of_getElem? hx
      have hym := List.mem_of_getElem? hy
      have hxp := pur_get hx
      have hyp := pur_get hy
      have hb := hbig x hxm
      have hsm := fun w1 (hc : Chg [] w w1) => isame_ok x.2.p y.2.p x.2.xs.length y.2.xs.length x.2.cap y.2.cap x.2.xs y.2.xs rfl rfl (by omega) w1 ((hr x hxm).chg' hc (fun _ => Off.nil _)) ((hq y hym).chg' hc (fun _ => Off.nil _))
      have hno : (x.1, x.2.xs) ≠ (y.1, y.2.xs) → decide (pur d = pur e) = false := by
        intro hne
        apply decide_eq_false
        intro h
        rw [h, hyp] at hxp
        exact hne (Option.some.inj hxp).symm
      by_cases h1 : x.1 = y.1
      · by_cases h2 : x.2.xs = y.2.xs
        · rw [decide_eq_true h2] at hsm
          have hst : (pur d).take (i + 1) = (pur e).take (i + 1) := by rw [List.take_add_one, List.take_add_one, hpre, hxp, hyp, h1, h2]
          repeat' (first | (apply R.is1; first | (apply R.isBin; (apply R.pure; exact rfl; first | (apply Ok1.add64; exact rfl; exact rfl; omega; omega) | (apply Ok1.lss_t; exact rfl; exact rfl; omega))) | (apply R.pure; exact rfl; first | (apply Ok1.move; exact rfl) | (apply Ok1.assign; exact rfl))) | apply R.nil | (apply T.is; first | (apply T.drawC (id := 4) [0,1] (by decide); ((apply A.take 0; exact rfl; exact rfl; kernel_rfl; kernel_rfl; kernel_rfl; (apply Ok1.move; exact rfl)) <;> (apply A.take 1; exact rfl; exact rfl; kernel_rfl; kernel_rfl; kernel_rfl; (apply Ok1.fieldAddr; (iterate 5 exact rfl))) <;> (apply A.take 2; exact rfl; exact rfl; kernel_rfl; kernel_rfl; kernel_rfl; (apply Ok1.indexAddrA; (iterate 5 exact rfl); omega; omega)) <;> (apply A.take 3; exact rfl; exact rfl; kernel_rfl; kernel_rfl; kernel_rfl; (apply Ok1.load; exact rfl; (apply Ld.own1; exact rfl; exact rfl; exact At.head; exact hxf))) <;> (apply A.take 4; exact rfl; exact rfl; kernel_rfl; kernel_rfl; kernel_rfl; (apply Ok1.move; exact rfl)) <;> (apply A.take 5; exact rfl; exact rfl; kernel_rfl; kernel_rfl; kernel_rfl; (apply Ok1.fieldAddr; (iterate 5 exact rfl))) <;> (apply A.take 6; exact rfl; exact rfl; kernel_rfl; kernel_rfl; kernel_rfl; (apply Ok1.indexAddrA; (iterate 5 exact rfl); omega; omega)) <;> (apply A.take 7; exact rfl; exact rfl; kernel_rfl; kernel_rfl; kernel_rfl; (apply Ok1.load; exact rfl; (apply Ld.own1; exact rfl; exact rfl; (focus ((repeat' (first | exact At.head | apply At.tail)); done)); exact hyf))) <;> ((apply A.take 8; exact rfl; exact rfl; kernel_rfl; kernel_rfl; kernel_rfl; (apply Ok1.neq_f; exact rfl; exact rfl; omega))) <;> (apply A.take 9; exact rfl; exact rfl; kernel_rfl; kernel_rfl; kernel_rfl; (apply Ok1.move; exact rfl)) <;> ((apply A.takeG 10; exact rfl; exact rfl; rotate_left 3; exact rfl; exact rfl; rotate_right 3; kernel_rfl; kernel_rfl; kernel_rfl; (apply Ok1.move; exact rfl))) <;> ((apply A.takeG 11; exact rfl; exact rfl; rotate_left 3; exact rfl; exact rfl; rotate_right 3; kernel_rfl; kernel_rfl; kernel_rfl; (apply Ok1.fieldAddr; (iterate 5 exact rfl)))) <;> ((apply A.takeG 12; exact rfl; exact rfl; rotate_left 3; exact rfl; exact rfl; rotate_right 3; kernel_rfl; kernel_rfl; kernel_rfl; (apply Ok1.indexAddrA; (iterate 5 exact rfl); omega; omega))) <;> ((apply A.takeG 13; exact rfl; exact rfl; rotate_left 3; exact rfl; exact rfl; rotate_right 3; kernel_rfl; kernel_rfl; kernel_rfl; (apply Ok1.load; exact rfl; (apply Ld.own1; exact rfl; exact rfl; exact At.head; exact hxl)))) <;> ((apply A.takeG 14; exact rfl; exact rfl; rotate_left 3; exact rfl; exact rfl; rotate_right 3; kernel_rfl; kernel_rfl; kernel_rfl; (apply Ok1.move; exact rfl))) <;> ((apply A.takeG 15; exact rfl; exact rfl; rotate_left 3; exact rfl; exact rfl; rotate_right 3; kernel_rfl; kernel_rfl; kernel_rfl; (apply Ok1.fieldAddr; (iterate 5 exact rfl)))) <;> ((apply A.takeG 16; exact rfl; exact rfl; rotate_left 3; exact rfl; exact rfl; rotate_right 3; kernel_rfl; kernel_rfl; kernel_rfl; (apply Ok1.indexAddrA; (iterate 5 exact rfl); omega; omega))) <;> ((apply A.takeG 17; exact rfl; exact rfl; rotate_left 3; exact rfl; exact rfl; rotate_right 3; kernel_rfl; kernel_rfl; kernel_rfl; (apply Ok1.load; exact rfl; (apply Ld.own1; exact rfl; exact rfl; (focus ((repeat' (first | exact At.head | apply At.tail)); done)); exact hyl)))) <;> (apply A.one 18; kernel_rfl; exact rfl; (((apply R.isG; apply R.guard_run; exact rfl; exact rfl; ((apply R.callV (vs := [.slice x.2.p x.2.xs.length x.2.cap, .slice y.2.p y.2.xs.length y.2.cap]); (iterate 3 exact rfl); intro w1 hw1; exact hsm w1 hw1.chg))))); apply R.nil; refine ⟨?_, ?_⟩; (focus ((repeat' (first | exact trivial | (refine ⟨?_, ?_⟩; (focus ((repeat' (first | exact At.head | apply At.tail)); done)))))))) <;> ((apply A.takeG 19; exact rfl; exact rfl; rotate_left 3; exact rfl; exact rfl; rotate_right 3; kernel_rfl; kernel_rfl; kernel_rfl; (apply Ok1.not_t; exact rfl))) <;> (apply A.take 20; exact rfl; exact rfl; kernel_rfl; kernel_rfl; kernel_rfl; (apply Ok1.pick_f; exact rfl; exact rfl)) <;> (apply A.done; kernel_rfl))) | apply T.seq | apply T.region | apply T.block | apply T.skip | (apply T.cond_t; exact rfl) | (apply T.cond_f; exact rfl)))
          exact ⟨i + 1, ⟨by omega, hst⟩, by omega, ⟨rfl, rfl, rfl, trivial⟩, by (focus ((repeat' (first | exact Keep.nil _ | exact Ext.one _ _ | apply Keep.cons)); done))⟩
        · rw [decide_eq_false h2] at hsm
          have hn := hno (fun h => h2 (Prod.mk.inj h).2)
          repeat' (first | (apply R.is1; first | (apply R.isBin; (apply R.pure; exact rfl; (apply Ok1.lss_t; exact rfl; exact rfl; omega))) | (apply R.pure; exact rfl; first | (apply Ok1.move; exact rfl) | (apply Ok1.assign; exact rfl))) | apply R.nil | (apply T.is; first | (apply T.drawC (id := 4) [0,1] (by decide); ((apply A.take 0; exact rfl; exact rfl; kernel_rfl; kernel_rfl; kernel_rfl; (apply Ok1.move; exact rfl)) <;> (apply A.take 1; exact rfl; exact rfl; kernel_rfl; kernel_rfl; kernel_rfl; (apply Ok1.fieldAddr; (iterate 5 exact rfl))) <;> (apply A.take 2; exact rfl; exact rfl; kernel_rfl; kernel_rfl; kernel_rfl; (apply Ok1.indexAddrA; (iterate 5 exact rfl); omega; omega)) <;> (apply A.take 3; exact rfl; exact rfl; kernel_rfl; kernel_rfl; kernel_rfl; (apply Ok1.load; exact rfl; (apply Ld.own1; exact rfl; exact rfl; exact At.head; exact hxf))) <;> (apply A.take 4; exact rfl; exact rfl; kernel_rfl; kernel_rfl; kernel_rfl; (apply Ok1.move; exact rfl)) <;> (apply A.take 5; exact rfl; exact rfl; kernel_rfl; kernel_rfl; kernel_rfl; (apply Ok1.fieldAddr; (iterate 5 exact rfl))) <;> (apply A.take 6; exact rfl; exact rfl; kernel_rfl; kernel_rfl; kernel_rfl; (apply Ok1.indexAddrA; (iterate 5 exact rfl); omega; omega)) <;> (apply A.take 7; exact rfl; exact rfl; kernel_rfl; kernel_rfl; kernel_rfl; (apply Ok1.load; exact rfl; (apply Ld.own1; exact rfl; exact rfl; (focus ((repeat' (first | exact At.head | apply At.tail)); done)); exact hyf))) <;> ((apply A.take 8; exact rfl; exact rfl; kernel_rfl; kernel_rfl; kernel_rfl; (apply Ok1.neq_f; exact rfl; exact rfl; omega))) <;> (apply A.take 9; exact rfl; exact rfl; kernel_rfl; kernel_rfl; kernel_rfl; (apply Ok1.move; exact rfl)) <;> ((apply A.takeG 10; exact rfl; exact rfl; rotate_left 3; exact rfl; exact rfl; rotate_right 3; kernel_rfl; kernel_rfl; kernel_rfl; (apply Ok1.move; exact rfl))) <;> ((apply A.takeG 11; exact rfl; exact rfl; rotate_left 3; exact rfl; exact rfl; rotate_right 3; kernel_rfl; kernel_rfl; kernel_rfl; (apply Ok1.fieldAddr; (iterate 5 exact rfl)))) <;> ((apply A.takeG 12; exact rfl; exact rfl; rotate_left 3; exact rfl; exact rfl; rotate_right 3; kernel_rfl; kernel_rfl; kernel_rfl; (apply Ok1.indexAddrA; (iterate 5 exact rfl); omega; omega))) <;> ((apply A.takeG 13; exact rfl; exact rfl; rotate_left 3; exact rfl; exact rfl; rotate_right 3; kernel_rfl; kernel_rfl; kernel_rfl; (apply Ok1.load; exact rfl; (apply Ld.own1; exact rfl; exact rfl; exact At.head; exact hxl)))) <;> ((apply A.takeG 14; exact rfl; exact rfl; rotate_left 3; exact rfl; exact rfl; rotate_right 3; kernel_rfl; kernel_rfl; kernel_rfl; (apply Ok1.move; exact rfl))) <;> ((apply A.takeG 15; exact rfl; exact rfl; rotate_left 3; exact rfl; exact rfl; rotate_right 3; kernel_rfl; kernel_rfl; kernel_rfl; (apply Ok1.fieldAddr; (iterate 5 exact rfl)))) <;> ((apply A.takeG 16; exact rfl; exact rfl; rotate_left 3; exact rfl; exact rfl; rotate_right 3; kernel_rfl; kernel_rfl; kernel_rfl; (apply Ok1.indexAddrA; (iterate 5 exact rfl); omega; omega))) <;> ((apply A.takeG 17; exact rfl; exact rfl; rotate_left 3; exact rfl; exact rfl; rotate_right 3; kernel_rfl; kernel_rfl; kernel_rfl; (apply Ok1.load; exact rfl; (apply Ld.own1; exact rfl; exact rfl; (focus ((repeat' (first | exact At.head | apply At.tail)); done)); exact hyl)))) <;> (apply A.one 18; kernel_rfl; exact rfl; (((apply R.isG; apply R.guard_run; exact rfl; exact rfl; ((apply R.callV (vs := [.slice x.2.p x.2.xs.length x.2.cap, .slice y.2.p y.2.xs.length y.2.cap]); (iterate 3 exact rfl); intro w1 hw1; exact hsm w1 hw1.chg))))); apply R.nil; refine ⟨?_, ?_⟩; (focus ((repeat' (first | exact trivial | (refine ⟨?_, ?_⟩; (focus ((repeat' (first | exact At.head | apply At.tail)); done)))))))) <;> ((apply A.takeG 19; exact rfl; exact rfl; rotate_left 3; exact rfl; exact rfl; rotate_right 3; kernel_rfl; kernel_rfl; kernel_rfl; (apply Ok1.not_f; exact rfl))) <;> (apply A.take 20; exact rfl; exact rfl; kernel_rfl; kernel_rfl; kernel_rfl; (apply Ok1.pick_f; exact rfl; exact rfl)) <;> (apply A.done; kernel_rfl))) | apply T.seq | apply T.region | apply T.block | apply T.skip | apply T.ret | (apply T.cond_t; exact rfl)))
          (apply RetOk.t; exact rfl)
          rw [hn]
      · have hn := hno (fun h => h1 (Prod.mk.inj h).1)
        repeat' (first | (apply R.is1; first | (apply R.isBin; (apply R.pure; exact rfl; (apply Ok1.lss_t; exact rfl; exact rfl; omega))) | (apply R.pure; exact rfl; first | (apply Ok1.move; exact rfl) | (apply Ok1.assign; exact rfl))) | apply R.nil | (apply T.is; first | (apply T.drawC (id := 4) [0,1] (by decide); ((apply A.take 0; exact rfl; exact rfl; kernel_rfl; kernel_rfl; kernel_rfl; (apply Ok1.move; exact rfl)) <;> (apply A.take 1; exact rfl; exact rfl; kernel_rfl; kernel_rfl; kernel_rfl; (apply Ok1.fieldAddr; (iterate 5 exact rfl))) <;> (apply A.take 2; exact rfl; exact rfl; kernel_rfl; kernel_rfl; kernel_rfl; (apply Ok1.indexAddrA; (iterate 5 exact rfl); omega; omega)) <;> (apply A.take 3; exact rfl; exact rfl; kernel_rfl; kernel_rfl; kernel_rfl; (apply Ok1.load; exact rfl; (apply Ld.own1; exact rfl; exact rfl; exact At.head; exact hxf))) <;> (apply A.take 4; exact rfl; exact rfl; kernel_rfl; kernel_rfl; kernel_rfl; (apply Ok1.move; exact rfl)) <;> (apply A.take 5; exact rfl; exact rfl; kernel_rfl; kernel_rfl; kernel_rfl; (apply Ok1.fieldAddr; (iterate 5 exact rfl))) <;> (apply A.take 6; exact rfl; exact rfl; kernel_rfl; kernel_rfl; kernel_rfl; (apply Ok1.indexAddrA; (iterate 5 exact rfl); omega; omega)) <;> (apply A.take 7; exact rfl; exact rfl; kernel_rfl; kernel_rfl; kernel_rfl; (apply Ok1.load; exact rfl; (apply Ld.own1; exact rfl; exact rfl; (focus ((repeat' (first | exact At.head | apply At.tail)); done)); exact hyf))) <;> ((apply A.take 8; exact rfl; exact rfl; kernel_rfl; kernel_rfl; kernel_rfl; (apply Ok1.neq_t; exact rfl; exact rfl; omega))) <;> (apply A.take 9; exact rfl; exact rfl; kernel_rfl; kernel_rfl; kernel_rfl; (apply Ok1.move; exact rfl)) <;> ((apply A.skipG 10; exact rfl; exact rfl; rotate_left 3; exact rfl; exact rfl; rotate_right 3; kernel_rfl; kernel_rfl; kernel_rfl)) <;> ((apply A.skipG 11; exact rfl; exact rfl; rotate_left 3; exact rfl; exact rfl; rotate_right 3; kernel_rfl; kernel_rfl; kernel_rfl)) <;> ((apply A.skipG 12; exact rfl; exact rfl; rotate_left 3; exact rfl; exact rfl; rotate_right 3; kernel_rfl; kernel_rfl; kernel_rfl)) <;> ((apply A.skipG 13; exact rfl; exact rfl; rotate_left 3; exact rfl; exact rfl; rotate_right 3; kernel_rfl; kernel_rfl; kernel_rfl)) <;> ((apply A.skipG 14; exact rfl; exact rfl; rotate_left 3; exact rfl; exact rfl; rotate_right 3; kernel_rfl; kernel_rfl; kernel_rfl)) <;> ((apply A.skipG 15; exact rfl; exact rfl; rotate_left 3; exact rfl; exact rfl; rotate_right 3; kernel_rfl; kernel_rfl; kernel_rfl)) <;> ((apply A.skipG 16; exact rfl; exact rfl; rotate_left 3; exact rfl; exact rfl; rotate_right 3; kernel_rfl; kernel_rfl; kernel_rfl)) <;> ((apply A.skipG 17; exact rfl; exact rfl; rotate_left 3; exact rfl; exact rfl; rotate_right 3; kernel_rfl; kernel_rfl; kernel_rfl)) <;> (apply A.one 18; kernel_rfl; exact rfl; (((apply R.isG; (apply R.guard_not; (iterate 3 exact rfl))))); apply R.nil; refine ⟨?_, ?_⟩; (focus ((repeat' (first | exact trivial | (refine ⟨?_, ?_⟩; (focus ((repeat' (first | exact At.head | apply At.tail)); done)))))))) <;> ((apply A.skipG 19; exact rfl; exact rfl; rotate_left 3; exact rfl; exact rfl; rotate_right 3; kernel_rfl; kernel_rfl; kernel_rfl)) <;> (apply A.take 20; exact rfl; exact rfl; kernel_rfl; kernel_rfl; kernel_rfl; (apply Ok1.pick_t; exact rfl; exact rfl)) <;> (apply A.done; kernel_rfl))) | apply T.seq | apply T.region | apply T.block | apply T.skip | apply T.ret | (apply T.cond_t; exact rfl)))
        (apply RetOk.t; exact rfl)
        rw [hn]
    · have hi4 : i = 4 := by omega
      subst hi4
      rw [List.take_of_length_le (by omega), List.take_of_length_le (by omega)] at hpre
      rw [decide_eq_true hpre]
      repeat' (first | (apply R.is1; first | (apply R.isBin; (apply R.pure; exact rfl; (apply Ok1.lss_f; exact rfl; exact rfl; omega))) | (apply R.pure; exact rfl; first | (apply Ok1.move; exact rfl) | (apply Ok1.assign; exact rfl))) | apply R.nil | (apply T.is; first | apply T.seq | apply T.region | apply T.exit | apply T.ret | (apply T.cond_f; exact rfl)))
      (apply RetOk.t; exact rfl)
      rfl
/-- A delta's cells of which the first so many are there. -/
def padV (d : Dl) : List Value := iis (d.map (·.1) ++ List.replicate (4 - d.length) 0) ++ (fl Pi.v (d.map (·.2)) ++ List.replicate (4 - d.length) (.slice none 0 0))
theorem pad_all {d : Dl} (h : d.length = 4) : padV d = dlV d := by simp [padV, dlV, h]
theorem pad0 : padV [] = noD := rfl
theorem pad_len {d : Dl} (h : d.length ≤ 4) : (padV d).length = 8 := by
  rw [padV, List.length_append, List.length_append, iis_len, fl_pi, List.length_map, List.length_append, List.length_map, List.length_replicate, List.length_replicate, List.length_map]
  omega
theorem pad_from {d : Dl} {i : Nat} (hd : d.length = i) (hi : i < 4) (f : Int) : setE (padV d) (0 + i * 1) [.int .i64 f] = some (padV (d ++ [(f, ⟨none, 0, []⟩)])) := by
  have e : padV d = iis (d.map (·.1)) ++ ([.int .i64 0] ++ (iis (List.replicate (3 - i) 0) ++ (fl Pi.v (d.map (·.2)) ++ List.replicate (4 - i) (.slice none 0 0)))) := by
    rw [padV, iis_app, hd, show 4 - i = (3 - i) + 1 by omega, List.replicate_succ, List.append_assoc]
    rfl
  have hl : (iis (d.map (·.1))).length = 0 + i * 1 := by rw [iis_len, List.length_map, hd]; omega
  rw [e, ← hl, setE_mid _ (by simp)]
  congr 1
  simp only [padV, List.length_append, hd, List.length_singleton, List.map_append, iis_app, fl_pi, show 4 - (i + 1) = 3 - i by omega, show 4 - i = (3 - i) + 1 by omega, List.replicate_succ]
  simp [iis]
theorem pad_log {d : Dl} {i : Nat} (hd : d.length = i) (hi : i < 4) (f : Int) (x : Pi) (y : Pi) : setE (padV (d ++ [(f, x)])) (4 + i * 1) [.slice y.p y.xs.length y.cap] = some (padV (d ++ [(f, y)])) := by
  have e : ∀ z : Pi, padV (d ++ [(f, z)]) = (iis (d.map (·.1) ++ [f] ++ List.replicate (3 - i) 0) ++ fl Pi.v (d.map (·.2))) ++ ([.slice z.p z.xs.length z.cap] ++ List.replicate (3 - i) (.slice none 0 0)) := by
    intro z
    rw [padV, List.length_append, hd, List.length_singleton, List.map_append, List.map_append, fl_pi, fl_pi, List.map_append, show 4 - (i + 1) = 3 - i by omega]
    simp
  have hl : (iis (d.map (·.1) ++ [f] ++ List.replicate (3 - i) 0) ++ fl Pi.v (d.map (·.2))).length = 4 + i * 1 := by
    rw [List.length_append, iis_len, fl_pi, List.length_map, List.length_append, List.length_append, List.length_map, List.length_replicate, List.length_map, List.length_singleton, hd]
    omega
  rw [e x, e y, ← hl, setE_mid _ (by simp)]
  simp
theorem pad_at {d : Dl} {i : Nat} (hd : d.length = i) (hi : i < 4) (f : Int) (y : Pi) : (padV (d ++ [(f, y)]))[4 + i * 1]? = some (.slice y.p y.xs.length y.cap) := by
  have h := setE_spec (pad_log hd hi f y y)
  rw [h.2.2, if_pos ⟨Nat.le_refl _, by simp⟩]
  simp
end Go.Proofs.Ytligpachgcmkcaa
