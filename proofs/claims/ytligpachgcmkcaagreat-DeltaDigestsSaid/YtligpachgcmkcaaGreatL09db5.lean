/- Texts of the proof: Rd7, Rf6, Dd1, Dd2, Dd3, Dd4, Dd5, Eng15, Eng22, L08x, Dd6. -/
import Derived.Test.YtligpachgcmkcaaGreatL09db4
import Derived.ProofKit
import Derived.Deep.Slices
import Derived.OpenShut
set_option linter.unusedSimpArgs false
set_option linter.unusedVariables false
namespace Go.Proofs.YtligpachgcmkcaaGreat
open Go.RowKit Go.Shelf
set_option maxRecDepth 100000
theorem pB_small {n : Int} (h0 : 0 ≤ n) (h1 : n ≤ 65535) : pB n = [n / 256, n % 256] := by
  rw [pB, u8_mod, u8_mod, Int.emod_eq_of_lt (by omega) (by omega)]
theorem pB_snoc {xs : List Int} {k : Nat} {y : Int} (h : xs[k]? = some y) : (xs.take (k + 1)).flatMap pB = (xs.take k).flatMap pB ++ pB y := by
  rw [List.take_add_one, h, List.flatMap_append]
  simp
theorem pBs_byt (xs : List Int) : Byt (xs.flatMap pB) := fun x hx => by
  obtain ⟨z, _, hz⟩ := List.mem_flatMap.1 hx
  exact pB_byt z x hz
theorem pr_byt (ls : List (List Int)) : Byt (prI ls) := fun x hx => by
  obtain ⟨z, _, hz⟩ := List.mem_flatMap.1 hx
  exact pBs_byt _ x hz
theorem dprint_ok (bs : Nat) (gs : List Lg) (hg : GOk gs) (hlo : LOk (lgs gs)) (w : World) (hs : DSR w bs gs) : CallW Tryz.prog 25 [.pointer (some ⟨bs, 0, none⟩), .agg ⟨tabV⟩] w fun v _ => v = .agg ⟨u8s (shaI (prI (lgs gs)))⟩ := by
  have hb := hs.b
  have htl : tabV.length = 72 := rfl
  have hle : ∀ xs ∈ lgs gs, xs.length ≤ 256 := fun xs hx => by obtain ⟨g, hgm, rfl⟩ := List.mem_map.1 hx; exact hg.le g hgm
  have hlen : (lgs gs).length = 4 := by rw [lgs, List.length_map, hg.len]
  have hsum := fun b p cap (h : b.length ≤ 999999000) (hb : Byt b) w1 hp => sum_ok p b.length cap b rfl h hb w1 hp
  generalize tabV = tv at *
  refine enterW (tb := tb) Tryz.func25 rfl Tryz.ntmps25 rfl ?_
  repeat' (first | (apply R.is1; first | (apply R.pure; exact rfl; (apply Ok1.assign; exact rfl)) | (apply R.box; (iterate 3 exact rfl); intro) | (apply R.alloc; (iterate 3 exact rfl); intro)) | apply R.nil | (apply T.is; first | apply T.seq | apply T.region | apply T.block))
  rename_i b3 b4
  apply T.loopK (α := Nat × Ov) (I := fun y => y.1 ≤ 4 ∧ OvOk 1 y.2 (prI ((lgs gs).take y.1)).length (u8s (prI ((lgs gs).take y.1)))) (σi := fun y => [(0, .pointer (some ⟨bs, 0, none⟩)), (3, .pointer (some ⟨b3, 0, none⟩)), (4, .pointer (some ⟨b4, 0, none⟩)), (5, slV y.2 (prI ((lgs gs).take y.1)).length), (6, .int .i64 y.1)])
    (Li := fun y => (b4, .cells ⟨List.replicate 32 (.int .u8 0)⟩ 67 (0, 0)) :: (b3, .cells ⟨tv⟩ 37 (0, 0)) :: blkL 5 y.2 (u8s (prI ((lgs gs).take y.1)))) (μ := fun y => 4 - y.1) (i0 := (0, none))
  · exact ⟨Nat.zero_le _, rfl, rfl⟩
  · exact ⟨rfl, rfl, rfl, rfl, rfl, trivial⟩
  · (focus ((repeat' (first | exact Keep.nil _ | exact Ext.one _ _ | apply Keep.cons)); done))
  · rintro ⟨i, ov⟩ ⟨hi, hov⟩
    simp only at hi hov ⊢
    have hpl := pr_len (ls := (lgs gs).take i) fun xs hx => hle xs (List.mem_of_mem_take hx)
    have htk : ((lgs gs).take i).length ≤ 4 := by rw [List.length_take, hlen]; omega
    rcases Nat.lt_or_ge i 4 with hlt | hge
    · obtain ⟨g, hx⟩ : ∃ g, gs[i]? = some g := ⟨_, List.getElem?_eq_getElem (by rw [hg.len]; omega)⟩
      have hm := List.mem_of_getElem? hx
      have hcell := setV_get hx (hg.ok g hm)
      have hgl := hg.le g hm
      have hrd := hs.rd g hm
      have hxl : (lgs gs)[i]? = some g.xs := by rw [lgs, List.getElem?_map, hx]; rfl
      have hsn := pr_snoc hxl
      have hlb : lB g.xs = pB (g.xs.length : Int) ++ g.xs.flatMap pB := rfl
      rw [hlb] at hsn
      generalize prI ((lgs gs).take i) = o0 at *
      repeat' (first | (apply R.is1; first | (apply R.isBin; (apply R.pure; exact rfl; (apply Ok1.lss_t; exact rfl; exact rfl; omega))) | (apply R.pure; exact rfl; first | (apply Ok1.move; exact rfl) | (apply Ok1.assign; exact rfl))) | apply R.nil | (apply T.is; first | (apply T.drawC (id := 5) [] (by decide); ((apply A.take 0; exact rfl; exact rfl; kernel_rfl; kernel_rfl; kernel_rfl; (apply Ok1.move; exact rfl)) <;> (apply A.take 1; exact rfl; exact rfl; kernel_rfl; kernel_rfl; kernel_rfl; (apply Ok1.move; exact rfl)) <;> (apply A.take 2; exact rfl; exact rfl; kernel_rfl; kernel_rfl; kernel_rfl; (apply Ok1.move; exact rfl)) <;> (apply A.take 3; exact rfl; exact rfl; kernel_rfl; kernel_rfl; kernel_rfl; (apply Ok1.nilCheck; exact rfl)) <;> (apply A.take 4; exact rfl; exact rfl; kernel_rfl; kernel_rfl; kernel_rfl; (apply Ok1.fieldAddr; (iterate 5 exact rfl))) <;> (apply A.take 5; exact rfl; exact rfl; kernel_rfl; kernel_rfl; kernel_rfl; (apply Ok1.indexAddrA; (iterate 5 exact rfl); omega; omega)) <;> (apply A.take 6; exact rfl; exact rfl; kernel_rfl; kernel_rfl; kernel_rfl; (apply Ok1.load; exact rfl; apply Ld.blk1; exact rfl; exact rfl; exact hb; exact List.not_mem_nil; exact hcell)) <;> (apply A.take 7; exact rfl; exact rfl; kernel_rfl; kernel_rfl; kernel_rfl; (apply Ok1.lenS; (iterate 3 exact rfl))) <;> (apply A.take 8; exact rfl; exact rfl; kernel_rfl; kernel_rfl; kernel_rfl; (apply Ok1.quo64; exact rfl; exact rfl; omega; omega; omega)) <;> (apply A.take 9; exact rfl; exact rfl; kernel_rfl; kernel_rfl; kernel_rfl; (apply Ok1.convU8; (iterate 5 exact rfl); omega; omega)) <;> (apply A.take 10; exact rfl; exact rfl; kernel_rfl; kernel_rfl; kernel_rfl; (apply Ok1.move; exact rfl)) <;> (apply A.take 11; exact rfl; exact rfl; kernel_rfl; kernel_rfl; kernel_rfl; (apply Ok1.move; exact rfl)) <;> (apply A.take 12; exact rfl; exact rfl; kernel_rfl; kernel_rfl; kernel_rfl; (apply Ok1.nilCheck; exact rfl)) <;> (apply A.take 13; exact rfl; exact rfl; kernel_rfl; kernel_rfl; kernel_rfl; (apply Ok1.fieldAddr; (iterate 5 exact rfl))) <;> (apply A.take 14; exact rfl; exact rfl; kernel_rfl; kernel_rfl; kernel_rfl; (apply Ok1.indexAddrA; (iterate 5 exact rfl); omega; omega)) <;> (apply A.take 15; exact rfl; exact rfl; kernel_rfl; kernel_rfl; kernel_rfl; (apply Ok1.load; exact rfl; apply Ld.blk1; exact rfl; exact rfl; exact hb; exact List.not_mem_nil; exact hcell)) <;> (apply A.take 16; exact rfl; exact rfl; kernel_rfl; kernel_rfl; kernel_rfl; (apply Ok1.lenS; (iterate 3 exact rfl))) <;> (apply A.take 17; exact rfl; exact rfl; kernel_rfl; kernel_rfl; kernel_rfl; (apply Ok1.remN; exact rfl; exact rfl; omega; omega)) <;> (apply A.take 18; exact rfl; exact rfl; kernel_rfl; kernel_rfl; kernel_rfl; (apply Ok1.convU8; (iterate 5 exact rfl); omega; omega)) <;> (apply A.one 19; kernel_rfl; exact rfl; (((apply R.buildSlice; (iterate 12 exact rfl); intro))); apply R.nil; refine ⟨?_, ?_⟩; (focus ((repeat' (exact trivial))))) <;> (apply A.one 20; kernel_rfl; exact rfl; (((apply R.append1; (iterate 12 exact rfl); (focus ((repeat' (first | exact OwnAt.base hov | apply OwnAt.tail)); done)); exact At.head; exact rfl; exact rfl; omega; omega; intro b2 j2 k2 hj2))); apply R.nil; refine ⟨?_, ?_⟩; (focus ((repeat' (exact trivial))))) <;> (apply A.take 21; exact rfl; exact rfl; kernel_rfl; kernel_rfl; kernel_rfl; (apply Ok1.assign; exact rfl)) <;> (apply A.done; kernel_rfl))) | apply T.seq | apply T.region | apply T.block | apply T.skip | (apply T.cond_t; exact rfl)))
      have hov1 := hov.some (b := b2) (ys := u8s (pB (g.xs.length : Int))) (m := 2) rfl (by exact hj2)
      have hp1 : u8s (pB (g.xs.length : Int)) = [.int .u8 (g.xs.length / 256), .int .u8 (g.xs.length % 256)] := by rw [pB_small (by omega) (by omega)]; rfl
      rw [← hp1]
      have hoo : ∀ k, o0 ++ (pB (g.xs.length : Int) ++ (g.xs.take k).flatMap pB) = (o0 ++ pB (g.xs.length : Int)) ++ (g.xs.take k).flatMap pB := fun k => (List.append_assoc _ _ _).symm
      have hol : (o0 ++ pB (g.xs.length : Int)).length = o0.length + 2 := by rw [List.length_append]; rfl
      have hou : u8s (o0 ++ pB (g.xs.length : Int)) = u8s o0 ++ u8s (pB (g.xs.length : Int)) := u8s_app _ _
      rw [← hou] at hov1
      rw [← hou]
      rw [← hol] at hov1
      rw [← List.append_assoc] at hsn
      generalize o0 ++ pB (g.xs.length : Int) = o1 at *
      apply T.loopK (α := Nat × Ov) (I := fun y => y.1 ≤ g.xs.length ∧ OvOk 1 y.2 (o1 ++ (g.xs.take y.1).flatMap pB).length (u8s (o1 ++ (g.xs.take y.1).flatMap pB))) (σi := fun y => [(0, .pointer (some ⟨bs, 0, none⟩)), (3, .pointer (some ⟨b3, 0, none⟩)), (4, .pointer (some ⟨b4, 0, none⟩)), (5, slV y.2 (o1 ++ (g.xs.take y.1).flatMap pB).length), (6, .int .i64 i), (7, .int .i64 y.1)])
        (Li := fun y => (b4, .cells ⟨List.replicate 32 (.int .u8 0)⟩ 67 (0, 0)) :: (b3, .cells ⟨tv⟩ 37 (0, 0)) :: blkL 5 y.2 (u8s (o1 ++ (g.xs.take y.1).flatMap pB))) (μ := fun y => g.xs.length - y.1) (i0 := (0, some (b2, j2, k2)))
      · exact ⟨Nat.zero_le _, by simpa using hov1⟩
      · simp only [List.take_zero, List.flatMap_nil, List.append_nil, hol]
        exact ⟨rfl, rfl, rfl, rfl, rfl, rfl, trivial⟩
      · simp only [List.take_zero, List.flatMap_nil, List.append_nil]
        (focus ((repeat' (first | exact Keep.nil _ | exact Ext.one _ _ | apply Keep.cons | apply Ext.cons)); done))
      · rintro ⟨k, ov3⟩ ⟨hk, hov3⟩
        simp only at hk hov3 ⊢
        have hbl : (o1 ++ (g.xs.take k).flatMap pB).length ≤ 3000 := by
          rw [List.length_append, fpB_len, List.length_take]
          omega
        rcases Nat.lt_or_ge k g.xs.length with hlk | hgk
        · obtain ⟨y, hy⟩ : ∃ y, g.xs[k]? = some y := ⟨_, List.getElem?_eq_getElem (by omega)⟩
          obtain ⟨hy1, hy2⟩ := (hlo g.xs (List.mem_of_getElem? hxl)).1 y (List.mem_of_getElem? hy)
          obtain ⟨b1, o1', hpe, H⟩ := hrd.at hy
          replace H := H 1 iV_len
          have hps := pB_snoc hy
          have hp2 : u8s (pB y) = [.int .u8 (y / 256), .int .u8 (y % 256)] := by rw [pB_small (by omega) (by omega)]; rfl
          have hpl2 : (pB y).length = 2 := rfl
          repeat' (first | (apply R.is1; first | (apply R.isBin; (apply R.pure; exact rfl; first | (apply Ok1.add64; exact rfl; exact rfl; omega; omega) | (apply Ok1.lss_t; exact rfl; exact rfl; omega))) | (apply R.isCall; (apply R.pure; exact rfl; (apply Ok1.lenS; (iterate 3 exact rfl)))) | (apply R.pure; exact rfl; first | (apply Ok1.load; exact rfl; (apply Ld.blk1; exact rfl; exact rfl; exact hb; exact List.not_mem_nil; exact hcell)) | (apply Ok1.move; exact rfl) | (apply Ok1.fieldAddr; (iterate 5 exact rfl)) | (apply Ok1.assign; exact rfl) | (apply Ok1.indexAddrA; (iterate 5 exact rfl); omega; omega) | (apply Ok1.nilCheck; exact rfl))) | apply R.nil | (apply T.is; first | (apply T.drawC (id := 9) [] (by decide); (((apply A.take 0; exact rfl; exact rfl; kernel_rfl; kernel_rfl; kernel_rfl; (apply Ok1.move; exact rfl)); refine A.cast (listed' := #[true, false, false, false, false, false, false, false, false, false, false, false, false, false, false, false, false, false, false, false, false, false, false, false, false, false]) (by kernel_rfl) ?_) <;> ((apply A.take 1; exact rfl; exact rfl; kernel_rfl; kernel_rfl; kernel_rfl; (apply Ok1.move; exact rfl)); refine A.cast (listed' := #[true, true, false, false, false, false, false, false, false, false, false, false, false, false, false, false, false, false, false, false, false, false, false, false, false, false]) (by kernel_rfl) ?_) <;> ((apply A.take 2; exact rfl; exact rfl; kernel_rfl; kernel_rfl; kernel_rfl; (apply Ok1.move; exact rfl)); refine A.cast (listed' := #[true, true, true, false, false, false, false, false, false, false, false, false, false, false, false, false, false, false, false, false, false, false, false, false, false, false]) (by kernel_rfl) ?_) <;> ((apply A.take 3; exact rfl; exact rfl; kernel_rfl; kernel_rfl; kernel_rfl; (apply Ok1.nilCheck; exact rfl)); refine A.cast (listed' := #[true, true, true, true, false, false, false, false, false, false, false, false, false, false, false, false, false, false, false, false, false, false, false, false, false, false]) (by kernel_rfl) ?_) <;> ((apply A.take 4; exact rfl; exact rfl; kernel_rfl; kernel_rfl; kernel_rfl; (apply Ok1.fieldAddr; (iterate 5 exact rfl))); refine A.cast (listed' := #[true, true, true, true, true, false, false, false, false, false, false, false, false, false, false, false, false, false, false, false, false, false, false, false, false, false]) (by kernel_rfl) ?_) <;> ((apply A.take 5; exact rfl; exact rfl; kernel_rfl; kernel_rfl; kernel_rfl; (apply Ok1.indexAddrA; (iterate 5 exact rfl); omega; omega)); refine A.cast (listed' := #[true, true, true, true, true, true, false, false, false, false, false, false, false, false, false, false, false, false, false, false, false, false, false, false, false, false]) (by kernel_rfl) ?_) <;> ((apply A.take 6; exact rfl; exact rfl; kernel_rfl; kernel_rfl; kernel_rfl; (apply Ok1.load; exact rfl; (apply Ld.blk1; exact rfl; exact rfl; exact hb; exact List.not_mem_nil; exact hcell))); refine A.cast (listed' := #[true, true, true, true, true, true, true, false, false, false, false, false, false, false, false, false, false, false, false, false, false, false, false, false, false, false]) (by kernel_rfl) ?_) <;> ((apply A.take 7; exact rfl; exact rfl; kernel_rfl; kernel_rfl; kernel_rfl; (apply Ok1.move; exact rfl)); refine A.cast (listed' := #[true, true, true, true, true, true, true, true, false, false, false, false, false, false, false, false, false, false, false, false, false, false, false, false, false, false]) (by kernel_rfl) ?_) <;> ((apply A.take 8; exact rfl; exact rfl; kernel_rfl; kernel_rfl; kernel_rfl; (apply Ok1.indexAddrP; (iterate 4 exact rfl); exact hpe; exact rfl; omega; omega)); refine A.cast (listed' := #[true, true, true, true, true, true, true, true, true, false, false, false, false, false, false, false, false, false, false, false, false, false, false, false, false, false]) (by kernel_rfl) ?_) <;> ((apply A.take 9; exact rfl; exact rfl; kernel_rfl; kernel_rfl; kernel_rfl; (apply Ok1.load; exact rfl; (apply Ld.row0 H; exact rfl; exact List.not_mem_nil; (iterate 3 exact rfl)))); refine A.cast (listed' := #[true, true, true, true, true, true, true, true, true, true, false, false, false, false, false, false, false, false, false, false, false, false, false, false, false, false]) (by kernel_rfl) ?_) <;> ((apply A.take 10; exact rfl; exact rfl; kernel_rfl; kernel_rfl; kernel_rfl; (apply Ok1.quo64; exact rfl; exact rfl; omega; omega; omega)); refine A.cast (listed' := #[true, true, true, true, true, true, true, true, true, true, true, false, false, false, false, false, false, false, false, false, false, false, false, false, false, false]) (by kernel_rfl) ?_) <;> ((apply A.take 11; exact rfl; exact rfl; kernel_rfl; kernel_rfl; kernel_rfl; (apply Ok1.convU8; (iterate 5 exact rfl); omega; omega)); refine A.cast (listed' := #[true, true, true, true, true, true, true, true, true, true, true, true, false, false, false, false, false, false, false, false, false, false, false, false, false, false]) (by kernel_rfl) ?_) <;> ((apply A.take 12; exact rfl; exact rfl; kernel_rfl; kernel_rfl; kernel_rfl; (apply Ok1.move; exact rfl)); refine A.cast (listed' := #[true, true, true, true, true, true, true, true, true, true, true, true, true, false, false, false, false, false, false, false, false, false, false, false, false, false]) (by kernel_rfl) ?_) <;> ((apply A.take 13; exact rfl; exact rfl; kernel_rfl; kernel_rfl; kernel_rfl; (apply Ok1.move; exact rfl)); refine A.cast (listed' := #[true, true, true, true, true, true, true, true, true, true, true, true, true, true, false, false, false, false, false, false, false, false, false, false, false, false]) (by kernel_rfl) ?_) <;> ((apply A.take 14; exact rfl; exact rfl; kernel_rfl; kernel_rfl; kernel_rfl; (apply Ok1.nilCheck; exact rfl)); refine A.cast (listed' := #[true, true, true, true, true, true, true, true, true, true, true, true, true, true, true, false, false, false, false, false, false, false, false, false, false, false]) (by kernel_rfl) ?_) <;> ((apply A.take 15; exact rfl; exact rfl; kernel_rfl; kernel_rfl; kernel_rfl; (apply Ok1.fieldAddr; (iterate 5 exact rfl))); refine A.cast (listed' := #[true, true, true, true, true, true, true, true, true, true, true, true, true, true, true, true, false, false, false, false, false, false, false, false, false, false]) (by kernel_rfl) ?_) <;> ((apply A.take 16; exact rfl; exact rfl; kernel_rfl; kernel_rfl; kernel_rfl; (apply Ok1.indexAddrA; (iterate 5 exact rfl); omega; omega)); refine A.cast (listed' := #[true, true, true, true, true, true, true, true, true, true, true, true, true, true, true, true, true, false, false, false, false, false, false, false, false, false]) (by kernel_rfl) ?_) <;> ((apply A.take 17; exact rfl; exact rfl; kernel_rfl; kernel_rfl; kernel_rfl; (apply Ok1.load; exact rfl; (apply Ld.blk1; exact rfl; exact rfl; exact hb; exact List.not_mem_nil; exact hcell))); refine A.cast (listed' := #[true, true, true, true, true, true, true, true, true, true, true, true, true, true, true, true, true, true, false, false, false, false, false, false, false, false]) (by kernel_rfl) ?_) <;> ((apply A.take 18; exact rfl; exact rfl; kernel_rfl; kernel_rfl; kernel_rfl; (apply Ok1.move; exact rfl)); refine A.cast (listed' := #[true, true, true, true, true, true, true, true, true, true, true, true, true, true, true, true, true, true, true, false, false, false, false, false, false, false]) (by kernel_rfl) ?_) <;> ((apply A.take 19; exact rfl; exact rfl; kernel_rfl; kernel_rfl; kernel_rfl; (apply Ok1.indexAddrP; (iterate 4 exact rfl); exact hpe; exact rfl; omega; omega)); refine A.cast (listed' := #[true, true, true, true, true, true, true, true, true, true, true, true, true, true, true, true, true, true, true, true, false, false, false, false, false, false]) (by kernel_rfl) ?_) <;> ((apply A.take 20; exact rfl; exact rfl; kernel_rfl; kernel_rfl; kernel_rfl; (apply Ok1.load; exact rfl; (apply Ld.row0 H; exact rfl; exact List.not_mem_nil; (iterate 3 exact rfl)))); refine A.cast (listed' := #[true, true, true, true, true, true, true, true, true, true, true, true, true, true, true, true, true, true, true, true, true, false, false, false, false, false]) (by kernel_rfl) ?_) <;> ((apply A.take 21; exact rfl; exact rfl; kernel_rfl; kernel_rfl; kernel_rfl; (apply Ok1.remN; exact rfl; exact rfl; omega; omega)); refine A.cast (listed' := #[true, true, true, true, true, true, true, true, true, true, true, true, true, true, true, true, true, true, true, true, true, true, false, false, false, false]) (by kernel_rfl) ?_) <;> ((apply A.take 22; exact rfl; exact rfl; kernel_rfl; kernel_rfl; kernel_rfl; (apply Ok1.convU8; (iterate 5 exact rfl); omega; omega)); refine A.cast (listed' := #[true, true, true, true, true, true, true, true, true, true, true, true, true, true, true, true, true, true, true, true, true, true, true, false, false, false]) (by kernel_rfl) ?_) <;> (apply A.one 23; kernel_rfl; exact rfl; (((apply R.buildSlice; (iterate 12 exact rfl); intro))); apply R.nil; refine ⟨?_, ?_⟩; (focus ((repeat' (exact trivial))))) <;> (apply A.one 24; kernel_rfl; exact rfl; (((apply R.append1; (iterate 12 exact rfl); (focus ((repeat' (first | exact OwnAt.base hov3 | apply OwnAt.tail)); done)); exact At.head; exact rfl; exact rfl; omega; omega; intro b2 j2 k2 hj2))); apply R.nil; refine ⟨?_, ?_⟩; (focus ((repeat' (exact trivial))))) <;> ((apply A.take 25; exact rfl; exact rfl; kernel_rfl; kernel_rfl; kernel_rfl; (apply Ok1.assign; exact rfl)); refine A.cast (listed' := #[true, true, true, true, true, true, true, true, true, true, true, true, true, true, true, true, true, true, true, true, true, true, true, true, true, true]) (by kernel_rfl) ?_) <;> (apply A.done; kernel_rfl))) | apply T.seq | apply T.region | apply T.block | apply T.skip | (apply T.cond_t; exact rfl)))
          have hov4 := hov3.some (b := b2) (ys := u8s (pB y)) (m := 2) rfl (by exact hj2)
          have e1 : o1 ++ (g.xs.take (k + 1)).flatMap pB = (o1 ++ (g.xs.take k).flatMap pB) ++ pB y := by rw [hps, List.append_assoc]
          have e2 : (o1 ++ (g.xs.take (k + 1)).flatMap pB).length = (o1 ++ (g.xs.take k).flatMap pB).length + 2 := (congrArg List.length e1).trans List.length_append
          refine ⟨(k + 1, some (b2, j2, k2)), ⟨by simp only; omega, ?_⟩, by simp only; omega, ?_, ?_⟩
          · simp only [e2]
            rw [e1, u8s_app]
            exact hov4
          · simp only [e2]
            exact ⟨rfl, rfl, rfl, rfl, rfl, rfl, trivial⟩
          · simp only
            rw [e1, u8s_app (o1 ++ (g.xs.take k).flatMap pB) (pB y), hp2]
            (focus ((repeat' (first | exact Keep.nil _ | exact Ext.one _ _ | apply Keep.cons | apply Ext.cons)); done))
        · have hke : k = g.xs.length := by omega
          subst hke
          rw [List.take_length, ← hsn] at hov3
          rw [List.take_length, ← hsn]
          repeat' (first | (apply R.is1; first | (apply R.isBin; (apply R.pure; exact rfl; first | (apply Ok1.add64; exact rfl; exact rfl; omega; omega) | (apply Ok1.lss_f; exact rfl; exact rfl; omega))) | (apply R.isCall; (apply R.pure; exact rfl; (apply Ok1.lenS; (iterate 3 exact rfl)))) | (apply R.pure; exact rfl; first | (apply Ok1.load; exact rfl; apply Ld.blk1; exact rfl; exact rfl; exact hb; exact List.not_mem_nil; exact hcell) | (apply Ok1.move; exact rfl) | (apply Ok1.fieldAddr; (iterate 5 exact rfl)) | (apply Ok1.assign; exact rfl) | (apply Ok1.indexAddrA; (iterate 5 exact rfl); omega; omega) | (apply Ok1.nilCheck; exact rfl))) | apply R.nil | (apply T.is; first | apply T.seq | apply T.region | apply T.exit | (apply T.cond_f; exact rfl)))
          exact ⟨(i + 1, ov3), ⟨by simp only; omega, hov3⟩, by simp only; omega, ⟨rfl, rfl, rfl, rfl, rfl, trivial⟩, by (focus ((repeat' (first | exact Ext.one _ _ | exact Ext.all _ | apply Keep.cons | apply Keep.last)); done))⟩
    · have him : i = 4 := by omega
      subst him
      rw [List.take_of_length_le (by omega)] at hov hpl ⊢
      have hby := pr_byt (lgs gs)
      have hsum2 := fun p cap w1 hp => hsum (prI (lgs gs)) p cap (by omega) hby w1 hp
      have hls : (u8s (shaI (prI (lgs gs)))).length = 32 := by rw [u8s_len, sha_len]
      have hone := u8s_one (shaI (prI (lgs gs)))
      have hset : ∀ cs : List Value, cs.length = 32 → setE cs 0 (u8s (shaI (prI (lgs gs)))) = some (u8s (shaI (prI (lgs gs)))) := fun cs h => setE_all (by rw [hls, h])
      have hsub := subE_all hls
      clear hsum
      generalize shaI (prI (lgs gs)) = d0 at *
      simp only [slV_eq hov]
      repeat' (first | (apply R.is1; first | (apply R.isBin; (apply R.pure; exact rfl; (apply Ok1.lss_f; exact rfl; exact rfl; omega))) | (apply R.isCall; (apply R.callV (vs := [.agg ⟨tv⟩, .slice (ovp ov) (prI (lgs gs)).length (ovc ov (prI (lgs gs)).length)]); (iterate 3 exact rfl); intro w1 hw1; exact hsum2 _ _ w1 (rdown hov hw1 (Ext.mem (by (focus ((repeat' (first | exact Ext.all _ | apply Ext.cons)); done))))))) | (apply R.pure; exact rfl; first | (apply Ok1.load; exact rfl; apply Ld.ownk; exact rfl; exact rfl; (focus ((repeat' (first | exact At.head | apply At.tail)); done)); exact subE_all htl) | (apply Ok1.move; exact rfl))) | (apply R.is0; (apply R.store; (iterate 4 exact rfl); exact hls; exact hone; exact Upd.head; exact hset _ rfl)) | apply R.nil | (apply T.is; first | apply T.seq | apply T.region | apply T.exit | apply T.ret | (apply T.cond_f; exact rfl)))
      all_goals apply RetOk.c
      all_goals first | exact rfl | skip
      all_goals (apply Ld.ownk; exact rfl; exact rfl; exact At.head; exact hsub)
end Go.Proofs.YtligpachgcmkcaaGreat
set_option linter.unusedSimpArgs false
set_option linter.unusedVariables false
namespace Go.Proofs.YtligpachgcmkcaaGreat
open Go.RowKit Go.Shelf
set_option maxRecDepth 100000
def u64n (l : List Nat) : List Value := l.map fun (d : Nat) => .int .u64 (d : Int)
def dig : Nat → Nat → List Nat
  | 0, _ => []
  | n + 1, v => v % 65536 :: dig n (v / 65536)
def val : List Nat → Nat
  | [] => 0
  | d :: r => d + 65536 * val r
theorem dig_len (n v : Nat) : (dig n v).length = n := by
  induction n generalizing v with
  | zero => rfl
  | succ n ih => simp [dig, ih]
theorem dig_get (n v i : Nat) (h : i < n) : (dig n v).getD i 0 = v / 65536 ^ i % 65536 := by
  induction n generalizing v i with
  | zero => omega
  | succ n ih =>
    cases i with
    | zero => simp [dig]
    | succ i =>
      have := ih (v / 65536) i (by omega)
      simp only [dig, List.getD_cons_succ, this, Nat.div_div_eq_div_mul]
      rw [Nat.pow_succ, Nat.mul_comm]
theorem dig_val {l : List Nat} (h : ∀ d ∈ l, d < 65536) : dig l.length (val l) = l := by
  induction l with
  | nil => rfl
  | cons d l ih =>
    have h1 := ih fun x hx => h x (List.mem_cons_of_mem _ hx)
    have h2 := h d List.mem_cons_self
    simp only [val, List.length_cons, dig]
    rw [show (d + 65536 * val l) % 65536 = d by omega, show (d + 65536 * val l) / 65536 = val l by omega, h1]
theorem dig_mod (n v : Nat) : dig n (v % 65536 ^ n) = dig n v := by
  induction n generalizing v with
  | zero => rfl
  | succ n ih =>
    simp only [dig]
    have h1 : v % 65536 ^ (n + 1) % 65536 = v % 65536 := Nat.mod_mod_of_dvd v (by rw [Nat.pow_succ]; exact Nat.dvd_mul_left _ _)
    have h2 : v % 65536 ^ (n + 1) / 65536 = v / 65536 % 65536 ^ n := by
      rw [Nat.pow_succ, Nat.mul_comm, Nat.mod_mul_right_div_self]
    rw [h1, h2, ih]
theorem val_set (l : List Nat) (i x : Nat) (h : i < l.length) : val (l.set i x) + l.getD i 0 * 65536 ^ i = val l + x * 65536 ^ i := by
  induction l generalizing i with
  | nil => simp at h
  | cons d l ih =>
    cases i with
    | zero => simp [val]; omega
    | succ i =>
      have := ih i (by simpa using h)
      simp only [List.set_cons_succ, val, List.getD_cons_succ]
      rw [Nat.pow_succ, ← Nat.mul_assoc, ← Nat.mul_assoc]
      omega
theorem mod_step (A i : Nat) : A % 65536 ^ (i + 1) = A % 65536 ^ i + A / 65536 ^ i % 65536 * 65536 ^ i := by
  rw [Nat.pow_succ, Nat.mod_mul, Nat.mul_comm (65536 ^ i)]
/-- One step of the inner loop. -/
theorem inner_step {Z Z' Z0 ov a B z i k : Nat} (hset : Z' + z * 65536 ^ (i + k) = Z + (ov + z + a * (B / 65536 ^ k % 65536)) % 65536 * 65536 ^ (i + k))
    (h : Z + ov * 65536 ^ (i + k) = Z0 + a * (B % 65536 ^ k) * 65536 ^ i) :
    Z' + (ov + z + a * (B / 65536 ^ k % 65536)) / 65536 * 65536 ^ (i + (k + 1)) = Z0 + a * (B % 65536 ^ (k + 1)) * 65536 ^ i := by
  rw [mod_step B k]
  generalize B / 65536 ^ k % 65536 = b at *
  have e1 : a * (B % 65536 ^ k + b * 65536 ^ k) * 65536 ^ i = a * (B % 65536 ^ k) * 65536 ^ i + a * b * 65536 ^ (i + k) := by rw [Nat.mul_add a, Nat.add_mul, Nat.pow_add, ← Nat.mul_assoc a, Nat.mul_assoc (a * b), Nat.mul_comm (65536 ^ k)]
  rw [e1, ← Nat.add_assoc Z0, ← h, show i + (k + 1) = (i + k) + 1 by omega, Nat.pow_succ]
  generalize 65536 ^ (i + k) = P at *
  have h4 := Nat.div_add_mod (ov + z + a * b) 65536
  generalize (ov + z + a * b) / 65536 = q at *
  generalize (ov + z + a * b) % 65536 = m at *
  have h5 : (65536 * q + m) * P = (ov + z + a * b) * P := by rw [h4]
  rw [Nat.add_mul, Nat.add_mul, Nat.add_mul, Nat.mul_comm 65536 q, Nat.mul_assoc] at h5
  rw [Nat.mul_comm P 65536]
  generalize q * (65536 * P) = s1 at *
  generalize m * P = s2 at *
  generalize ov * P = s3 at *
  generalize z * P = s4 at *
  generalize a * b * P = s5 at *
  omega
theorem outer_step {Z Z0 ov A B i : Nat} (hi : i ≤ 12) (h0 : Z0 % 65536 ^ 12 = (A % 65536 ^ i * B) % 65536 ^ 12)
    (h : Z + ov * 65536 ^ 12 = Z0 + (A / 65536 ^ i % 65536) * (B % 65536 ^ (12 - i)) * 65536 ^ i) : Z % 65536 ^ 12 = (A % 65536 ^ (i + 1) * B) % 65536 ^ 12 := by
  have h1 : Z % 65536 ^ 12 = (Z + ov * 65536 ^ 12) % 65536 ^ 12 := by rw [Nat.add_mul_mod_self_right]
  rw [h1, h, mod_step A i, Nat.add_mul]
  generalize A / 65536 ^ i % 65536 = a
  have h2 : (a * (B % 65536 ^ (12 - i)) * 65536 ^ i) % 65536 ^ 12 = (a * 65536 ^ i * B) % 65536 ^ 12 := by
    have e : 65536 ^ 12 = 65536 ^ i * 65536 ^ (12 - i) := by rw [← Nat.pow_add]; congr 1; omega
    rw [Nat.mul_comm _ (65536 ^ i), Nat.mul_comm a (65536 ^ i), Nat.mul_assoc (65536 ^ i) a B, e, Nat.mul_mod_mul_left, Nat.mul_mod_mul_left]
    rw [Nat.mul_mod a (B % _), Nat.mod_mod, ← Nat.mul_mod]
  rw [Nat.add_mod, h0, h2, ← Nat.add_mod]
theorem parts_ok (y : Nat) (hy : y < 18446744073709551616) : CallP Tryz.prog 54 [.int .u64 y] (.agg ⟨u64n (dig 12 y)⟩) := by
  refine enterP (tb := tb) Tryz.func54 rfl Tryz.ntmps54 rfl fun w => ?_
  repeat' (first | (apply R.is1; first | (apply R.isBin; (apply R.pure; exact rfl; first | (apply Ok1.quoU; exact rfl; exact rfl; omega; omega; omega) | (apply Ok1.add64; exact rfl; exact rfl; omega; omega) | (apply Ok1.lss_t; exact rfl; exact rfl; omega) | (apply Ok1.lss_f; exact rfl; exact rfl; omega) | (apply Ok1.remN; exact rfl; exact rfl; omega; omega))) | (apply R.pure; exact rfl; first | (apply Ok1.move; exact rfl) | (apply Ok1.load; exact rfl; (apply Ld.ownk; exact rfl; exact rfl; exact At.head; exact rfl)) | (apply Ok1.assign; exact rfl) | (apply Ok1.indexAddrA; (iterate 5 exact rfl); omega; omega) | (apply Ok1.buildA; (iterate 6 exact rfl))) | (apply R.alloc; (iterate 3 exact rfl); intro)) | (apply R.is0; (apply R.store; (iterate 6 exact rfl); (focus ((repeat' (first | exact Upd.head | apply Upd.tail)); done)); exact rfl)) | apply R.nil | (apply T.is; first | apply T.rounds 5 | apply T.seq | apply T.region | apply T.block | apply T.skip | apply T.exit | apply T.ret | (apply T.cond_t; exact rfl) | (apply T.cond_f; exact rfl)))
  (apply RetOk.c; exact rfl; ((apply Ld.ownk; exact rfl; exact rfl; (focus ((repeat' (first | exact At.head | apply At.tail)); done)); exact rfl)))
  have h0 : y / 65536 / 65536 / 65536 / 65536 = 0 := by omega
  have h1 : ∀ n, dig n 0 = List.replicate n 0 := by
    intro n
    induction n with
    | zero => rfl
    | succ n ih => simp [dig, ih, List.replicate_succ]
  have h2 : dig 12 y = y % 65536 :: y / 65536 % 65536 :: y / 65536 / 65536 % 65536 :: y / 65536 / 65536 / 65536 % 65536 :: dig 8 (y / 65536 / 65536 / 65536 / 65536) := rfl
  rw [h2, h0, h1]
  simp only [u64n, List.map_cons, Int.natCast_emod, Int.natCast_ediv]
  rfl
theorem u64n_len (l : List Nat) : (u64n l).length = l.length := by simp [u64n]
theorem u64n_get {l : List Nat} {o : Nat} (h : o < l.length) : (u64n l)[o]? = some (.int .u64 (l.getD o 0 : Nat)) := by simp [u64n, h]
theorem u64n_one (l : List Nat) : (u64n l).all Value.oneCell' = true := by rw [List.all_eq_true]; intro x hx; obtain ⟨y, _, rfl⟩ := List.mem_map.1 hx; rfl
theorem u64n_set {l : List Nat} {o x : Nat} (h : o < l.length) : setE (u64n l) o [.int .u64 (x : Int)] = some (u64n (l.set o x)) := by
  rw [setE_one (by rw [u64n_len]; exact h)]
  simp [u64n, List.map_set]
theorem times_ok (U V : Nat) : CallP Tryz.prog 55 [.agg ⟨u64n (dig 12 U)⟩, .agg ⟨u64n (dig 12 V)⟩] (.agg ⟨u64n (dig 12 (U * V))⟩) := by
  refine enterP (tb := tb) Tryz.func55 rfl Tryz.ntmps55 rfl fun w => ?_
  have hla := dig_len 12 U
  have hlb := dig_len 12 V
  have hga : ∀ i : Nat, i < 12 → (u64n (dig 12 U))[0 + (i : Int).toNat * 1]? = some (.int .u64 (U / 65536 ^ i % 65536 : Nat)) := fun i hi => by rw [← dig_get 12 U i hi]; rw [show 0 + (i : Int).toNat * 1 = i by omega]; exact u64n_get (by omega)
  have hgb : ∀ i : Nat, i < 12 → (u64n (dig 12 V))[0 + (i : Int).toNat * 1]? = some (.int .u64 (V / 65536 ^ i % 65536 : Nat)) := fun i hi => by rw [← dig_get 12 V i hi]; rw [show 0 + (i : Int).toNat * 1 = i by omega]; exact u64n_get (by omega)
  have hca : cellsE (.agg ⟨u64n (dig 12 U)⟩) = some (u64n (dig 12 U)) := rfl
  generalize hAv : u64n (dig 12 U) = av at *
  generalize hBv : u64n (dig 12 V) = bv at *
  repeat' (first | (apply R.is1; first | (apply R.pure; exact rfl; first | (apply Ok1.assign; exact rfl) | (apply Ok1.buildA; (iterate 6 exact rfl))) | (apply R.box; (iterate 3 exact rfl); intro) | (apply R.alloc; (iterate 3 exact rfl); intro)) | (apply R.is0; (apply R.store; (iterate 6 exact rfl); exact Upd.head; exact rfl)) | apply R.nil | (apply T.is; first | apply T.seq | apply T.region | apply T.block))
  rename_i bA bB bO bZ
  apply T.loopK (α := Nat × List Nat) (I := fun x => x.1 ≤ 12 ∧ x.2.length = 12 ∧ (∀ d ∈ x.2, d < 65536) ∧ val x.2 % 65536 ^ 12 = (U % 65536 ^ x.1 * V) % 65536 ^ 12) (σi := fun x => [(2, .pointer (some ⟨bA, 0, none⟩)), (3, .pointer (some ⟨bB, 0, none⟩)), (4, .pointer (some ⟨bO, 0, none⟩)), (5, .pointer (some ⟨bZ, 0, none⟩)), (6, .int .i64 x.1)])
    (Li := fun x => [(bZ, .cells ⟨u64n x.2⟩ 114 (0, 0)), (bO, .cells ⟨List.replicate 12 (.int .u64 0)⟩ 114 (0, 0)), (bB, .cells ⟨bv⟩ 114 (0, 0)), (bA, .cells ⟨av⟩ 114 (0, 0))]) (μ := fun x => 12 - x.1) (i0 := (0, List.replicate 12 0))
  · refine ⟨by decide, rfl, ?_, ?_⟩
    · intro d hd; rw [List.eq_of_mem_replicate hd]; decide
    · simp only [Nat.pow_zero, Nat.mod_one, Nat.zero_mul]; rfl
  · exact ⟨rfl, rfl, rfl, rfl, rfl, trivial⟩
  · (focus ((repeat' (first | exact Keep.nil _ | exact Ext.one _ _ | apply Keep.cons)); done))
  · rintro ⟨i, z0⟩ ⟨hi, hz0, hd0, hv0⟩
    simp only at hi hz0 hd0 hv0 ⊢
    rcases Nat.lt_or_ge i 12 with hlt | hge
    · repeat' (first | (apply R.is1; first | (apply R.isBin; (apply R.pure; exact rfl; (apply Ok1.lss_t; exact rfl; exact rfl; omega))) | (apply R.pure; exact rfl; first | (apply Ok1.move; exact rfl) | (apply Ok1.assign; exact rfl))) | apply R.nil | (apply T.is; first | apply T.seq | apply T.region | apply T.block | apply T.skip | (apply T.cond_t; exact rfl)))
      have hai := hga i hlt
      have ha16 : U / 65536 ^ i % 65536 < 65536 := Nat.mod_lt _ (by decide)
      have hout := fun Z ov => @outer_step Z (val z0) ov U V i hi hv0
      generalize U / 65536 ^ i % 65536 = a at *
      apply T.loopK (α := Nat × Nat × List Nat) (I := fun x => i + x.1 ≤ 12 ∧ x.2.1 < 65536 ∧ x.2.2.length = 12 ∧ (∀ d ∈ x.2.2, d < 65536) ∧ val x.2.2 + x.2.1 * 65536 ^ (i + x.1) = val z0 + a * (V % 65536 ^ x.1) * 65536 ^ i) (σi := fun x => [(2, .pointer (some ⟨bA, 0, none⟩)), (3, .pointer (some ⟨bB, 0, none⟩)), (4, .pointer (some ⟨bO, 0, none⟩)), (5, .pointer (some ⟨bZ, 0, none⟩)), (6, .int .i64 i), (7, .int .u64 x.2.1), (8, .int .i64 x.1)])
        (Li := fun x => [(bZ, .cells ⟨u64n x.2.2⟩ 114 (0, 0)), (bO, .cells ⟨List.replicate 12 (.int .u64 0)⟩ 114 (0, 0)), (bB, .cells ⟨bv⟩ 114 (0, 0)), (bA, .cells ⟨av⟩ 114 (0, 0))]) (μ := fun x => 12 - x.1) (i0 := (0, 0, z0))
      · exact ⟨by omega, by simp only; omega, hz0, hd0, by simp [Nat.mod_one]⟩
      · exact ⟨rfl, rfl, rfl, rfl, rfl, rfl, rfl, trivial⟩
      · (focus ((repeat' (first | exact Keep.nil _ | exact Ext.one _ _ | apply Keep.cons)); done))
      · rintro ⟨k, ov, z⟩ ⟨hk, hov, hz, hd, hv⟩
        simp only at hk hov hz hd hv ⊢
        rcases Nat.lt_or_ge (i + k) 12 with hlt2 | hge2
        · have hbk := hgb k (by omega)
          have hb16 : V / 65536 ^ k % 65536 < 65536 := Nat.mod_lt _ (by decide)
          have hpos : 0 + ((i : Int) + (k : Int)).toNat * 1 = i + k := by omega
          have hzk : (u64n z)[0 + ((i : Int) + (k : Int)).toNat * 1]? = some (.int .u64 (z.getD (i + k) 0 : Nat)) := by rw [hpos]; exact u64n_get (by omega)
          have hzm : z.getD (i + k) 0 < 65536 := hd _ (by rw [List.getD_eq_getElem?_getD, List.getElem?_eq_getElem (by omega)]; exact List.getElem_mem _)
          have hvs := fun x => val_set z (i + k) x (by omega)
          have hstep := @inner_step (val z)
          generalize z.getD (i + k) 0 = zk at *
          have hst := fun Z' => @inner_step (val z) Z' (val z0) ov a V zk i k
          generalize V / 65536 ^ k % 65536 = b at *
          have hab : a * b ≤ 65535 * 65535 := Nat.mul_le_mul (by omega) (by omega)
          have hcast : ((a * b : Nat) : Int) = (a : Int) * (b : Int) := by push_cast; rfl
          have hab2 : (a : Int) * (b : Int) ≤ 4294836225 := by rw [← hcast]; omega
          have hab0 : 0 ≤ (a : Int) * (b : Int) := by rw [← hcast]; omega
          have hset : setE (u64n z) (0 + ((i : Int) + (k : Int)).toNat * 1) [.int .u64 (((ov : Int) + (zk : Int) + (a : Int) * (b : Int)) % 65536)] = some (u64n (z.set (i + k) ((ov + zk + a * b) % 65536))) := by
            rw [hpos, ← u64n_set (by omega)]
            congr 3
          have hdiv : ((ov : Int) + (zk : Int) + (a : Int) * (b : Int)) / 65536 = (((ov + zk + a * b) / 65536 : Nat) : Int) := by
            rw [Int.natCast_ediv, Int.natCast_add, Int.natCast_add, Int.natCast_mul]; rfl
          repeat' (first | (apply R.is1; first | (apply R.isBin; (apply R.pure; exact rfl; first | (apply Ok1.quoU; exact rfl; exact rfl; omega; omega; omega) | (apply Ok1.add64; exact rfl; exact rfl; omega; omega) | (apply Ok1.lss_t; exact rfl; exact rfl; omega) | (apply Ok1.remN; exact rfl; exact rfl; omega; omega))) | (apply R.pure; exact rfl; first | (apply Ok1.move; exact rfl) | (apply Ok1.assign; exact rfl) | (apply Ok1.indexAddrA; (iterate 5 exact rfl); omega; omega))) | (apply R.is0; (apply R.store; (iterate 6 exact rfl); exact Upd.head; exact hset)) | apply R.nil | (apply T.is; first | (apply T.drawC (id := 9) [0,2,3] (by decide); ((apply A.take 0; exact rfl; exact rfl; kernel_rfl; kernel_rfl; kernel_rfl; (apply Ok1.move; exact rfl)) <;> (apply A.take 1; exact rfl; exact rfl; kernel_rfl; kernel_rfl; kernel_rfl; (apply Ok1.move; exact rfl)) <;> (apply A.take 2; exact rfl; exact rfl; kernel_rfl; kernel_rfl; kernel_rfl; (apply Ok1.move; exact rfl)) <;> (apply A.take 3; exact rfl; exact rfl; kernel_rfl; kernel_rfl; kernel_rfl; (apply Ok1.add64; exact rfl; exact rfl; omega; omega)) <;> (apply A.take 4; exact rfl; exact rfl; kernel_rfl; kernel_rfl; kernel_rfl; (apply Ok1.indexAddrA; (iterate 5 exact rfl); omega; omega)) <;> (apply A.take 5; exact rfl; exact rfl; kernel_rfl; kernel_rfl; kernel_rfl; (apply Ok1.load; exact rfl; apply Ld.own1; exact rfl; exact rfl; exact At.head; with_reducible (exact hzk))) <;> (apply A.take 6; exact rfl; exact rfl; kernel_rfl; kernel_rfl; kernel_rfl; (apply Ok1.addU; exact rfl; exact rfl; omega; omega)) <;> (apply A.take 7; exact rfl; exact rfl; kernel_rfl; kernel_rfl; kernel_rfl; (apply Ok1.move; exact rfl)) <;> (apply A.take 8; exact rfl; exact rfl; kernel_rfl; kernel_rfl; kernel_rfl; (apply Ok1.indexAddrA; (iterate 5 exact rfl); omega; omega)) <;> (apply A.take 9; exact rfl; exact rfl; kernel_rfl; kernel_rfl; kernel_rfl; (apply Ok1.load; exact rfl; apply Ld.own1; exact rfl; exact rfl; (focus ((repeat' (first | exact At.head | apply At.tail)); done)); with_reducible (exact hai))) <;> (apply A.take 10; exact rfl; exact rfl; kernel_rfl; kernel_rfl; kernel_rfl; (apply Ok1.move; exact rfl)) <;> (apply A.take 11; exact rfl; exact rfl; kernel_rfl; kernel_rfl; kernel_rfl; (apply Ok1.indexAddrA; (iterate 5 exact rfl); omega; omega)) <;> (apply A.take 12; exact rfl; exact rfl; kernel_rfl; kernel_rfl; kernel_rfl; (apply Ok1.load; exact rfl; apply Ld.own1; exact rfl; exact rfl; (focus ((repeat' (first | exact At.head | apply At.tail)); done)); with_reducible (exact hbk))) <;> (apply A.take 13; exact rfl; exact rfl; kernel_rfl; kernel_rfl; kernel_rfl; (apply Ok1.mulU; exact rfl; exact rfl; omega; omega)) <;> (apply A.take 14; exact rfl; exact rfl; kernel_rfl; kernel_rfl; kernel_rfl; (apply Ok1.addU; exact rfl; exact rfl; omega; omega)) <;> (apply A.take 15; exact rfl; exact rfl; kernel_rfl; kernel_rfl; kernel_rfl; (apply Ok1.assign; exact rfl)) <;> (apply A.done; kernel_rfl))) | apply T.seq | apply T.region | apply T.block | apply T.skip | (apply T.cond_t; exact rfl)))
          refine ⟨(k + 1, (ov + zk + a * b) / 65536, z.set (i + k) ((ov + zk + a * b) % 65536)), ⟨by simp only; omega, by simp only; omega, by simp only [List.length_set]; exact hz, ?_, hst _ (hvs _) hv⟩, by simp only; omega, ⟨rfl, rfl, rfl, rfl, rfl, congrArg (fun z => some (Value.int .u64 z)) hdiv, rfl, trivial⟩, ?_⟩
          · intro d hdm
            rcases List.mem_or_eq_of_mem_set hdm with h | rfl
            · exact hd d h
            · exact Nat.mod_lt _ (by decide)
          · (focus ((repeat' (first | exact Keep.nil _ | exact Ext.one _ _ | apply Keep.cons)); done))
        · have he : i + k = 12 := by omega
          have hk2 : k = 12 - i := by omega
          rw [he, hk2] at hv
          have hv2 := hout _ _ hv
          repeat' (first | (apply R.is1; first | (apply R.isBin; (apply R.pure; exact rfl; first | (apply Ok1.add64; exact rfl; exact rfl; omega; omega) | (apply Ok1.lss_f; exact rfl; exact rfl; omega))) | (apply R.pure; exact rfl; first | (apply Ok1.move; exact rfl) | (apply Ok1.assign; exact rfl))) | apply R.nil | (apply T.is; first | apply T.seq | apply T.region | apply T.exit | (apply T.cond_f; exact rfl)))
          exact ⟨(i + 1, z), ⟨by simp only; omega, hz, hd, hv2⟩, by simp only; omega, ⟨rfl, rfl, rfl, rfl, rfl, trivial⟩, by (focus ((repeat' (first | exact Keep.nil _ | exact Ext.one _ _ | apply Keep.cons)); done))⟩
    · have he : i = 12 := by omega
      subst he
      have hfin : u64n z0 = u64n (dig 12 (U * V)) := by
        have h1 := dig_val hd0
        rw [hz0] at h1
        rw [← h1, ← dig_mod 12 (val z0), hv0, Nat.mod_mul_mod, dig_mod]
      rw [← hfin]
      have hl : (u64n z0).length = 12 := by rw [u64n_len, hz0]
      have ho := u64n_one z0
      repeat' (first | (apply R.is1; first | (apply R.isBin; (apply R.pure; exact rfl; (apply Ok1.lss_f; exact rfl; exact rfl; omega))) | (apply R.pure; exact rfl; first | (apply Ok1.load; exact rfl; apply Ld.ownk; exact rfl; exact rfl; exact At.head; exact subE_all hl) | (apply Ok1.move; exact rfl))) | (apply R.is0; (apply R.store; (iterate 4 exact rfl); exact hl; exact ho; (focus ((repeat' (first | exact Upd.head | apply Upd.tail)); done)); exact setE_all hl)) | apply R.nil | (apply T.is; first | apply T.seq | apply T.region | apply T.exit | apply T.ret | (apply T.cond_f; exact rfl)))
      apply RetOk.c
      exact rfl
      apply Ld.ownk
      exact rfl
      exact rfl
      (focus ((repeat' (first | exact At.head | apply At.tail)); done))
      exact subE_all hl
      rfl
end Go.Proofs.YtligpachgcmkcaaGreat
set_option linter.unusedSimpArgs false
set_option linter.unusedVariables false
namespace Go.Proofs.YtligpachgcmkcaaGreat
open Go.RowKit Go.Shelf
set_option maxRecDepth 100000
theorem dig_shift (n v : Nat) : dig (n + 1) (65536 * v) = 0 :: dig n v := by
  simp only [dig]
  rw [Nat.mul_mod_right, Nat.mul_div_cancel_left v (by decide)]
theorem dig_zero (n : Nat) : dig n 0 = List.replicate n 0 := by
  induction n with
  | zero => rfl
  | succ n ih => simp [dig, ih, List.replicate_succ]
theorem dig_one (n p : Nat) (h : p < 65536) : dig (n + 1) p = p :: List.replicate n 0 := by
  simp only [dig]
  rw [Nat.mod_eq_of_lt h, Nat.div_eq_of_lt h, dig_zero]
theorem top4 (p : Nat) (h : p < 65536) : dig 12 (p * 65536 ^ 4) = [0, 0, 0, 0, p, 0, 0, 0, 0, 0, 0, 0] := by
  rw [show p * 65536 ^ 4 = 65536 * (65536 * (65536 * (65536 * p))) by omega, dig_shift, dig_shift, dig_shift, dig_shift, dig_one _ _ h]
  rfl
theorem top6 (p : Nat) (h : p < 65536) : dig 12 (p * 65536 ^ 6) = [0, 0, 0, 0, 0, 0, p, 0, 0, 0, 0, 0] := by
  rw [show p * 65536 ^ 6 = 65536 * (65536 * (65536 * (65536 * (65536 * (65536 * p))))) by omega, dig_shift, dig_shift, dig_shift, dig_shift, dig_shift, dig_shift, dig_one _ _ h]
  rfl
theorem cmp_step {X T i : Nat} (h : X / 65536 ^ (i + 1) = T / 65536 ^ (i + 1)) :
    (X / 65536 ^ i % 65536 = T / 65536 ^ i % 65536 → X / 65536 ^ i = T / 65536 ^ i) ∧ (X / 65536 ^ i % 65536 < T / 65536 ^ i % 65536 → X ≤ T) ∧ (T / 65536 ^ i % 65536 < X / 65536 ^ i % 65536 → ¬ X ≤ T) := by
  rw [Nat.pow_succ, ← Nat.div_div_eq_div_mul, ← Nat.div_div_eq_div_mul] at h
  have hm : ∀ {a b : Nat}, a / 65536 ^ i < b / 65536 ^ i → a < b := by
    intro a b hab
    apply Nat.lt_of_not_le
    intro hba
    have := Nat.div_le_div_right (c := 65536 ^ i) hba
    omega
  refine ⟨fun e => by omega, fun e => Nat.le_of_lt (hm (by omega)), fun e => Nat.not_le_of_lt (hm (by omega))⟩
theorem small_2 (y p X TT : Nat) (hy : y < 137438953472) (hp : p < 65536) (hX : X = y * y) (hT : TT = p * 65536 ^ 4) : CallP Tryz.prog 39 [.int .u64 y, .int .u64 2, .int .u64 p] (.bool (decide (X ≤ TT))) := by
  refine enterP (tb := tb) Tryz.func39 rfl Tryz.ntmps39 rfl fun w => ?_
  obtain ⟨D, hD⟩ : ∃ D : Nat → List Value, D = fun v => u64n (dig 12 v) := ⟨_, rfl⟩
  have hpa : CallP Tryz.prog 54 [.int .u64 y] (.agg ⟨D y⟩) := by rw [hD]; exact parts_ok y (by omega)
  have hti : ∀ a b, CallP Tryz.prog 55 [.agg ⟨D a⟩, .agg ⟨D b⟩] (.agg ⟨D (a * b)⟩) := by intro a b; rw [hD]; exact times_ok a b
  have hDl : ∀ v, (D v).length = 12 := by intro v; rw [hD]; simp only [u64n_len, dig_len]
  have hDo : ∀ v, (D v).all Value.oneCell' = true := by intro v; rw [hD]; exact u64n_one _
  have hDg : ∀ (v i : Nat), i < 12 → ∀ j : Int, j = (i : Int) → (D v)[0 + j.toNat * 1]? = some (.int .u64 (v / 65536 ^ i % 65536 : Nat)) := by
    intro v i hi j hj
    subst hj
    rw [hD, ← dig_get 12 v i hi, show 0 + (i : Int).toNat * 1 = i by omega]; exact u64n_get (by rw [dig_len]; exact hi)
  have ht4 : setE [.int .u64 0, .int .u64 0, .int .u64 0, .int .u64 0, .int .u64 0, .int .u64 0, .int .u64 0, .int .u64 0, .int .u64 0, .int .u64 0, .int .u64 0, .int .u64 0] 4 [.int .u64 (p : Int)] = some (D TT) := by
    rw [hD, hT]; simp only [top4 p hp]; rfl
  have hb1 : y * y < 137438953472 * 137438953472 := Nat.mul_lt_mul'' hy hy
  have hb2 : y * y * y < 137438953472 * 137438953472 * 137438953472 := Nat.mul_lt_mul'' hb1 hy
  have hXb : X < 65536 ^ 12 := by rw [hX]; omega
  have hTb : TT < 65536 ^ 12 := by rw [hT]; omega
  have hti1 := hti y y
  rw [← hX] at hti1
  clear hD hti hT hX hb1 hb2
  repeat' (first | (apply R.is1; first | (apply R.isCall; apply R.callP rfl rfl rfl hpa) | (apply R.pure; exact rfl; first | (apply Ok1.move; exact rfl) | (apply Ok1.assign; exact rfl)) | (apply R.alloc; (iterate 3 exact rfl); intro)) | (apply R.is0; (apply R.store; (iterate 4 exact rfl); exact hDl _; exact hDo _; exact Upd.head; exact setE_all (hDl _))) | apply R.nil | (apply T.is; first | apply T.seq | apply T.region | apply T.block))
  apply T.rounds 3
  repeat' (first | (apply R.is1; first | (apply R.isBin; (apply R.pure; exact rfl; first | (apply Ok1.mulU; exact rfl; exact rfl; omega; omega) | (apply Ok1.addU; exact rfl; exact rfl; omega; omega) | (apply Ok1.lss_t; exact rfl; exact rfl; omega) | (apply Ok1.lss_f; exact rfl; exact rfl; omega))) | (apply R.pure; exact rfl; first | (apply Ok1.move; exact rfl) | (apply Ok1.assign; exact rfl) | (apply Ok1.indexAddrA; (iterate 5 exact rfl); omega; omega) | (apply Ok1.buildA; (iterate 6 exact rfl))) | (apply R.alloc; (iterate 3 exact rfl); intro)) | (apply R.is0; first | (apply R.store; (iterate 6 exact rfl); exact Upd.head; exact ht4) | (apply R.store; (iterate 6 exact rfl); exact Upd.head; exact rfl)) | apply R.nil | (apply T.is; first | (apply T.drawC (id := 5) [] (by decide); ((apply A.take 1; exact rfl; exact rfl; kernel_rfl; kernel_rfl; kernel_rfl; (apply Ok1.move; exact rfl)) <;> (apply A.call 2; exact rfl; exact rfl; kernel_rfl; kernel_rfl; kernel_rfl; exact rfl; exact rfl; (exact fun w1 _ => hpa.w w1)) <;> (apply A.one 0; kernel_rfl; exact rfl; (((apply R.pure; exact rfl; (apply Ok1.load; exact rfl; apply Ld.ownk; exact rfl; exact rfl; exact At.head; exact subE_all (hDl _))))); apply R.nil; refine ⟨?_, ?_⟩; (focus ((repeat' (exact trivial))))) <;> (apply A.call 3; exact rfl; exact rfl; kernel_rfl; kernel_rfl; kernel_rfl; exact rfl; exact rfl; (exact fun w1 _ => hti1.w w1)) <;> (apply A.one 4; kernel_rfl; exact rfl; (((apply R.store; (iterate 4 exact rfl); exact hDl _; exact hDo _; exact Upd.head; exact setE_all ((hDl _).trans (hDl _).symm)))); apply R.nil; refine ⟨?_, ?_⟩; (focus ((repeat' (exact trivial))))) <;> (apply A.done; kernel_rfl))) | apply T.seq | apply T.region | apply T.block | apply T.skip | apply T.exit | (apply T.cond_t; exact rfl) | (apply T.cond_f; exact rfl)))
  rename_i bX bT
  have hb0 : X / 65536 ^ 12 = TT / 65536 ^ 12 := by rw [Nat.div_eq_of_lt hXb, Nat.div_eq_of_lt hTb]
  apply T.loopK (α := Nat) (I := fun m => m ≤ 12 ∧ X / 65536 ^ m = TT / 65536 ^ m) (σi := fun m => [(7, .pointer (some ⟨bX, 0, none⟩)), (9, .pointer (some ⟨bT, 0, none⟩)), (10, .int .i64 ((m : Int) - 1))])
    (Li := fun _ => [(bT, .cells ⟨D TT⟩ 114 (0, 0)), (bX, .cells ⟨D X⟩ 114 (0, 0))]) (μ := fun m => m) (i0 := 12)
  · exact ⟨Nat.le_refl _, hb0⟩
  · exact ⟨rfl, rfl, rfl, trivial⟩
  · (focus ((repeat' (first | exact Keep.nil _ | exact Ext.one _ _ | apply Keep.cons)); done))
  · rintro m ⟨hm, hq⟩
    cases m with
    | zero =>
      repeat' (first | (apply R.is1; first | (apply R.isBin; (apply R.pure; exact rfl; (apply Ok1.geq_f; exact rfl; exact rfl; omega))) | (apply R.pure; exact rfl; first | (apply Ok1.move; exact rfl) | (apply Ok1.assign; exact rfl))) | apply R.nil | (apply T.is; first | apply T.seq | apply T.region | apply T.exit | apply T.ret | (apply T.cond_f; exact rfl)))
      (apply RetOk.t; exact rfl)
      simp only [Nat.pow_zero, Nat.div_one] at hq
      rw [decide_eq_true (Nat.le_of_eq hq)]
    | succ i =>
      obtain ⟨h1, h2, h3⟩ := cmp_step hq
      have gx := hDg X i (by omega) (((i + 1 : Nat) : Int) - 1) (by omega)
      have gt := hDg TT i (by omega) (((i + 1 : Nat) : Int) - 1) (by omega)
      generalize X / 65536 ^ i % 65536 = xi at *
      generalize TT / 65536 ^ i % 65536 = ti at *
      rcases Nat.lt_trichotomy xi ti with hc | hc | hc
      · repeat' (first | (apply R.is1; first | (apply R.isBin; (apply R.pure; exact rfl; (apply Ok1.geq_t; exact rfl; exact rfl; omega))) | (apply R.pure; exact rfl; (apply Ok1.move; exact rfl))) | apply R.nil | (apply T.is; first | (apply T.drawC (id := 11) [0,1] (by decide); ((apply A.take 0; exact rfl; exact rfl; kernel_rfl; kernel_rfl; kernel_rfl; (apply Ok1.move; exact rfl)) <;> (apply A.take 1; exact rfl; exact rfl; kernel_rfl; kernel_rfl; kernel_rfl; (apply Ok1.indexAddrA; (iterate 5 exact rfl); omega; omega)) <;> (apply A.take 2; exact rfl; exact rfl; kernel_rfl; kernel_rfl; kernel_rfl; (apply Ok1.load; exact rfl; apply Ld.own1; exact rfl; exact rfl; (focus ((repeat' (first | exact At.head | apply At.tail)); done)); with_reducible (exact gx))) <;> (apply A.take 3; exact rfl; exact rfl; kernel_rfl; kernel_rfl; kernel_rfl; (apply Ok1.move; exact rfl)) <;> (apply A.take 4; exact rfl; exact rfl; kernel_rfl; kernel_rfl; kernel_rfl; (apply Ok1.indexAddrA; (iterate 5 exact rfl); omega; omega)) <;> (apply A.take 5; exact rfl; exact rfl; kernel_rfl; kernel_rfl; kernel_rfl; (apply Ok1.load; exact rfl; apply Ld.own1; exact rfl; exact rfl; exact At.head; with_reducible (exact gt))) <;> ((apply A.take 6; exact rfl; exact rfl; kernel_rfl; kernel_rfl; kernel_rfl; (apply Ok1.neq_t; exact rfl; exact rfl; omega))) <;> (apply A.done; kernel_rfl))) | (apply T.drawC (id := 12) [0,1] (by decide); ((apply A.take 0; exact rfl; exact rfl; kernel_rfl; kernel_rfl; kernel_rfl; (apply Ok1.move; exact rfl)) <;> (apply A.take 1; exact rfl; exact rfl; kernel_rfl; kernel_rfl; kernel_rfl; (apply Ok1.indexAddrA; (iterate 5 exact rfl); omega; omega)) <;> (apply A.take 2; exact rfl; exact rfl; kernel_rfl; kernel_rfl; kernel_rfl; (apply Ok1.load; exact rfl; apply Ld.own1; exact rfl; exact rfl; (focus ((repeat' (first | exact At.head | apply At.tail)); done)); with_reducible (exact gx))) <;> (apply A.take 3; exact rfl; exact rfl; kernel_rfl; kernel_rfl; kernel_rfl; (apply Ok1.move; exact rfl)) <;> (apply A.take 4; exact rfl; exact rfl; kernel_rfl; kernel_rfl; kernel_rfl; (apply Ok1.indexAddrA; (iterate 5 exact rfl); omega; omega)) <;> (apply A.take 5; exact rfl; exact rfl; kernel_rfl; kernel_rfl; kernel_rfl; (apply Ok1.load; exact rfl; apply Ld.own1; exact rfl; exact rfl; exact At.head; with_reducible (exact gt))) <;> ((apply A.take 6; exact rfl; exact rfl; kernel_rfl; kernel_rfl; kernel_rfl; (apply Ok1.lss_t; exact rfl; exact rfl; omega))) <;> (apply A.take 7; exact rfl; exact rfl; kernel_rfl; kernel_rfl; kernel_rfl; (apply Ok1.assign; exact rfl)) <;> (apply A.done; kernel_rfl))) | apply T.seq | apply T.region | apply T.block | apply T.skip | apply T.ret | (apply T.cond_t; exact rfl)))
        (apply RetOk.t; exact rfl)
        rw [decide_eq_true (h2 hc)]
      · repeat' (first | (apply R.is1; first | (apply R.isBin; (apply R.pure; exact rfl; first | (apply Ok1.sub64; exact rfl; exact rfl; omega; omega) | (apply Ok1.geq_t; exact rfl; exact rfl; omega))) | (apply R.pure; exact rfl; first | (apply Ok1.move; exact rfl) | (apply Ok1.assign; exact rfl))) | apply R.nil | (apply T.is; first | (apply T.drawC (id := 11) [0,1] (by decide); ((apply A.take 0; exact rfl; exact rfl; kernel_rfl; kernel_rfl; kernel_rfl; (apply Ok1.move; exact rfl)) <;> (apply A.take 1; exact rfl; exact rfl; kernel_rfl; kernel_rfl; kernel_rfl; (apply Ok1.indexAddrA; (iterate 5 exact rfl); omega; omega)) <;> (apply A.take 2; exact rfl; exact rfl; kernel_rfl; kernel_rfl; kernel_rfl; (apply Ok1.load; exact rfl; apply Ld.own1; exact rfl; exact rfl; (focus ((repeat' (first | exact At.head | apply At.tail)); done)); with_reducible (exact gx))) <;> (apply A.take 3; exact rfl; exact rfl; kernel_rfl; kernel_rfl; kernel_rfl; (apply Ok1.move; exact rfl)) <;> (apply A.take 4; exact rfl; exact rfl; kernel_rfl; kernel_rfl; kernel_rfl; (apply Ok1.indexAddrA; (iterate 5 exact rfl); omega; omega)) <;> (apply A.take 5; exact rfl; exact rfl; kernel_rfl; kernel_rfl; kernel_rfl; (apply Ok1.load; exact rfl; apply Ld.own1; exact rfl; exact rfl; exact At.head; with_reducible (exact gt))) <;> ((apply A.take 6; exact rfl; exact rfl; kernel_rfl; kernel_rfl; kernel_rfl; (apply Ok1.neq_f; exact rfl; exact rfl; omega))) <;> (apply A.done; kernel_rfl))) | apply T.seq | apply T.region | apply T.block | apply T.skip | (apply T.cond_t; exact rfl) | (apply T.cond_f; exact rfl)))
        refine ⟨i, ⟨by omega, h1 hc⟩, by omega, ⟨rfl, rfl, ?_, trivial⟩, by (focus ((repeat' (first | exact Keep.nil _ | exact Ext.one _ _ | apply Keep.cons)); done))⟩
        exact congrArg (fun z => some (Value.int .i64 z)) (by omega)
      · repeat' (first | (apply R.is1; first | (apply R.isBin; (apply R.pure; exact rfl; (apply Ok1.geq_t; exact rfl; exact rfl; omega))) | (apply R.pure; exact rfl; (apply Ok1.move; exact rfl))) | apply R.nil | (apply T.is; first | (apply T.drawC (id := 11) [0,1] (by decide); ((apply A.take 0; exact rfl; exact rfl; kernel_rfl; kernel_rfl; kernel_rfl; (apply Ok1.move; exact rfl)) <;> (apply A.take 1; exact rfl; exact rfl; kernel_rfl; kernel_rfl; kernel_rfl; (apply Ok1.indexAddrA; (iterate 5 exact rfl); omega; omega)) <;> (apply A.take 2; exact rfl; exact rfl; kernel_rfl; kernel_rfl; kernel_rfl; (apply Ok1.load; exact rfl; apply Ld.own1; exact rfl; exact rfl; (focus ((repeat' (first | exact At.head | apply At.tail)); done)); with_reducible (exact gx))) <;> (apply A.take 3; exact rfl; exact rfl; kernel_rfl; kernel_rfl; kernel_rfl; (apply Ok1.move; exact rfl)) <;> (apply A.take 4; exact rfl; exact rfl; kernel_rfl; kernel_rfl; kernel_rfl; (apply Ok1.indexAddrA; (iterate 5 exact rfl); omega; omega)) <;> (apply A.take 5; exact rfl; exact rfl; kernel_rfl; kernel_rfl; kernel_rfl; (apply Ok1.load; exact rfl; apply Ld.own1; exact rfl; exact rfl; exact At.head; with_reducible (exact gt))) <;> ((apply A.take 6; exact rfl; exact rfl; kernel_rfl; kernel_rfl; kernel_rfl; (apply Ok1.neq_t; exact rfl; exact rfl; omega))) <;> (apply A.done; kernel_rfl))) | (apply T.drawC (id := 12) [0,1] (by decide); ((apply A.take 0; exact rfl; exact rfl; kernel_rfl; kernel_rfl; kernel_rfl; (apply Ok1.move; exact rfl)) <;> (apply A.take 1; exact rfl; exact rfl; kernel_rfl; kernel_rfl; kernel_rfl; (apply Ok1.indexAddrA; (iterate 5 exact rfl); omega; omega)) <;> (apply A.take 2; exact rfl; exact rfl; kernel_rfl; kernel_rfl; kernel_rfl; (apply Ok1.load; exact rfl; apply Ld.own1; exact rfl; exact rfl; (focus ((repeat' (first | exact At.head | apply At.tail)); done)); with_reducible (exact gx))) <;> (apply A.take 3; exact rfl; exact rfl; kernel_rfl; kernel_rfl; kernel_rfl; (apply Ok1.move; exact rfl)) <;> (apply A.take 4; exact rfl; exact rfl; kernel_rfl; kernel_rfl; kernel_rfl; (apply Ok1.indexAddrA; (iterate 5 exact rfl); omega; omega)) <;> (apply A.take 5; exact rfl; exact rfl; kernel_rfl; kernel_rfl; kernel_rfl; (apply Ok1.load; exact rfl; apply Ld.own1; exact rfl; exact rfl; exact At.head; with_reducible (exact gt))) <;> ((apply A.take 6; exact rfl; exact rfl; kernel_rfl; kernel_rfl; kernel_rfl; (apply Ok1.lss_f; exact rfl; exact rfl; omega))) <;> (apply A.take 7; exact rfl; exact rfl; kernel_rfl; kernel_rfl; kernel_rfl; (apply Ok1.assign; exact rfl)) <;> (apply A.done; kernel_rfl))) | apply T.seq | apply T.region | apply T.block | apply T.skip | apply T.ret | (apply T.cond_t; exact rfl)))
        (apply RetOk.t; exact rfl)
        rw [decide_eq_false (h3 hc)]
theorem small_3 (y p X TT : Nat) (hy : y < 137438953472) (hp : p < 65536) (hX : X = y * y * y) (hT : TT = p * 65536 ^ 6) : CallP Tryz.prog 39 [.int .u64 y, .int .u64 3, .int .u64 p] (.bool (decide (X ≤ TT))) := by
  refine enterP (tb := tb) Tryz.func39 rfl Tryz.ntmps39 rfl fun w => ?_
  obtain ⟨D, hD⟩ : ∃ D : Nat → List Value, D = fun v => u64n (dig 12 v) := ⟨_, rfl⟩
  have hpa : CallP Tryz.prog 54 [.int .u64 y] (.agg ⟨D y⟩) := by rw [hD]; exact parts_ok y (by omega)
  have hti : ∀ a b, CallP Tryz.prog 55 [.agg ⟨D a⟩, .agg ⟨D b⟩] (.agg ⟨D (a * b)⟩) := by intro a b; rw [hD]; exact times_ok a b
  have hDl : ∀ v, (D v).length = 12 := by intro v; rw [hD]; simp only [u64n_len, dig_len]
  have hDo : ∀ v, (D v).all Value.oneCell' = true := by intro v; rw [hD]; exact u64n_one _
  have hDg : ∀ (v i : Nat), i < 12 → ∀ j : Int, j = (i : Int) → (D v)[0 + j.toNat * 1]? = some (.int .u64 (v / 65536 ^ i % 65536 : Nat)) := by
    intro v i hi j hj
    subst hj
    rw [hD, ← dig_get 12 v i hi, show 0 + (i : Int).toNat * 1 = i by omega]; exact u64n_get (by rw [dig_len]; exact hi)
  have ht6 : setE [.int .u64 0, .int .u64 0, .int .u64 0, .int .u64 0, .int .u64 0, .int .u64 0, .int .u64 0, .int .u64 0, .int .u64 0, .int .u64 0, .int .u64 0, .int .u64 0] 6 [.int .u64 (p : Int)] = some (D TT) := by
    rw [hD, hT]; simp only [top6 p hp]; rfl
  have hb1 : y * y < 137438953472 * 137438953472 := Nat.mul_lt_mul'' hy hy
  have hb2 : y * y * y < 137438953472 * 137438953472 * 137438953472 := Nat.mul_lt_mul'' hb1 hy
  have hXb : X < 65536 ^ 12 := by rw [hX]; omega
  have hTb : TT < 65536 ^ 12 := by rw [hT]; omega
  have hti1 := hti y y
  have hti2 := hti (y * y) y
  rw [← hX] at hti2
  generalize y * y = yy at *
  clear hD hti hT hX hb1 hb2
  repeat' (first | (apply R.is1; first | (apply R.isCall; apply R.callP rfl rfl rfl hpa) | (apply R.pure; exact rfl; first | (apply Ok1.move; exact rfl) | (apply Ok1.assign; exact rfl)) | (apply R.alloc; (iterate 3 exact rfl); intro)) | (apply R.is0; (apply R.store; (iterate 4 exact rfl); exact hDl _; exact hDo _; exact Upd.head; exact setE_all (hDl _))) | apply R.nil | (apply T.is; first | apply T.seq | apply T.region | apply T.block))
  apply T.rounds 3
  repeat' (first | (apply R.is1; first | (apply R.isBin; (apply R.pure; exact rfl; first | (apply Ok1.mulU; exact rfl; exact rfl; omega; omega) | (apply Ok1.addU; exact rfl; exact rfl; omega; omega) | (apply Ok1.lss_t; exact rfl; exact rfl; omega) | (apply Ok1.lss_f; exact rfl; exact rfl; omega))) | (apply R.pure; exact rfl; first | (apply Ok1.move; exact rfl) | (apply Ok1.assign; exact rfl) | (apply Ok1.indexAddrA; (iterate 5 exact rfl); omega; omega) | (apply Ok1.buildA; (iterate 6 exact rfl))) | (apply R.alloc; (iterate 3 exact rfl); intro)) | (apply R.is0; first | (apply R.store; (iterate 6 exact rfl); exact Upd.head; exact ht6) | (apply R.store; (iterate 6 exact rfl); exact Upd.head; exact rfl)) | apply R.nil | (apply T.is; first | (apply T.drawC (id := 5) [] (by decide); ((apply A.take 1; exact rfl; exact rfl; kernel_rfl; kernel_rfl; kernel_rfl; (apply Ok1.move; exact rfl)) <;> (apply A.call 2; exact rfl; exact rfl; kernel_rfl; kernel_rfl; kernel_rfl; exact rfl; exact rfl; (exact fun w1 _ => hpa.w w1)) <;> (apply A.one 0; kernel_rfl; exact rfl; (((apply R.pure; exact rfl; (apply Ok1.load; exact rfl; apply Ld.ownk; exact rfl; exact rfl; exact At.head; exact subE_all (hDl _))))); apply R.nil; refine ⟨?_, ?_⟩; (focus ((repeat' (exact trivial))))) <;> (apply A.call 3; exact rfl; exact rfl; kernel_rfl; kernel_rfl; kernel_rfl; exact rfl; exact rfl; first | (exact fun w1 _ => hti1.w w1) | (exact fun w1 _ => hti2.w w1)) <;> (apply A.one 4; kernel_rfl; exact rfl; (((apply R.store; (iterate 4 exact rfl); exact hDl _; exact hDo _; exact Upd.head; exact setE_all ((hDl _).trans (hDl _).symm)))); apply R.nil; refine ⟨?_, ?_⟩; (focus ((repeat' (exact trivial))))) <;> (apply A.done; kernel_rfl))) | apply T.seq | apply T.region | apply T.block | apply T.skip | apply T.exit | (apply T.cond_t; exact rfl) | (apply T.cond_f; exact rfl)))
  rename_i bX bT
  have hb0 : X / 65536 ^ 12 = TT / 65536 ^ 12 := by rw [Nat.div_eq_of_lt hXb, Nat.div_eq_of_lt hTb]
  apply T.loopK (α := Nat) (I := fun m => m ≤ 12 ∧ X / 65536 ^ m = TT / 65536 ^ m) (σi := fun m => [(7, .pointer (some ⟨bX, 0, none⟩)), (9, .pointer (some ⟨bT, 0, none⟩)), (10, .int .i64 ((m : Int) - 1))])
    (Li := fun _ => [(bT, .cells ⟨D TT⟩ 114 (0, 0)), (bX, .cells ⟨D X⟩ 114 (0, 0))]) (μ := fun m => m) (i0 := 12)
  · exact ⟨Nat.le_refl _, hb0⟩
  · exact ⟨rfl, rfl, rfl, trivial⟩
  · (focus ((repeat' (first | exact Keep.nil _ | exact Ext.one _ _ | apply Keep.cons)); done))
  · rintro m ⟨hm, hq⟩
    cases m with
    | zero =>
      repeat' (first | (apply R.is1; first | (apply R.isBin; (apply R.pure; exact rfl; (apply Ok1.geq_f; exact rfl; exact rfl; omega))) | (apply R.pure; exact rfl; first | (apply Ok1.move; exact rfl) | (apply Ok1.assign; exact rfl))) | apply R.nil | (apply T.is; first | apply T.seq | apply T.region | apply T.exit | apply T.ret | (apply T.cond_f; exact rfl)))
      (apply RetOk.t; exact rfl)
      simp only [Nat.pow_zero, Nat.div_one] at hq
      rw [decide_eq_true (Nat.le_of_eq hq)]
    | succ i =>
      obtain ⟨h1, h2, h3⟩ := cmp_step hq
      have gx := hDg X i (by omega) (((i + 1 : Nat) : Int) - 1) (by omega)
      have gt := hDg TT i (by omega) (((i + 1 : Nat) : Int) - 1) (by omega)
      generalize X / 65536 ^ i % 65536 = xi at *
      generalize TT / 65536 ^ i % 65536 = ti at *
      rcases Nat.lt_trichotomy xi ti with hc | hc | hc
      · repeat' (first | (apply R.is1; first | (apply R.isBin; (apply R.pure; exact rfl; (apply Ok1.geq_t; exact rfl; exact rfl; omega))) | (apply R.pure; exact rfl; (apply Ok1.move; exact rfl))) | apply R.nil | (apply T.is; first | (apply T.drawC (id := 11) [0,1] (by decide); ((apply A.take 0; exact rfl; exact rfl; kernel_rfl; kernel_rfl; kernel_rfl; (apply Ok1.move; exact rfl)) <;> (apply A.take 1; exact rfl; exact rfl; kernel_rfl; kernel_rfl; kernel_rfl; (apply Ok1.indexAddrA; (iterate 5 exact rfl); omega; omega)) <;> (apply A.take 2; exact rfl; exact rfl; kernel_rfl; kernel_rfl; kernel_rfl; (apply Ok1.load; exact rfl; apply Ld.own1; exact rfl; exact rfl; (focus ((repeat' (first | exact At.head | apply At.tail)); done)); with_reducible (exact gx))) <;> (apply A.take 3; exact rfl; exact rfl; kernel_rfl; kernel_rfl; kernel_rfl; (apply Ok1.move; exact rfl)) <;> (apply A.take 4; exact rfl; exact rfl; kernel_rfl; kernel_rfl; kernel_rfl; (apply Ok1.indexAddrA; (iterate 5 exact rfl); omega; omega)) <;> (apply A.take 5; exact rfl; exact rfl; kernel_rfl; kernel_rfl; kernel_rfl; (apply Ok1.load; exact rfl; apply Ld.own1; exact rfl; exact rfl; exact At.head; with_reducible (exact gt))) <;> ((apply A.take 6; exact rfl; exact rfl; kernel_rfl; kernel_rfl; kernel_rfl; (apply Ok1.neq_t; exact rfl; exact rfl; omega))) <;> (apply A.done; kernel_rfl))) | (apply T.drawC (id := 12) [0,1] (by decide); ((apply A.take 0; exact rfl; exact rfl; kernel_rfl; kernel_rfl; kernel_rfl; (apply Ok1.move; exact rfl)) <;> (apply A.take 1; exact rfl; exact rfl; kernel_rfl; kernel_rfl; kernel_rfl; (apply Ok1.indexAddrA; (iterate 5 exact rfl); omega; omega)) <;> (apply A.take 2; exact rfl; exact rfl; kernel_rfl; kernel_rfl; kernel_rfl; (apply Ok1.load; exact rfl; apply Ld.own1; exact rfl; exact rfl; (focus ((repeat' (first | exact At.head | apply At.tail)); done)); with_reducible (exact gx))) <;> (apply A.take 3; exact rfl; exact rfl; kernel_rfl; kernel_rfl; kernel_rfl; (apply Ok1.move; exact rfl)) <;> (apply A.take 4; exact rfl; exact rfl; kernel_rfl; kernel_rfl; kernel_rfl; (apply Ok1.indexAddrA; (iterate 5 exact rfl); omega; omega)) <;> (apply A.take 5; exact rfl; exact rfl; kernel_rfl; kernel_rfl; kernel_rfl; (apply Ok1.load; exact rfl; apply Ld.own1; exact rfl; exact rfl; exact At.head; with_reducible (exact gt))) <;> ((apply A.take 6; exact rfl; exact rfl; kernel_rfl; kernel_rfl; kernel_rfl; (apply Ok1.lss_t; exact rfl; exact rfl; omega))) <;> (apply A.take 7; exact rfl; exact rfl; kernel_rfl; kernel_rfl; kernel_rfl; (apply Ok1.assign; exact rfl)) <;> (apply A.done; kernel_rfl))) | apply T.seq | apply T.region | apply T.block | apply T.skip | apply T.ret | (apply T.cond_t; exact rfl)))
        (apply RetOk.t; exact rfl)
        rw [decide_eq_true (h2 hc)]
      · repeat' (first | (apply R.is1; first | (apply R.isBin; (apply R.pure; exact rfl; first | (apply Ok1.sub64; exact rfl; exact rfl; omega; omega) | (apply Ok1.geq_t; exact rfl; exact rfl; omega))) | (apply R.pure; exact rfl; first | (apply Ok1.move; exact rfl) | (apply Ok1.assign; exact rfl))) | apply R.nil | (apply T.is; first | (apply T.drawC (id := 11) [0,1] (by decide); ((apply A.take 0; exact rfl; exact rfl; kernel_rfl; kernel_rfl; kernel_rfl; (apply Ok1.move; exact rfl)) <;> (apply A.take 1; exact rfl; exact rfl; kernel_rfl; kernel_rfl; kernel_rfl; (apply Ok1.indexAddrA; (iterate 5 exact rfl); omega; omega)) <;> (apply A.take 2; exact rfl; exact rfl; kernel_rfl; kernel_rfl; kernel_rfl; (apply Ok1.load; exact rfl; apply Ld.own1; exact rfl; exact rfl; (focus ((repeat' (first | exact At.head | apply At.tail)); done)); with_reducible (exact gx))) <;> (apply A.take 3; exact rfl; exact rfl; kernel_rfl; kernel_rfl; kernel_rfl; (apply Ok1.move; exact rfl)) <;> (apply A.take 4; exact rfl; exact rfl; kernel_rfl; kernel_rfl; kernel_rfl; (apply Ok1.indexAddrA; (iterate 5 exact rfl); omega; omega)) <;> (apply A.take 5; exact rfl; exact rfl; kernel_rfl; kernel_rfl; kernel_rfl; (apply Ok1.load; exact rfl; apply Ld.own1; exact rfl; exact rfl; exact At.head; with_reducible (exact gt))) <;> ((apply A.take 6; exact rfl; exact rfl; kernel_rfl; kernel_rfl; kernel_rfl; (apply Ok1.neq_f; exact rfl; exact rfl; omega))) <;> (apply A.done; kernel_rfl))) | apply T.seq | apply T.region | apply T.block | apply T.skip | (apply T.cond_t; exact rfl) | (apply T.cond_f; exact rfl)))
        refine ⟨i, ⟨by omega, h1 hc⟩, by omega, ⟨rfl, rfl, ?_, trivial⟩, by (focus ((repeat' (first | exact Keep.nil _ | exact Ext.one _ _ | apply Keep.cons)); done))⟩
        exact congrArg (fun z => some (Value.int .i64 z)) (by omega)
      · repeat' (first | (apply R.is1; first | (apply R.isBin; (apply R.pure; exact rfl; (apply Ok1.geq_t; exact rfl; exact rfl; omega))) | (apply R.pure; exact rfl; (apply Ok1.move; exact rfl))) | apply R.nil | (apply T.is; first | (apply T.drawC (id := 11) [0,1] (by decide); ((apply A.take 0; exact rfl; exact rfl; kernel_rfl; kernel_rfl; kernel_rfl; (apply Ok1.move; exact rfl)) <;> (apply A.take 1; exact rfl; exact rfl; kernel_rfl; kernel_rfl; kernel_rfl; (apply Ok1.indexAddrA; (iterate 5 exact rfl); omega; omega)) <;> (apply A.take 2; exact rfl; exact rfl; kernel_rfl; kernel_rfl; kernel_rfl; (apply Ok1.load; exact rfl; apply Ld.own1; exact rfl; exact rfl; (focus ((repeat' (first | exact At.head | apply At.tail)); done)); with_reducible (exact gx))) <;> (apply A.take 3; exact rfl; exact rfl; kernel_rfl; kernel_rfl; kernel_rfl; (apply Ok1.move; exact rfl)) <;> (apply A.take 4; exact rfl; exact rfl; kernel_rfl; kernel_rfl; kernel_rfl; (apply Ok1.indexAddrA; (iterate 5 exact rfl); omega; omega)) <;> (apply A.take 5; exact rfl; exact rfl; kernel_rfl; kernel_rfl; kernel_rfl; (apply Ok1.load; exact rfl; apply Ld.own1; exact rfl; exact rfl; exact At.head; with_reducible (exact gt))) <;> ((apply A.take 6; exact rfl; exact rfl; kernel_rfl; kernel_rfl; kernel_rfl; (apply Ok1.neq_t; exact rfl; exact rfl; omega))) <;> (apply A.done; kernel_rfl))) | (apply T.drawC (id := 12) [0,1] (by decide); ((apply A.take 0; exact rfl; exact rfl; kernel_rfl; kernel_rfl; kernel_rfl; (apply Ok1.move; exact rfl)) <;> (apply A.take 1; exact rfl; exact rfl; kernel_rfl; kernel_rfl; kernel_rfl; (apply Ok1.indexAddrA; (iterate 5 exact rfl); omega; omega)) <;> (apply A.take 2; exact rfl; exact rfl; kernel_rfl; kernel_rfl; kernel_rfl; (apply Ok1.load; exact rfl; apply Ld.own1; exact rfl; exact rfl; (focus ((repeat' (first | exact At.head | apply At.tail)); done)); with_reducible (exact gx))) <;> (apply A.take 3; exact rfl; exact rfl; kernel_rfl; kernel_rfl; kernel_rfl; (apply Ok1.move; exact rfl)) <;> (apply A.take 4; exact rfl; exact rfl; kernel_rfl; kernel_rfl; kernel_rfl; (apply Ok1.indexAddrA; (iterate 5 exact rfl); omega; omega)) <;> (apply A.take 5; exact rfl; exact rfl; kernel_rfl; kernel_rfl; kernel_rfl; (apply Ok1.load; exact rfl; apply Ld.own1; exact rfl; exact rfl; exact At.head; with_reducible (exact gt))) <;> ((apply A.take 6; exact rfl; exact rfl; kernel_rfl; kernel_rfl; kernel_rfl; (apply Ok1.lss_f; exact rfl; exact rfl; omega))) <;> (apply A.take 7; exact rfl; exact rfl; kernel_rfl; kernel_rfl; kernel_rfl; (apply Ok1.assign; exact rfl)) <;> (apply A.done; kernel_rfl))) | apply T.seq | apply T.region | apply T.block | apply T.skip | apply T.ret | (apply T.cond_t; exact rfl)))
        (apply RetOk.t; exact rfl)
        rw [decide_eq_false (h3 hc)]
theorem small_ok (y n p : Nat) (hy : y < 137438953472) (hn : n = 2 ∨ n = 3) (hp : p < 65536) : CallP Tryz.prog 39 [.int .u64 y, .int .u64 n, .int .u64 p] (.bool (decide (y ^ n ≤ p * 65536 ^ (2 * n)))) := by
  rcases hn with rfl | rfl
  · exact small_2 y p (y ^ 2) _ hy hp (Nat.pow_two y) rfl
  · exact small_3 y p (y ^ 3) _ hy hp (by rw [Nat.pow_succ, Nat.pow_two]) rfl
end Go.Proofs.YtligpachgcmkcaaGreat
set_option linter.unusedSimpArgs false
set_option linter.unusedVariables false
namespace Go.Proofs.YtligpachgcmkcaaGreat
open Go.RowKit Go.Shelf
set_option maxRecDepth 100000
def rootI (p n : Nat) : Nat → Nat → Nat
  | 0, x => x
  | k + 1, x => if (x + 2 ^ k) ^ n ≤ p * 65536 ^ (2 * n) then rootI p n k (x + 2 ^ k) else rootI p n k x
def rootR (p n : Nat) : Nat := rootI p n 36 0 % 4294967296
theorem root_ok (p n : Nat) (hn : n = 2 ∨ n = 3) (hp : p < 65536) : CallP Tryz.prog 22 [.int .u64 p, .int .u64 n] (.int .u32 (rootR p n)) := by
  refine enterP (tb := tb) Tryz.func22 rfl Tryz.ntmps22 rfl fun w => ?_
  obtain ⟨V, hV⟩ : ∃ V, V = rootI p n 36 0 := ⟨_, rfl⟩
  have hVr : rootR p n = V % 4294967296 := by rw [hV]; rfl
  rw [hVr]
  repeat' (first | (apply R.is1; (apply R.pure; exact rfl; (apply Ok1.assign; exact rfl))) | apply R.nil | (apply T.is; first | apply T.seq | apply T.region | apply T.block))
  apply T.loopK (α := Nat × Nat) (I := fun x => x.1 ≤ 36 ∧ x.2 + 2 ^ x.1 ≤ 68719476736 ∧ rootI p n x.1 x.2 = V) (σi := fun x => [(0, .int .u64 p), (1, .int .u64 n), (5, .int .u64 x.2), (6, .int .i64 ((x.1 : Int) - 1))]) (Li := fun _ => []) (μ := fun x => x.1) (i0 := (36, 0))
  · exact ⟨by simp only; omega, by simp only; omega, hV.symm⟩
  · exact ⟨rfl, rfl, rfl, rfl, trivial⟩
  · (focus ((repeat' (exact Keep.nil _)); done))
  · rintro ⟨k, x⟩ ⟨hk, hb, hr⟩
    simp only at hk hb hr ⊢
    cases k with
    | zero =>
      have hx : x = V := hr
      subst hx
      rw [Nat.pow_zero] at hb
      repeat' (first | (apply R.is1; first | (apply R.isBin; (apply R.pure; exact rfl; first | (apply Ok1.geq_f; exact rfl; exact rfl; omega) | (apply Ok1.remN; exact rfl; exact rfl; omega; omega))) | (apply R.pure; exact rfl; first | (apply Ok1.convU32; (iterate 5 exact rfl); omega; omega) | (apply Ok1.move; exact rfl) | (apply Ok1.assign; exact rfl))) | apply R.nil | (apply T.is; first | apply T.seq | apply T.region | apply T.exit | apply T.ret | (apply T.cond_f; exact rfl)))
      (apply RetOk.t; exact rfl)
      rw [Int.natCast_emod]
      rfl
    | succ k =>
      have hpw : 2 ^ (k + 1) = 2 * 2 ^ k := by rw [Nat.pow_succ, Nat.mul_comm]
      have hr2 : rootI p n (k + 1) x = if (x + 2 ^ k) ^ n ≤ p * 65536 ^ (2 * n) then rootI p n k (x + 2 ^ k) else rootI p n k x := rfl
      rw [hr] at hr2
      rw [hpw] at hb
      have hpos : 0 < 2 ^ k := Nat.pow_pos (by decide)
      have hsm := small_ok (x + 2 ^ k) n p (by omega) hn hp
      have hkn : (((k + 1 : Nat) : Int) - 1).toNat = k := by omega
      have hk0 : 0 ≤ ((k + 1 : Nat) : Int) - 1 := by omega
      have hk64 : (((k + 1 : Nat) : Int) - 1).toNat ≤ IntKind.u64.bits := by rw [hkn]; show k ≤ 64; omega
      have hpk : pw (((k + 1 : Nat) : Int) - 1).toNat = ((2 ^ k : Nat) : Int) := by rw [hkn, pw_eq, Int.natCast_pow]; rfl
      have hI : ∀ x', x' + 2 * 2 ^ k ≤ 68719476736 + 2 ^ k → x' + 2 ^ k ≤ 68719476736 := fun x' h => by omega
      have hx0 : x + 2 ^ k ≤ 68719476736 := by omega
      have hx1 : x + 2 ^ k + 2 ^ k ≤ 68719476736 := by omega
      have hnxt : ((k + 1 : Nat) : Int) - 1 - 1 = (k : Int) - 1 := by omega
      generalize hq : 2 ^ k = q at *
      have hwr : IntKind.u64.wrap (1 * (q : Int)) = (q : Int) := by rw [Int.one_mul]; exact wrap_u64 (by omega) (by omega)
      have hsum : (x : Int) + (q : Int) = ((x + q : Nat) : Int) := by omega
      rw [← hsum] at hsm
      by_cases hle : (x + q) ^ n ≤ p * 65536 ^ (2 * n)
      · rw [if_pos hle] at hr2
        rw [decide_eq_true hle] at hsm
        repeat' (first | (apply R.is1; first | (apply R.isBin; (apply R.pure; exact rfl; first | (apply Ok1.shlE; exact rfl; exact rfl; exact hk0; exact hk64; exact hpk; exact hwr) | (apply Ok1.addU; exact rfl; exact rfl; omega; omega) | (apply Ok1.sub64; exact rfl; exact rfl; omega; omega) | (apply Ok1.geq_t; exact rfl; exact rfl; omega))) | (apply R.isCall; apply R.callP rfl rfl rfl hsm) | (apply R.pure; exact rfl; first | (apply Ok1.move; exact rfl) | (apply Ok1.assign; exact rfl))) | apply R.nil | (apply T.is; first | apply T.seq | apply T.region | apply T.block | apply T.skip | (apply T.cond_t; exact rfl)))
        exact ⟨(k, x + q), ⟨by simp only; omega, by simp only [hq]; exact hx1, hr2.symm⟩, by simp only; omega, ⟨rfl, rfl, congrArg (fun z => some (Value.int .u64 z)) hsum, congrArg (fun z => some (Value.int .i64 z)) hnxt, trivial⟩, by (focus ((repeat' (exact Keep.nil _)); done))⟩
      · rw [if_neg hle] at hr2
        rw [decide_eq_false hle] at hsm
        repeat' (first | (apply R.is1; first | (apply R.isBin; (apply R.pure; exact rfl; first | (apply Ok1.shlE; exact rfl; exact rfl; exact hk0; exact hk64; exact hpk; exact hwr) | (apply Ok1.addU; exact rfl; exact rfl; omega; omega) | (apply Ok1.sub64; exact rfl; exact rfl; omega; omega) | (apply Ok1.geq_t; exact rfl; exact rfl; omega))) | (apply R.isCall; apply R.callP rfl rfl rfl hsm) | (apply R.pure; exact rfl; first | (apply Ok1.move; exact rfl) | (apply Ok1.assign; exact rfl))) | apply R.nil | (apply T.is; first | apply T.seq | apply T.region | apply T.block | apply T.skip | (apply T.cond_t; exact rfl) | (apply T.cond_f; exact rfl)))
        exact ⟨(k, x), ⟨by simp only; omega, by simp only [hq]; exact hx0, hr2.symm⟩, by simp only; omega, ⟨rfl, rfl, rfl, congrArg (fun z => some (Value.int .i64 z)) hnxt, trivial⟩, by (focus ((repeat' (exact Keep.nil _)); done))⟩
end Go.Proofs.YtligpachgcmkcaaGreat
set_option linter.unusedSimpArgs false
set_option linter.unusedVariables false
namespace Go.Proofs.YtligpachgcmkcaaGreat
open Go.RowKit Go.Shelf
set_option maxRecDepth 100000
def pl (p : Nat) : Nat → Nat → Bool → Bool
  | 0, _, b => b
  | f + 1, q, b => if q * q ≤ p then pl p f (q + 1) (b && !decide (p % q = 0)) else b
def isP (p : Nat) : Bool := pl p 18 2 true
def PL : List Nat := [2, 3, 5, 7, 11, 13, 17, 19, 23, 29, 31, 37, 41, 43, 47, 53, 59, 61, 67, 71, 73, 79, 83, 89, 97, 101, 103, 107, 109, 113, 127, 131, 137, 139, 149, 151, 157, 163, 167, 173, 179, 181, 191, 193, 197, 199, 211, 223, 227, 229, 233, 239, 241, 251, 257, 263, 269, 271, 277, 281, 283, 293, 307, 311]
def Fp (p : Nat) : List Nat := PL.filter fun x => Nat.blt x p
theorem Fp_step : ∀ p, p < 312 → 2 ≤ p → Fp (p + 1) = (if isP p then Fp p ++ [p] else Fp p) ∧ (Fp p).length < 64 := by decide +kernel
theorem Fp_end : Fp 312 = PL := by decide +kernel
theorem roots3 : PL.map (fun p => ((rootR p 3 : Nat) : Int)) = kI := by decide +kernel
theorem roots2 : (PL.take 8).map (fun p => ((rootR p 2 : Nat) : Int)) = h0I.l := by decide +kernel
def zs (n : Nat) : List Value := List.replicate n (.int .u32 0)
def tbC (l : List Nat) : List Value := u32s (l.map fun p => ((rootR p 3 : Nat) : Int)) ++ (zs (64 - l.length) ++ (u32s ((l.take 8).map fun p => ((rootR p 2 : Nat) : Int)) ++ zs (8 - l.length)))
theorem tbC_end : tbC PL = tabV := by
  unfold tbC
  rw [roots3, roots2]
  rfl
theorem put_mid {o : List Value} {n k i : Nat} {x z : Value} {r : List Value} (hl : o.length = n) (hi : i = n) : setE (o ++ (List.replicate (k + 1) z ++ r)) i [x] = some (o ++ [x] ++ (List.replicate k z ++ r)) := by
  subst hl hi
  rw [setE_mid o (by simp; omega)]
  simp [List.replicate_succ]
theorem tb_put {l : List Nat} {p : Nat} (h : l.length < 64) (h8 : ¬ l.length < 8) : setE (tbC l) l.length [.int .u32 ((rootR p 3 : Nat) : Int)] = some (tbC (l ++ [p])) := by
  unfold tbC zs
  obtain ⟨k, hk⟩ : ∃ k, 64 - l.length = k + 1 := ⟨63 - l.length, by omega⟩
  rw [hk, put_mid (by rw [u32s_len, List.length_map]) rfl, List.map_append, u32s_app, List.length_append, List.length_singleton, show 64 - (l.length + 1) = k by omega, List.take_append_of_le_length (by omega), show 8 - (l.length + 1) = 8 - l.length by omega]
  rfl
def tbM (l : List Nat) (p : Nat) : List Value := u32s ((l ++ [p]).map fun p => ((rootR p 3 : Nat) : Int)) ++ (zs (64 - (l.length + 1)) ++ (u32s ((l.take 8).map fun p => ((rootR p 2 : Nat) : Int)) ++ zs (8 - l.length)))
theorem tb_put1 {l : List Nat} {p : Nat} (h : l.length < 8) : setE (tbC l) l.length [.int .u32 ((rootR p 3 : Nat) : Int)] = some (tbM l p) := by
  unfold tbC tbM zs
  obtain ⟨k, hk⟩ : ∃ k, 64 - l.length = k + 1 := ⟨63 - l.length, by omega⟩
  rw [hk, put_mid (by rw [u32s_len, List.length_map]) rfl, List.map_append, u32s_app, show 64 - (l.length + 1) = k by omega]
  rfl
theorem tb_put2 {l : List Nat} {p : Nat} (h : l.length < 8) : setE (tbM l p) (64 + l.length) [.int .u32 ((rootR p 2 : Nat) : Int)] = some (tbC (l ++ [p])) := by
  unfold tbC tbM zs
  obtain ⟨k, hk⟩ : ∃ k, 8 - l.length = k + 1 := ⟨7 - l.length, by omega⟩
  rw [hk, ← List.append_assoc, ← List.append_assoc]
  have h1 := put_mid (k := k) (z := .int .u32 0) (x := .int .u32 ((rootR p 2 : Nat) : Int)) (r := []) (i := 64 + l.length) (n := 64 + l.length) (o := u32s ((l ++ [p]).map fun p => ((rootR p 3 : Nat) : Int)) ++ List.replicate (64 - (l.length + 1)) (.int .u32 0) ++ u32s ((l.take 8).map fun p => ((rootR p 2 : Nat) : Int))) (by
    simp only [List.length_append, u32s_len, List.length_map, List.length_replicate, List.length_take, List.length_singleton]; omega) rfl
  rw [List.append_nil, List.append_nil] at h1
  rw [h1, List.length_append, List.length_singleton, List.take_of_length_le (by omega : l.length ≤ 8), List.take_of_length_le (by rw [List.length_append, List.length_singleton]; omega), List.map_append (f := fun p => ((rootR p 2 : Nat) : Int)), u32s_app (List.map (fun p => ((rootR p 2 : Nat) : Int)) l), show 8 - (l.length + 1) = k by omega]
  simp only [List.append_assoc]
  rfl
theorem tb_len {l : List Nat} (h : l.length ≤ 64) : (tbC l).length = 72 := by
  unfold tbC zs
  simp only [List.length_append, u32s_len, List.length_map, List.length_replicate, List.length_take]; omega
theorem tb_one (l : List Nat) : (tbC l).all Value.oneCell' = true := by
  have hz : ∀ n, (zs n).all Value.oneCell' = true := by intro n; rw [List.all_eq_true]; intro x hx; rw [List.eq_of_mem_replicate hx]; rfl
  unfold tbC
  simp only [List.all_append, u32s_one, hz, Bool.and_true]
theorem vmake_ok : CallP Tryz.prog 5 [] (.agg ⟨tabV⟩) := by
  refine enterP (tb := tb) Tryz.func5 rfl Tryz.ntmps5 rfl fun w => ?_
  repeat' (first | (apply R.is1; first | (apply R.pure; exact rfl; first | (apply Ok1.assign; exact rfl) | (apply Ok1.build; (iterate 5 exact rfl))) | (apply R.alloc; (iterate 3 exact rfl); intro)) | (apply R.is0; (apply R.store; (iterate 6 exact rfl); exact Upd.head; exact rfl)) | apply R.nil | (apply T.is; first | apply T.seq | apply T.region | apply T.block))
  rename_i bR bT
  apply T.loopK (α := Nat) (I := fun p => 2 ≤ p ∧ p ≤ 312) (σi := fun p => [(0, .pointer (some ⟨bR, 0, none⟩)), (1, .pointer (some ⟨bT, 0, none⟩)), (2, .int .i64 ((Fp p).length : Nat)), (3, .int .u64 p)])
    (Li := fun p => [(bT, .cells ⟨tbC (Fp p)⟩ 37 (0, 0)), (bR, .cells ⟨List.replicate 72 (.int .u32 0)⟩ 37 (0, 0))]) (μ := fun p => 312 - p) (i0 := 2)
  · exact ⟨by decide, by decide⟩
  · exact ⟨rfl, rfl, rfl, rfl, trivial⟩
  · (focus ((repeat' (first | exact Keep.nil _ | exact Ext.one _ _ | apply Keep.cons)); done))
  · rintro p ⟨h2, h3⟩
    rcases Nat.lt_or_ge p 312 with hlt | hge
    · obtain ⟨hst, h64⟩ := Fp_step p hlt h2
      have hr3 := root_ok p 3 (.inr rfl) (by omega)
      have hr2 := root_ok p 2 (.inl rfl) (by omega)
      generalize Fp p = l at *
      repeat' (first | (apply R.is1; first | (apply R.isBin; (apply R.pure; exact rfl; (apply Ok1.lss_t; exact rfl; exact rfl; omega))) | (apply R.pure; exact rfl; first | (apply Ok1.move; exact rfl) | (apply Ok1.assign; exact rfl))) | apply R.nil | (apply T.is; first | apply T.seq | apply T.region | apply T.block | apply T.skip | (apply T.cond_t; exact rfl)))
      apply T.loopK (α := Nat × Bool) (I := fun x => 2 ≤ x.1 ∧ x.1 ≤ 20 ∧ pl p (20 - x.1) x.1 x.2 = isP p) (σi := fun x => [(0, .pointer (some ⟨bR, 0, none⟩)), (1, .pointer (some ⟨bT, 0, none⟩)), (2, .int .i64 (l.length : Nat)), (3, .int .u64 p), (4, .bool x.2), (5, .int .u64 x.1)])
        (Li := fun _ => [(bT, .cells ⟨tbC l⟩ 37 (0, 0)), (bR, .cells ⟨List.replicate 72 (.int .u32 0)⟩ 37 (0, 0))]) (μ := fun x => 20 - x.1) (i0 := (2, true))
      · exact ⟨by decide, by decide, rfl⟩
      · exact ⟨rfl, rfl, rfl, rfl, rfl, rfl, trivial⟩
      · (focus ((repeat' (first | exact Keep.nil _ | exact Ext.one _ _ | apply Keep.cons)); done))
      · rintro ⟨q, b⟩ ⟨hq2, hq20, hpl⟩
        simp only at hq2 hq20 hpl ⊢
        have hqq : ((q * q : Nat) : Int) = (q : Int) * (q : Int) := by rw [Int.natCast_mul]
        have hqb : q * q ≤ 20 * 20 := Nat.mul_le_mul hq20 hq20
        have hpq : ((p % q : Nat) : Int) = (p : Int) % (q : Int) := Int.natCast_emod p q
        rcases Nat.lt_or_ge p (q * q) with hgt | hle
        · have hb : b = isP p := by
            rw [← hpl]
            cases hf : 20 - q with
            | zero => rfl
            | succ f => simp only [pl]; rw [if_neg (by omega)]
          rw [← hb] at hst
          cases b with
          | false =>
            repeat' (first | (apply R.is1; first | (apply R.isBin; (apply R.pure; exact rfl; first | (apply Ok1.mulU; exact rfl; exact rfl; omega; omega) | (apply Ok1.addU; exact rfl; exact rfl; omega; omega) | (apply Ok1.leq_f; exact rfl; exact rfl; omega))) | (apply R.pure; exact rfl; first | (apply Ok1.move; exact rfl) | (apply Ok1.assign; exact rfl) | (apply Ok1.not_f; exact rfl))) | apply R.nil | (apply T.is; first | apply T.seq | apply T.region | apply T.exit | (apply T.cond_t; exact rfl) | (apply T.cond_f; exact rfl)))
            refine ⟨p + 1, ⟨by omega, by omega⟩, by omega, ⟨rfl, rfl, ?_, rfl, trivial⟩, ?_⟩
            · rw [hst]; rfl
            · rw [hst]; (focus ((repeat' (first | exact Keep.nil _ | exact Ext.one _ _ | apply Keep.cons)); done))
          | true =>
            have hst2 : Fp (p + 1) = l ++ [p] := hst
            have hn1 : ((l.length : Nat) : Int) + 1 = (((l ++ [p]).length : Nat) : Int) := by simp
            have ho1 : (0 + 0) + ((l.length : Nat) : Int).toNat * 1 = l.length := by omega
            have ho2 : (0 + 64) + ((l.length : Nat) : Int).toNat * 1 = 64 + l.length := by omega
            by_cases h8 : l.length < 8
            · have hp1 := tb_put1 (p := p) h8
              have hp2 := tb_put2 (p := p) h8
              rw [← ho1] at hp1
              rw [← ho2] at hp2
              repeat' (first | (apply R.is1; first | (apply R.isBin; (apply R.pure; exact rfl; first | (apply Ok1.mulU; exact rfl; exact rfl; omega; omega) | (apply Ok1.addU; exact rfl; exact rfl; omega; omega) | (apply Ok1.add64; exact rfl; exact rfl; omega; omega) | (apply Ok1.lss_t; exact rfl; exact rfl; omega) | (apply Ok1.leq_f; exact rfl; exact rfl; omega))) | (apply R.isCall; first | apply R.callP rfl rfl rfl hr3 | apply R.callP rfl rfl rfl hr2) | (apply R.pure; exact rfl; first | (apply Ok1.move; exact rfl) | (apply Ok1.fieldAddr; (iterate 5 exact rfl)) | (apply Ok1.assign; exact rfl) | (apply Ok1.indexAddrA; (iterate 5 exact rfl); omega; omega) | (apply Ok1.not_t; exact rfl))) | (apply R.is0; (apply R.store; (iterate 6 exact rfl); exact Upd.head; first | exact hp1 | exact hp2)) | apply R.nil | (apply T.is; first | apply T.seq | apply T.region | apply T.skip | apply T.exit | (apply T.cond_t; exact rfl) | (apply T.cond_f; exact rfl)))
              refine ⟨p + 1, ⟨by omega, by omega⟩, by omega, ⟨rfl, rfl, ?_, rfl, trivial⟩, ?_⟩
              · rw [hst2]; exact congrArg (fun z => some (Value.int .i64 z)) hn1
              · rw [hst2]; (focus ((repeat' (first | exact Keep.nil _ | exact Ext.one _ _ | apply Keep.cons)); done))
            · have hp1 := tb_put (p := p) h64 h8
              rw [← ho1] at hp1
              repeat' (first | (apply R.is1; first | (apply R.isBin; (apply R.pure; exact rfl; first | (apply Ok1.mulU; exact rfl; exact rfl; omega; omega) | (apply Ok1.addU; exact rfl; exact rfl; omega; omega) | (apply Ok1.add64; exact rfl; exact rfl; omega; omega) | (apply Ok1.lss_f; exact rfl; exact rfl; omega) | (apply Ok1.leq_f; exact rfl; exact rfl; omega))) | (apply R.isCall; apply R.callP rfl rfl rfl hr3) | (apply R.pure; exact rfl; first | (apply Ok1.move; exact rfl) | (apply Ok1.fieldAddr; (iterate 5 exact rfl)) | (apply Ok1.assign; exact rfl) | (apply Ok1.indexAddrA; (iterate 5 exact rfl); omega; omega) | (apply Ok1.not_t; exact rfl))) | (apply R.is0; (apply R.store; (iterate 6 exact rfl); exact Upd.head; exact hp1)) | apply R.nil | (apply T.is; first | apply T.seq | apply T.region | apply T.skip | apply T.exit | (apply T.cond_f; exact rfl)))
              refine ⟨p + 1, ⟨by omega, by omega⟩, by omega, ⟨rfl, rfl, ?_, rfl, trivial⟩, ?_⟩
              · rw [hst2]; exact congrArg (fun z => some (Value.int .i64 z)) hn1
              · rw [hst2]; (focus ((repeat' (first | exact Keep.nil _ | exact Ext.one _ _ | apply Keep.cons)); done))
        · have hq19 : q < 20 := by
            rcases Nat.lt_or_ge q 20 with h | h
            · exact h
            · have : q = 20 := by omega
              subst this; omega
          have hpl2 : pl p (20 - (q + 1)) (q + 1) (b && !decide (p % q = 0)) = isP p := by
            rw [← hpl, show 20 - q = (20 - (q + 1)) + 1 by omega]
            simp only [pl]
            rw [if_pos hle]
          cases b with
          | false =>
            repeat' (first | (apply R.is1; first | (apply R.isBin; (apply R.pure; exact rfl; first | (apply Ok1.mulU; exact rfl; exact rfl; omega; omega) | (apply Ok1.addU; exact rfl; exact rfl; omega; omega) | (apply Ok1.leq_t; exact rfl; exact rfl; omega))) | (apply R.pure; exact rfl; first | (apply Ok1.move; exact rfl) | (apply Ok1.assign; exact rfl) | (apply Ok1.pick_f; exact rfl; exact rfl))) | (apply R.isG; (apply R.guard_not; (iterate 3 exact rfl))) | apply R.nil | (apply T.is; first | apply T.seq | apply T.region | apply T.block | apply T.skip | (apply T.cond_t; exact rfl)))
            exact ⟨(q + 1, false), ⟨by simp only; omega, by simp only; omega, hpl2⟩, by simp only; omega, ⟨rfl, rfl, rfl, rfl, rfl, rfl, trivial⟩, by (focus ((repeat' (first | exact Keep.nil _ | exact Ext.one _ _ | apply Keep.cons)); done))⟩
          | true =>
            by_cases hz : p % q = 0
            · rw [decide_eq_true hz] at hpl2
              have hz2 : (p : Int) % (q : Int) = 0 := by omega
              repeat' (first | (apply R.is1; first | (apply R.isBin; (apply R.pure; exact rfl; first | (apply Ok1.mulU; exact rfl; exact rfl; omega; omega) | (apply Ok1.addU; exact rfl; exact rfl; omega; omega) | (apply Ok1.leq_t; exact rfl; exact rfl; omega) | (apply Ok1.neq_f; exact rfl; exact rfl; omega) | (apply Ok1.remN; exact rfl; exact rfl; omega; omega))) | (apply R.pure; exact rfl; first | (apply Ok1.move; exact rfl) | (apply Ok1.assign; exact rfl) | (apply Ok1.pick_t; exact rfl; exact rfl))) | (apply R.isG; (apply R.guard_run; exact rfl; exact rfl)) | apply R.nil | (apply T.is; first | apply T.seq | apply T.region | apply T.block | apply T.skip | (apply T.cond_t; exact rfl)))
              exact ⟨(q + 1, false), ⟨by simp only; omega, by simp only; omega, hpl2⟩, by simp only; omega, ⟨rfl, rfl, rfl, rfl, rfl, rfl, trivial⟩, by (focus ((repeat' (first | exact Keep.nil _ | exact Ext.one _ _ | apply Keep.cons)); done))⟩
            · rw [decide_eq_false hz] at hpl2
              have hz2 : (p : Int) % (q : Int) ≠ 0 := by omega
              repeat' (first | (apply R.is1; first | (apply R.isBin; (apply R.pure; exact rfl; first | (apply Ok1.mulU; exact rfl; exact rfl; omega; omega) | (apply Ok1.addU; exact rfl; exact rfl; omega; omega) | (apply Ok1.leq_t; exact rfl; exact rfl; omega) | (apply Ok1.neq_t; exact rfl; exact rfl; omega) | (apply Ok1.remN; exact rfl; exact rfl; omega; omega))) | (apply R.pure; exact rfl; first | (apply Ok1.move; exact rfl) | (apply Ok1.assign; exact rfl) | (apply Ok1.pick_t; exact rfl; exact rfl))) | (apply R.isG; (apply R.guard_run; exact rfl; exact rfl)) | apply R.nil | (apply T.is; first | apply T.seq | apply T.region | apply T.block | apply T.skip | (apply T.cond_t; exact rfl)))
              exact ⟨(q + 1, true), ⟨by simp only; omega, by simp only; omega, hpl2⟩, by simp only; omega, ⟨rfl, rfl, rfl, rfl, rfl, rfl, trivial⟩, by (focus ((repeat' (first | exact Keep.nil _ | exact Ext.one _ _ | apply Keep.cons)); done))⟩
    · have he : p = 312 := by omega
      subst he
      have hl : (tbC PL).length = 72 := tb_len (by decide)
      have ho := tb_one PL
      have h64 : (Fp 312).length = 64 := by rw [Fp_end]; rfl
      rw [h64, Fp_end]
      have hend := tbC_end
      generalize tbC PL = tv at *
      repeat' (first | (apply R.is1; first | (apply R.isBin; (apply R.pure; exact rfl; (apply Ok1.lss_f; exact rfl; exact rfl; omega))) | (apply R.pure; exact rfl; first | (apply Ok1.load; exact rfl; apply Ld.ownk; exact rfl; exact rfl; exact At.head; exact subE_all hl) | (apply Ok1.move; exact rfl))) | (apply R.is0; (apply R.store; (iterate 4 exact rfl); exact hl; exact ho; (focus ((repeat' (first | exact Upd.head | apply Upd.tail)); done)); exact setE_all hl)) | apply R.nil | (apply T.is; first | apply T.seq | apply T.region | apply T.exit | apply T.ret | (apply T.cond_f; exact rfl)))
      apply RetOk.c
      exact rfl
      apply Ld.ownk
      exact rfl
      exact rfl
      (focus ((repeat' (first | exact At.head | apply At.tail)); done))
      exact subE_all hl
      rw [hend]
end Go.Proofs.YtligpachgcmkcaaGreat
set_option linter.unusedSimpArgs false
set_option linter.unusedVariables false
namespace Go.Proofs.YtligpachgcmkcaaGreat
open Go.RowKit Go.Shelf
set_option maxRecDepth 100000
theorem dgx {vs p8 : List Int} (hv : vs.length = 4) (hp : p8.length = 8) : ∃ a b c d e f g h i j k l, vs = [a, b, c, d] ∧ p8 = [e, f, g, h, i, j, k, l] := by
  match vs, hv, p8, hp with
  | [a, b, c, d], _, [e, f, g, h, i, j, k, l], _ => exact ⟨a, b, c, d, e, f, g, h, i, j, k, l, rfl, rfl⟩
theorem to9_ok (vs p8 : List Int) (hv : vs.length = 4) (hp : p8.length = 8) : CallP Tryz.prog 10 [.agg ⟨dgV vs p8⟩] (.agg ⟨dgV vs p8⟩) := by
  obtain ⟨a, b, c, d, e, f, g, h, i, j, k, l, rfl, rfl⟩ := dgx hv hp
  have e : dgV [a, b, c, d] [e, f, g, h, i, j, k, l] = [.int .i64 a, .int .i64 b, .int .i64 c, .int .i64 d, .int .u8 e, .int .u8 f, .int .u8 g, .int .u8 h, .int .u8 i, .int .u8 j, .int .u8 k, .int .u8 l] := rfl
  rw [e]
  refine enterP (tb := tb) Tryz.func10 rfl Tryz.ntmps10 rfl fun w => ?_
  repeat' (first | (apply R.is1; first | (apply R.pure; exact rfl; first | (apply Ok1.fieldAddr; (iterate 5 exact rfl)) | (apply Ok1.load; exact rfl; (apply Ld.ownk; exact rfl; exact rfl; (focus ((repeat' (first | exact At.head | apply At.tail)); done)); exact rfl)) | (apply Ok1.build; (iterate 5 exact rfl))) | (apply R.box; (iterate 3 exact rfl); intro) | (apply R.alloc; (iterate 3 exact rfl); intro)) | (apply R.is0; (apply R.store; (iterate 6 exact rfl); exact Upd.head; exact rfl)) | apply R.nil | (apply T.is; first | apply T.seq | apply T.region | apply T.ret))
  all_goals (apply RetOk.c; exact rfl; ((apply Ld.ownk; exact rfl; exact rfl; exact At.head; exact rfl)))
  all_goals rfl
theorem of9_ok (vs p8 : List Int) (hv : vs.length = 4) (hp : p8.length = 8) : CallP Tryz.prog 7 [.agg ⟨dgV vs p8⟩] (.agg ⟨dgV vs p8⟩) := by
  obtain ⟨a, b, c, d, e, f, g, h, i, j, k, l, rfl, rfl⟩ := dgx hv hp
  have e : dgV [a, b, c, d] [e, f, g, h, i, j, k, l] = [.int .i64 a, .int .i64 b, .int .i64 c, .int .i64 d, .int .u8 e, .int .u8 f, .int .u8 g, .int .u8 h, .int .u8 i, .int .u8 j, .int .u8 k, .int .u8 l] := rfl
  rw [e]
  refine enterP (tb := tb) Tryz.func7 rfl Tryz.ntmps7 rfl fun w => ?_
  repeat' (first | (apply R.is1; first | (apply R.pure; exact rfl; first | (apply Ok1.fieldAddr; (iterate 5 exact rfl)) | (apply Ok1.load; exact rfl; (apply Ld.ownk; exact rfl; exact rfl; (focus ((repeat' (first | exact At.head | apply At.tail)); done)); exact rfl)) | (apply Ok1.build; (iterate 5 exact rfl))) | (apply R.box; (iterate 3 exact rfl); intro) | (apply R.alloc; (iterate 3 exact rfl); intro)) | (apply R.is0; (apply R.store; (iterate 6 exact rfl); exact Upd.head; exact rfl)) | apply R.nil | (apply T.is; first | apply T.seq | apply T.region | apply T.ret))
  all_goals (apply RetOk.c; exact rfl; ((apply Ld.ownk; exact rfl; exact rfl; exact At.head; exact rfl)))
  all_goals rfl
/-- A digest of which the first so many numbers are there. -/
def dgQ (vs ps : List Int) : List Value := iis (vs ++ List.replicate (4 - vs.length) 0) ++ u8s (ps ++ List.replicate (8 - ps.length) 0)
theorem dgQ0 : dgQ [] [] = dgV [0, 0, 0, 0] [0, 0, 0, 0, 0, 0, 0, 0] := rfl
theorem dgQ_all {vs ps : List Int} (hv : vs.length = 4) (hp : ps.length = 8) : dgQ vs ps = dgV vs ps := by simp [dgQ, dgV, hv, hp]
theorem dgQ_v {vs ps : List Int} {i : Nat} (hv : vs.length = i) (hi : i < 4) (x : Int) : setE (dgQ vs ps) (0 + i * 1) [.int .i64 x] = some (dgQ (vs ++ [x]) ps) := by
  have e : ∀ z : Int, dgQ (vs ++ [z]) ps = iis vs ++ ([.int .i64 z] ++ (iis (List.replicate (3 - i) 0) ++ u8s (ps ++ List.replicate (8 - ps.length) 0))) := fun z => by
    simp only [dgQ, List.length_append, List.length_singleton, hv, iis_app, show 4 - (i + 1) = 3 - i by omega]
    simp [iis]
  have e0 : dgQ vs ps = dgQ (vs ++ [0]) ps := by
    simp only [dgQ, List.length_append, List.length_singleton, hv, show 4 - i = (3 - i) + 1 by omega, show 4 - (i + 1) = 3 - i by omega, List.replicate_succ]
    simp
  have hl : (iis vs).length = 0 + i * 1 := by rw [iis_len, hv]; omega
  rw [e0, e 0, e x, ← hl, setE_mid _ (by simp)]
  simp
theorem dgQ_p {vs ps : List Int} {i : Nat} (hv : vs.length = 4) (hp : ps.length = i) (hi : i < 8) (x : Int) : setE (dgQ vs ps) (4 + i * 1) [.int .u8 x] = some (dgQ vs (ps ++ [x])) := by
  have e : ∀ z : Int, dgQ vs (ps ++ [z]) = (iis vs ++ u8s ps) ++ ([.int .u8 z] ++ u8s (List.replicate (7 - i) 0)) := fun z => by
    simp only [dgQ, List.length_append, List.length_singleton, hp, hv, show 8 - (i + 1) = 7 - i by omega]
    simp [iis, u8s]
  have e0 : dgQ vs ps = dgQ vs (ps ++ [0]) := by
    simp only [dgQ, List.length_append, List.length_singleton, hp, show 8 - i = (7 - i) + 1 by omega, show 8 - (i + 1) = 7 - i by omega, List.replicate_succ]
    simp
  have hl : (iis vs ++ u8s ps).length = 4 + i * 1 := by rw [List.length_append, iis_len, u8s_len, hv, hp]; omega
  rw [e0, e 0, e x, ← hl, setE_mid _ (by simp)]
  simp
theorem dof9_ok (bm : Nat) (ms : List Lg) (hm : GOk ms) (hlo : LOk (lgs ms)) (w : World) (hs : DSR w bm ms) : CallW Tryz.prog 8 [.agg ⟨tabV⟩, .pointer (some ⟨bm, 0, none⟩)] w fun v _ => v = .agg ⟨dgV ((lgs ms).map fun x => (x.length : Int)) ((shaI (prI (lgs ms))).take 8)⟩ := by
  have hpr := fun w1 (hc : Chg [] w w1) => dprint_ok bm ms hm hlo w1 ⟨hc.heap hs.b List.not_mem_nil, fun g h => (hs.rd g h).chg' hc (fun _ => Off.nil _)⟩
  have hsl := sha_len (prI (lgs ms))
  have hb := hs.b
  have htl : tabV.length = 72 := rfl
  have hll : ((lgs ms).map fun x => (x.length : Int)).length = 4 := by rw [List.length_map, lgs, List.length_map, hm.len]
  have hget : ∀ (i : Nat) (g : Lg), ms[i]? = some g → ((lgs ms).map fun x => (x.length : Int))[i]? = some (g.xs.length : Int) := fun i g h => by rw [lgs, List.getElem?_map, List.getElem?_map, h]; rfl
  have hset := fun i g h => setV_at hm (i := i) (g := g) h
  have hml := hm.len
  generalize (lgs ms).map (fun x => (x.length : Int)) = us at *
  generalize shaI (prI (lgs ms)) = P at *
  generalize setV ms = SV at *
  have hpl : (u8s P).length = 32 := by rw [u8s_len, hsl]
  have hpo := u8s_one P
  refine enterW (tb := tb) Tryz.func8 rfl Tryz.ntmps8 rfl ?_
  repeat' (first | (apply R.is1; first | (apply R.isCall; (apply R.callV (vs := [.pointer (some ⟨bm, 0, none⟩), .agg ⟨tabV⟩]); (iterate 3 exact rfl); intro w1 hw1; exact hpr w1 hw1.chg)) | (apply R.pure; exact rfl; first | (apply Ok1.load; exact rfl; (apply Ld.ownk; exact rfl; exact rfl; (focus ((repeat' (first | exact At.head | apply At.tail)); done)); exact subE_all htl)) | (apply Ok1.move; exact rfl) | (apply Ok1.assign; exact rfl) | (apply Ok1.build; (iterate 5 exact rfl))) | (apply R.box; (iterate 3 exact rfl); intro) | (apply R.alloc; (iterate 3 exact rfl); intro)) | (apply R.is0; first | (apply R.store; (iterate 4 exact rfl); exact hpl; exact hpo; exact Upd.head; exact setE_all (by rw [hpl]; rfl)) | (apply R.store; (iterate 6 exact rfl); exact Upd.head; exact rfl)) | apply R.nil | (apply T.is; first | apply T.seq | apply T.region | apply T.block))
  rename_i b2 b4 b5 b6
  apply T.loopK (α := Nat) (I := fun i => i ≤ 4) (σi := fun i => [(1, .pointer (some ⟨bm, 0, none⟩)), (4, .pointer (some ⟨b4, 0, none⟩)), (5, .pointer (some ⟨b5, 0, none⟩)), (6, .pointer (some ⟨b6, 0, none⟩)), (7, .int .i64 i)])
    (Li := fun i => [(b4, .cells ⟨dgV [0, 0, 0, 0] [0, 0, 0, 0, 0, 0, 0, 0]⟩ 27 (0, 0)), (b5, .cells ⟨dgQ (us.take i) []⟩ 27 (0, 0)), (b6, .cells ⟨u8s P⟩ 67 (0, 0))]) (μ := fun i => 4 - i) (i0 := 0)
  · exact Nat.zero_le _
  · exact ⟨rfl, rfl, rfl, rfl, rfl, trivial⟩
  · simp only [List.take_zero, dgQ0]
    (focus ((repeat' (first | exact Keep.nil _ | exact Ext.one _ _ | apply Keep.cons | apply Ext.cons)); done))
  · intro i hi
    rcases Nat.lt_or_ge i 4 with hlt | hge
    · obtain ⟨g, hgi⟩ : ∃ g, ms[i]? = some g := ⟨_, List.getElem?_eq_getElem (by omega)⟩
      have hcell := hset i g hgi
      have hui := hget i g hgi
      have hst := dgQ_v (ps := []) (show (us.take i).length = i by rw [List.length_take]; omega) hlt (g.xs.length : Int)
      have htk : us.take (i + 1) = us.take i ++ [(g.xs.length : Int)] := by rw [List.take_add_one, hui]; rfl
      repeat' (first | (apply R.is1; first | (apply R.isBin; (apply R.pure; exact rfl; first | (apply Ok1.add64; exact rfl; exact rfl; omega; omega) | (apply Ok1.lss_t; exact rfl; exact rfl; omega))) | (apply R.isCall; (apply R.pure; exact rfl; (apply Ok1.lenS; (iterate 3 exact rfl)))) | (apply R.pure; exact rfl; first | (apply Ok1.load; exact rfl; (apply Ld.blk1; exact rfl; exact rfl; exact hb; exact List.not_mem_nil; exact hcell)) | (apply Ok1.move; exact rfl) | (apply Ok1.fieldAddr; (iterate 5 exact rfl)) | (apply Ok1.assign; exact rfl) | (apply Ok1.indexAddrA; (iterate 5 exact rfl); omega; omega) | (apply Ok1.nilCheck; exact rfl))) | (apply R.is0; (apply R.store; (iterate 6 exact rfl); (focus ((repeat' (first | exact Upd.head | apply Upd.tail)); done)); exact hst)) | apply R.nil | (apply T.is; first | apply T.seq | apply T.region | apply T.block | apply T.skip | (apply T.cond_t; exact rfl)))
      exact ⟨i + 1, by omega, by omega, ⟨rfl, rfl, rfl, rfl, rfl, trivial⟩, by simp only [htk]; (focus ((repeat' (first | exact Keep.nil _ | exact Ext.one _ _ | apply Keep.cons)); done))⟩
    · have hi4 : i = 4 := by omega
      subst hi4
      rw [show us.take 4 = us from List.take_of_length_le (by omega)]
      repeat' (first | (apply R.is1; first | (apply R.isBin; (apply R.pure; exact rfl; (apply Ok1.lss_f; exact rfl; exact rfl; omega))) | (apply R.pure; exact rfl; first | (apply Ok1.move; exact rfl) | (apply Ok1.assign; exact rfl))) | apply R.nil | (apply T.is; first | apply T.seq | apply T.region | apply T.block | apply T.exit | (apply T.cond_f; exact rfl)))
      apply T.loopK (α := Nat) (I := fun i => i ≤ 8) (σi := fun i => [(4, .pointer (some ⟨b4, 0, none⟩)), (5, .pointer (some ⟨b5, 0, none⟩)), (6, .pointer (some ⟨b6, 0, none⟩)), (8, .int .i64 i)])
        (Li := fun i => [(b4, .cells ⟨dgV [0, 0, 0, 0] [0, 0, 0, 0, 0, 0, 0, 0]⟩ 27 (0, 0)), (b5, .cells ⟨dgQ us (P.take i)⟩ 27 (0, 0)), (b6, .cells ⟨u8s P⟩ 67 (0, 0))]) (μ := fun i => 8 - i) (i0 := 0)
      · exact Nat.zero_le _
      · exact ⟨rfl, rfl, rfl, rfl, trivial⟩
      · (focus ((repeat' (first | exact Keep.nil _ | exact Ext.one _ _ | apply Keep.cons)); done))
      · intro i hi
        rcases Nat.lt_or_ge i 8 with hlt | hge
        · obtain ⟨x, hx⟩ : ∃ x, P[i]? = some x := ⟨_, List.getElem?_eq_getElem (by omega)⟩
          have hpc : (u8s P)[0 + i * 1]? = some (.int .u8 x) := by rw [Nat.zero_add, Nat.mul_one, u8s, List.getElem?_map, hx]; rfl
          have hst := dgQ_p hll (show (P.take i).length = i by rw [List.length_take]; omega) hlt x
          have htk : P.take (i + 1) = P.take i ++ [x] := by rw [List.take_add_one, hx]; rfl
          repeat' (first | (apply R.is1; first | (apply R.isBin; (apply R.pure; exact rfl; first | (apply Ok1.add64; exact rfl; exact rfl; omega; omega) | (apply Ok1.lss_t; exact rfl; exact rfl; omega))) | (apply R.pure; exact rfl; first | (apply Ok1.load; exact rfl; (apply Ld.own1; exact rfl; exact rfl; (focus ((repeat' (first | exact At.head | apply At.tail)); done)); exact hpc)) | (apply Ok1.move; exact rfl) | (apply Ok1.fieldAddr; (iterate 5 exact rfl)) | (apply Ok1.assign; exact rfl) | (apply Ok1.indexAddrA; (iterate 5 exact rfl); omega; omega))) | (apply R.is0; (apply R.store; (iterate 6 exact rfl); (focus ((repeat' (first | exact Upd.head | apply Upd.tail)); done)); exact hst)) | apply R.nil | (apply T.is; first | apply T.seq | apply T.region | apply T.block | apply T.skip | (apply T.cond_t; exact rfl)))
          exact ⟨i + 1, by omega, by omega, ⟨rfl, rfl, rfl, rfl, trivial⟩, by simp only [htk]; (focus ((repeat' (first | exact Keep.nil _ | exact Ext.one _ _ | apply Keep.cons)); done))⟩
        · have hi8 : i = 8 := by omega
          subst hi8
          have h8 : (P.take 8).length = 8 := by rw [List.length_take, hsl]; rfl
          rw [dgQ_all hll h8]
          have hdl := dg_len hll h8
          have hdo := dg_one us (P.take 8)
          repeat' (first | (apply R.is1; first | (apply R.isBin; (apply R.pure; exact rfl; (apply Ok1.lss_f; exact rfl; exact rfl; omega))) | (apply R.pure; exact rfl; first | (apply Ok1.load; exact rfl; (apply Ld.ownk; exact rfl; exact rfl; (focus ((repeat' (first | exact At.head | apply At.tail)); done)); exact subE_all hdl)) | (apply Ok1.move; exact rfl))) | (apply R.is0; (apply R.store; (iterate 4 exact rfl); exact hdl; exact hdo; exact Upd.head; exact setE_all (by rw [hdl]; rfl))) | apply R.nil | (apply T.is; first | apply T.seq | apply T.region | apply T.exit | apply T.ret | (apply T.cond_f; exact rfl)))
          (apply RetOk.c; exact rfl; (apply Ld.ownk; exact rfl; exact rfl; exact At.head; exact subE_all hdl))
          rfl
/-- A digest's bytes. -/
def encG (vs p8 : List Int) : List Int := numsI 1 vs ++ p8
theorem encG_len {vs p8 : List Int} (hv : vs.length = 4) (hp : p8.length = 8) : (encG vs p8).length = 16 := by rw [encG, List.length_append, nums1_len, hv, hp]
theorem vr_fits {vs : List Int} (h : VR vs) : ∀ x ∈ vs, Fits 1 x := fun x hx => by have := h x hx; exact ⟨this.1, .inr (.inl ⟨rfl, by omega⟩)⟩
theorem by_fits {ps : List Int} (h : Byt ps) : ∀ x ∈ ps, Fits 0 x := fun x hx => by have := h x hx; exact ⟨by omega, .inl ⟨rfl, by omega⟩⟩
theorem num0 {x : Int} (h0 : 0 ≤ x) (h1 : x ≤ 255) : numI 0 x = [x] := by show [x % 256] = [x]; congr 1; omega
theorem dbad_ok (vs p8 : List Int) (hv : vs.length = 4) (hp : p8.length = 8) (hV : ¬ VR vs) : CallP Tryz.prog 11 [.agg ⟨dgV vs p8⟩] (.tuple #[.slice none 0 0, .int .i64 10]) := by
  have hr := vright_ok vs hv
  rw [decide_eq_false hV] at hr
  have hs4 : subE (dgV vs p8) 0 4 = some (iis vs) := subE_app _ _ (by rw [iis_len, hv])
  generalize dgV vs p8 = D at *
  refine enterP (tb := tb) Tryz.func11 rfl Tryz.ntmps11 rfl fun w => ?_
  repeat' (first | (apply R.is1; first | (apply R.isCall; apply R.callP rfl rfl rfl hr) | (apply R.pure; exact rfl; first | (apply Ok1.load; exact rfl; (apply Ld.ownk; exact rfl; exact rfl; exact At.head; exact hs4)) | (apply Ok1.fieldAddr; (iterate 5 exact rfl)) | (apply Ok1.assign; exact rfl) | (apply Ok1.not_f; exact rfl)) | (apply R.box; (iterate 3 exact rfl); intro)) | apply R.nil | (apply T.is; first | apply T.seq | apply T.region | apply T.ret | (apply T.cond_t; exact rfl)))
  (apply RetOk.tt; exact rfl; exact rfl)
  rfl
theorem dbytes9_ok (vs p8 : List Int) (hv : vs.length = 4) (hp : p8.length = 8) (hV : VR vs) (hb : Byt p8) (w : World) :
    CallM Tryz.prog 11 [.agg ⟨dgV vs p8⟩] [] w fun v L => ∃ ov, OvOk 1 ov (encG vs p8).length (u8s (encG vs p8)) ∧ v = .tuple #[slV ov (encG vs p8).length, .int .i64 0] ∧ L = blkL 5 ov (u8s (encG vs p8)) := by
  have hr := vright_ok vs hv
  rw [decide_eq_true hV] at hr
  have hs4 : subE (dgV vs p8) 0 4 = some (iis vs) := subE_app _ _ (by rw [iis_len, hv])
  have hs8 : subE (dgV vs p8) 4 8 = some (u8s p8) := sub_tail (by rw [iis_len, hv]) (by rw [u8s_len, hp])
  have hn1 := fun bw p w1 h1 h2 => numbers_ok bw none [] (OvOk.start 1) 1 p 4 4 vs hv.symm (vr_fits hV) (by rw [hv]; decide) w1 h1 h2
  have hdr : dgV vs p8 = fl iV vs ++ u8s p8 := by rw [fl_i]; rfl
  refine enterK (tb := tb) Tryz.func11 rfl Tryz.ntmps11 rfl ?_
  repeat' (first | (apply R.is1; first | (apply R.isCall; first | apply R.callP rfl rfl rfl hr | (apply R.callE (Li := WL _ none []) (vs := [.pointer (some ⟨_, 0, none⟩), .int .i64 1, .slice (some ⟨_, 0, none⟩) 4 4]); (iterate 3 exact rfl); (focus ((repeat' (exact Ext.one _ _)); done)); intro w1 hw1; exact hn1 _ _ w1 (RdSl.of hw1 (by (focus ((repeat' (first | exact At.head | apply At.tail)); done))) hdr) (fun _ => Off.of hw1 (by (focus ((repeat' (exact Ext.one _ _)); done))) (by exact At.head)); rintro v Lo ⟨ov1, rfl, hov1, rfl⟩)) | (apply R.pure; exact rfl; first | (apply Ok1.load; exact rfl; first | (apply Ld.ownk; exact rfl; exact rfl; (focus ((repeat' (first | exact At.head | apply At.tail | apply At.right)); done)); exact hs4) | (apply Ld.ownk; exact rfl; exact rfl; (focus ((repeat' (first | exact At.head | apply At.tail | apply At.right)); done)); exact hs8)) | (apply Ok1.sliceArr; (iterate 4 exact rfl)) | (apply Ok1.move; exact rfl) | (apply Ok1.fieldAddr; (iterate 5 exact rfl)) | (apply Ok1.assign; exact rfl) | (apply Ok1.not_t; exact rfl)) | (apply R.box; (iterate 3 exact rfl); intro) | (apply R.alloc; (iterate 3 exact rfl); intro)) | apply R.nil | (apply T.is; first | apply T.seq | apply T.region | apply T.block | apply T.skip | (apply T.cond_f; exact rfl)))
  rename_i b1 bw
  rw [List.nil_append] at hov1
  rw [List.nil_append]
  apply T.loopK (α := Nat × Ov) (I := fun y => y.1 ≤ 8 ∧ OvOk 1 y.2 (numsI 1 vs ++ p8.take y.1).length (u8s (numsI 1 vs ++ p8.take y.1))) (σi := fun y => [(4, .pointer (some ⟨bw, 0, none⟩)), (15, .agg ⟨u8s p8⟩), (16, .int .i64 y.1)]) (Li := fun y => WL bw y.2 (numsI 1 vs ++ p8.take y.1)) (μ := fun y => 8 - y.1) (i0 := (0, ov1))
  · refine ⟨Nat.zero_le _, ?_⟩
    simp only [List.take_zero, List.append_nil]
    exact hov1
  · exact ⟨rfl, rfl, rfl, trivial⟩
  · simp only [List.take_zero, List.append_nil]
    (focus ((repeat' (first | exact Ext.one _ _ | exact Ext.here _ _ | apply Keep.cons | apply Keep.last)); done))
  · rintro ⟨i, ov⟩ ⟨hi, hov⟩
    simp only at hi hov ⊢
    rcases Nat.lt_or_ge i 8 with hlt | hge
    · obtain ⟨x, hx⟩ : ∃ x, p8[i]? = some x := ⟨_, List.getElem?_eq_getElem (by omega)⟩
      have hxf := by_fits hb x (List.mem_of_getElem? hx)
      have hxb := hb x (List.mem_of_getElem? hx)
      have hpc : (u8s p8)[i * 1]? = some (.int .u8 x) := by rw [Nat.mul_one, u8s, List.getElem?_map, hx]; rfl
      have hnl := nums1_len vs
      have htl : (p8.take i).length = i := by rw [List.length_take]; omega
      have hn := fun bl fz e w1 => number1_ok bw ov (numsI 1 vs ++ p8.take i) hov 0 x hxf (by rw [List.length_append]; omega) bl fz e w1
      have htk : numsI 1 vs ++ p8.take (i + 1) = numsI 1 vs ++ p8.take i ++ numI 0 x := by rw [List.take_add_one, hx, num0 (by omega) (by omega), List.append_assoc]; rfl
      unfold WRes at hn
      rw [← htk] at hn
      repeat' (first | (apply R.is1; first | (apply R.isBin; (apply R.pure; exact rfl; first | (apply Ok1.add64; exact rfl; exact rfl; omega; omega) | (apply Ok1.lss_t; exact rfl; exact rfl; omega))) | (apply R.isCall; (apply R.callE (Li := WL bw ov (numsI 1 vs ++ p8.take i)) (vs := [.pointer (some ⟨bw, 0, none⟩), .int .i64 0, .slice (some ⟨_, 0, none⟩) 1 1]); (iterate 3 exact rfl); (focus ((repeat' (first | exact Ext.all _ | apply Ext.cons)); done)); intro w1 hw1; exact hn _ _ _ w1 (hw1.get _ _ (At.mem (by exact At.head))) (RdSl.off hw1 (by (focus ((repeat' (first | exact Ext.all _ | apply Ext.cons)); done))) (At.mem (by exact At.head))); rintro v Lo ⟨ov2, rfl, hov2, rfl⟩)) | (apply R.pure; exact rfl; first | (apply Ok1.index1; (iterate 6 exact rfl); omega; omega; exact hpc) | (apply Ok1.move; exact rfl) | (apply Ok1.assign; exact rfl) | (apply Ok1.convI64; (iterate 5 exact rfl); omega; omega)) | (apply R.buildSlice; (iterate 12 exact rfl); intro)) | apply R.nil | (apply T.is; first | apply T.seq | apply T.region | apply T.block | apply T.skip | (apply T.cond_t; exact rfl)))
      exact ⟨(i + 1, ov2), ⟨by simp only; omega, hov2⟩, by simp only; omega, ⟨rfl, rfl, rfl, trivial⟩, by (focus ((repeat' (first | exact Ext.one _ _ | exact Ext.here _ _ | apply Keep.cons | apply Keep.last)); done))⟩
    · have hi8 : i = 8 := by omega
      subst hi8
      rw [show p8.take 8 = p8 from List.take_of_length_le (by omega)] at hov ⊢
      have hle := encG_len hv hp
      unfold encG at hle ⊢
      have hwo := fun w1 h1 h2 => wout_ok bw ov (numsI 1 vs ++ p8) hov (by omega) w1 h1 h2
      generalize numsI 1 vs ++ p8 = B at *
      simp only [WL]
      repeat' (first | (apply R.is1; first | (apply R.isBin; (apply R.pure; exact rfl; (apply Ok1.lss_f; exact rfl; exact rfl; omega))) | (apply R.isCall; (apply R.callE (vs := [.pointer (some ⟨bw, 0, none⟩)]); (iterate 3 exact rfl); exact Ext.none _; intro w1 hw1; exact hwo w1 (hw1.get _ _ (At.mem (by exact At.head))) (rdown hov hw1 (Ext.mem (by (focus ((repeat' (first | exact Ext.all _ | apply Ext.cons)); done))))); rintro v Lo ⟨ov2, hov2, rfl, rfl⟩)) | (apply R.pure; exact rfl; first | (apply Ok1.assign; exact rfl) | (apply Ok1.extract; exact rfl; exact rfl))) | apply R.nil | (apply T.is; first | apply T.seq | apply T.region | apply T.exit | apply T.ret | (apply T.cond_f; exact rfl)))
      (apply RetOk.tt; exact rfl; exact rfl)
      exact ⟨_, by (focus ((repeat' (first | exact Ext.here _ _ | apply Keep.last)); done)), ov2, hov2, rfl, rfl⟩
end Go.Proofs.YtligpachgcmkcaaGreat
set_option linter.unusedSimpArgs false
set_option linter.unusedVariables false
namespace Go.Proofs.YtligpachgcmkcaaGreat
open Go.RowKit Go.Shelf
set_option maxRecDepth 100000
theorem RdSl.ofOff {α : Type} {v : α → List Value} {rs : List α} {w0 w : World} {S : List Nat} {L : Lst} {b o : Nat} {e : TypeId} {fz : Nat × Nat} {cs pre junk : List Value} (hw : Hp w0 S L w) (hat : At L b (.cells ⟨cs⟩ e fz)) (hc : cs = pre ++ (fl v rs ++ junk)) (ho : pre.length = o) : RdSl w (some ⟨b, o, none⟩) v rs := by
  subst hc
  right
  refine ⟨b, o, rfl, fun k hk => ?_⟩
  have := hw.get b _ hat.mem
  simp only [World.cell?, this]
  subst ho
  show (Array.mk (pre ++ (fl v rs ++ junk)))[pre.length + k]? = _
  rw [List.getElem?_toArray, List.getElem?_append_right (by omega), Nat.add_sub_cancel_left, List.getElem?_append_left hk]
theorem rbytes9_ok (vs p8 : List Int) (hv : vs.length = 4) (hp : p8.length = 8) (hV : VR vs) (w : World) :
    CallM Tryz.prog 16 [.agg ⟨dgV vs p8⟩] [] w fun v L => ∃ ov, OvOk 1 ov (encG vs p8).length (u8s (encG vs p8)) ∧ v = slV ov (encG vs p8).length ∧ L = blkL 5 ov (u8s (encG vs p8)) := by
  have hcell : ∀ (i : Nat) (x : Int), vs[i]? = some x → (dgV vs p8)[0 + i * 1]? = some (.int .i64 x) := fun i x h => by
    rw [Nat.zero_add, dgV, List.getElem?_append_left (by rw [iis_len]; have := (List.getElem?_eq_some_iff.1 h).1; omega)]
    exact i_at h
  have hdr : dgV vs p8 = iis vs ++ (fl u8V p8 ++ []) := by rw [fl_u8, List.append_nil]; rfl
  have hil : (iis vs).length = 4 := by rw [iis_len, hv]
  have hlen : (dgV vs p8).length = 12 := dg_len hv hp
  refine enterK (tb := tb) Tryz.func16 rfl Tryz.ntmps16 rfl ?_
  generalize hD : dgV vs p8 = D at *
  repeat' (first | (apply R.is1; first | (apply R.pure; exact rfl; (apply Ok1.assign; exact rfl)) | (apply R.box; (iterate 3 exact rfl); intro)) | apply R.nil | (apply T.is; first | apply T.seq | apply T.region | apply T.block))
  rename_i b1
  apply T.loopK (α := Nat × Ov) (I := fun y => y.1 ≤ 4 ∧ OvOk 1 y.2 (numsI 1 (vs.take y.1)).length (u8s (numsI 1 (vs.take y.1)))) (σi := fun y => [(1, .pointer (some ⟨b1, 0, none⟩)), (3, slV y.2 (numsI 1 (vs.take y.1)).length), (4, .int .i64 y.1)]) (Li := fun y => (b1, .cells ⟨D⟩ 27 (0, 0)) :: blkL 5 y.2 (u8s (numsI 1 (vs.take y.1)))) (μ := fun y => 4 - y.1) (i0 := (0, none))
  · exact ⟨Nat.zero_le _, OvOk.start 1⟩
  · exact ⟨rfl, rfl, rfl, trivial⟩
  · (focus ((repeat' (first | exact Keep.nil _ | exact Ext.one _ _ | apply Keep.cons)); done))
  · rintro ⟨i, ov⟩ ⟨hi, hov⟩
    simp only at hi hov ⊢
    rcases Nat.lt_or_ge i 4 with hlt | hge
    · obtain ⟨x, hx⟩ : ∃ x, vs[i]? = some x := ⟨_, List.getElem?_eq_getElem (by omega)⟩
      have hxc := hcell i x hx
      have ha := fun w1 => dout_ok 1 x (vr_fits hV x (List.mem_of_getElem? hx)) w1
      have hla := num_len 1 x
      have htk := nums_take (s := 1) hx
      have hnl := nums1_len (vs.take i)
      have htl : (vs.take i).length = i := by rw [List.length_take]; omega
      have hbl : (numsI 1 (vs.take i)).length ≤ 8 := by omega
      generalize numsI 1 (vs.take i) = B0 at *
      generalize numI 1 x = N1 at *
      repeat' (first | (apply R.is1; first | (apply R.isBin; (apply R.pure; exact rfl; first | (apply Ok1.add64; exact rfl; exact rfl; omega; omega) | (apply Ok1.lss_t; exact rfl; exact rfl; omega))) | (apply R.isCall; first | (apply R.callE (vs := [.agg ⟨fldV 1 x⟩]); (iterate 3 exact rfl); exact Ext.none _; intro w1 hw1; exact ha w1; rintro v Lo ⟨ova, hova, rfl, rfl⟩) | (apply R.appendSl (ov := ov) (n := B0.length) (old := u8s B0) (ov2 := ova) (m := N1.length) (news := u8s N1) (e3 := 5); (iterate 12 exact rfl); exact hov; exact hova; (focus ((repeat' (first | exact Ext.all _ | apply Ext.cons | apply Ext.app)); done)); exact Ext.mem (by (focus ((repeat' (exact Ext.here _ _)); done))); exact u8s_one _; omega; intro ov1 hov1; rw [← u8s_app, ← List.length_append]; rw [← u8s_app, ← List.length_append] at hov1)) | (apply R.pure; exact rfl; first | (apply Ok1.load; exact rfl; (apply Ld.own1; exact rfl; exact rfl; exact At.head; exact hxc)) | (apply Ok1.move; exact rfl) | (apply Ok1.fieldAddr; (iterate 5 exact rfl)) | (apply Ok1.assign; exact rfl) | (apply Ok1.indexAddrA; (iterate 5 exact rfl); omega; omega) | (apply Ok1.build; (iterate 5 exact rfl)))) | apply R.nil | (apply T.is; first | apply T.seq | apply T.region | apply T.block | apply T.skip | (apply T.cond_t; exact rfl)))
      rw [← htk] at hov1 ⊢
      exact ⟨(i + 1, ov1), ⟨by simp only; omega, hov1⟩, by simp only; omega, ⟨rfl, rfl, rfl, trivial⟩, by (focus ((repeat' (first | exact Ext.one _ _ | exact Ext.here _ _ | apply Keep.cons | apply Keep.last | apply Ext.app)); done))⟩
    · have hi4 : i = 4 := by omega
      subst hi4
      rw [show vs.take 4 = vs from List.take_of_length_le (by omega)] at hov ⊢
      have hnl := nums1_len vs
      unfold encG
      generalize numsI 1 vs = B at *
      repeat' (first | (apply R.is1; first | (apply R.isBin; (apply R.pure; exact rfl; (apply Ok1.lss_f; exact rfl; exact rfl; omega))) | (apply R.isCall; (apply R.appendRd (xs := p8) (v := u8V) (sz := 1) (ov := ov) (n := B.length) (old := u8s B) (m := 8) (p := some ⟨b1, 4, none⟩); (iterate 12 exact rfl); exact hov; (focus ((repeat' (first | exact Ext.all _ | apply Ext.cons)); done)); exact hp.symm; exact u8V_len; exact rfl; (intro w1 hw1; exact RdSl.ofOff hw1 (by exact At.head) hdr hil); (focus (rw [fl_u8]; exact u8s_one _)); omega; intro ov1 hov1 hsome; rw [fl_u8, ← u8s_app] at hov1; rw [fl_u8, ← u8s_app]; rw [show B.length + 8 = (B ++ p8).length by rw [List.length_append, hp]] at hov1; rw [show B.length + 8 = (B ++ p8).length by rw [List.length_append, hp]])) | (apply R.pure; exact rfl; first | (apply Ok1.sliceArr; (iterate 4 exact rfl)) | (apply Ok1.move; exact rfl) | (apply Ok1.fieldAddr; (iterate 5 exact rfl)) | (apply Ok1.assign; exact rfl))) | apply R.nil | (apply T.is; first | apply T.seq | apply T.region | apply T.exit | apply T.ret | (apply T.cond_f; exact rfl)))
      (apply RetOk.t; exact rfl)
      exact ⟨_, by (focus ((repeat' (first | exact Ext.here _ _ | apply Keep.last)); done)), ov1, hov1, rfl, rfl⟩
theorem Rs.ok.fail {s : Rs} {br : Nat} {w : World} (h : s.ok br w) (e : Int) : (s.fail e).ok br w := by
  unfold Rs.fail
  split
  · exact ⟨.inl rfl, Nat.le_refl _, (fun h => absurd rfl h), (fun y hy => by cases hy), Nat.zero_le _⟩
  · exact h
theorem Rs.ok.drop {s : Rs} {br : Nat} {w : World} (h : s.ok br w) {k : Nat} (hk : k ≤ s.xs.length) : (s.drop k).ok br w := by
  refine ⟨h.rd.suf u8V_len hk h.cap, ?_, fun hne => ?_, fun y hy => h.byt y (List.mem_of_mem_drop hy), ?_⟩
  · have := h.cap; simp only [Rs.drop, List.length_drop]; omega
  · exact (h.off (by intro h0; apply hne; simp [Rs.drop, h0])).suf _ _ _
  · have := h.big; simp only [Rs.drop, List.length_drop]; omega
theorem Rs.ok.num {s : Rs} {br : Nat} {w : World} (h : s.ok br w) (k : Nat) : (s.num k).2.2.ok br w := by
  unfold Rs.num
  split
  · exact h.fail 4
  · rename_i hn
    have hk : k ≤ s.xs.length := Nat.le_of_not_lt fun h1 => hn (.inr h1)
    split
    · exact h.drop hk
    · exact (h.drop hk).fail 3
theorem Rs.ok.chg {s : Rs} {br : Nat} {w w1 : World} (h : s.ok br w) {S : List Nat} (hc : Chg S w w1) (hS : S = [br]) : s.ok br w1 := ⟨h.rd.chg' hc (fun h9 => hS ▸ h.off h9), h.cap, h.off, h.byt, h.big⟩
def Rs.nx (s : Rs) (w : Nat) : Nat → Rs
  | 0 => s
  | k + 1 => ((s.nx w k).num w).2.2
def Rs.nv (s : Rs) (w k : Nat) : List Int := (List.range k).map fun j => ((s.nx w j).num w).1
theorem Rs.nv_snoc (s : Rs) (w k : Nat) : s.nv w (k + 1) = s.nv w k ++ [((s.nx w k).num w).1] := by simp [Rs.nv, List.range_succ]
theorem Rs.nv_len (s : Rs) (w k : Nat) : (s.nv w k).length = k := by simp [Rs.nv]
theorem Rs.ok.nx {s : Rs} {br : Nat} {w : World} (h : s.ok br w) (z k : Nat) : (s.nx z k).ok br w := by
  induction k with
  | zero => exact h
  | succ k ih => exact ih.num z
/-- A digest read: the digest, the error, what is left. -/
def Rs.rdF (s : Rs) : Rs := (s.nx 2 4).nx 1 8
def rdD (s : Rs) : List Int × List Int × Int := if s.rdF.e ≠ 0 then ([0, 0, 0, 0], [0, 0, 0, 0, 0, 0, 0, 0], s.rdF.e) else if VR (s.nv 2 4) then (s.nv 2 4, (s.nx 2 4).nv 1 8, 0) else ([0, 0, 0, 0], [0, 0, 0, 0, 0, 0, 0, 0], 3)
theorem rL_blk (s : Rs) (br : Nat) : blks (s.L br) = [br] := rfl
theorem Rs.num1_range (s : Rs) (hb : Byt s.xs) : 0 ≤ (s.num 1).1 ∧ (s.num 1).1 ≤ 255 := by
  unfold Rs.num
  split
  · exact ⟨Int.le_refl _, by simp⟩
  · rename_i hn
    have hl : (s.xs.take 1).length = 1 := by rw [List.length_take]; have := Nat.le_of_not_lt fun h => hn (.inr h); omega
    have hr := be_range 1 (s.xs.take 1) hl fun y hy => hb y (List.mem_of_mem_take hy)
    split
    · exact ⟨hr.1, by have := hr.2; omega⟩
    · exact ⟨Int.le_refl _, by simp⟩
theorem Ext.memI9 {L s L1 : Lst} {x : Nat × Obj} (hm : x ∈ s) (h : Ext L s L1) : x ∈ L := h.mem x hm
theorem read9_ok (br : Nat) (s : Rs) (w : World) (hs : s.ok br w) : CallM Tryz.prog 14 [.pointer (some ⟨br, 0, none⟩)] (s.L br) w fun v L => v = .tuple #[.agg ⟨dgV (rdD s).1 (rdD s).2.1⟩, .int .i64 (rdD s).2.2] ∧ L = s.rdF.L br := by
  refine enterK (tb := tb) Tryz.func14 rfl Tryz.ntmps14 rfl ?_
  repeat' (first | (apply R.is1; first | (apply R.pure; exact rfl; first | (apply Ok1.move; exact rfl) | (apply Ok1.assign; exact rfl)) | (apply R.alloc; (iterate 3 exact rfl); intro)) | apply R.nil | (apply T.is; first | apply T.seq | apply T.region | apply T.block))
  rename_i b2 b4
  apply T.loopK (α := Nat) (I := fun i => i ≤ 4) (σi := fun i => [(0, .pointer (some ⟨br, 0, none⟩)), (2, .pointer (some ⟨b2, 0, none⟩)), (4, .pointer (some ⟨b4, 0, none⟩)), (8, .int .i64 i)]) (Li := fun i => (b2, .cells ⟨dgV [0, 0, 0, 0] [0, 0, 0, 0, 0, 0, 0, 0]⟩ 41 (0, 0)) :: (b4, .cells ⟨dgQ (s.nv 2 i) []⟩ 41 (0, 0)) :: (s.nx 2 i).L br) (μ := fun i => 4 - i) (i0 := 0)
  · exact Nat.zero_le _
  · exact ⟨rfl, rfl, rfl, rfl, trivial⟩
  · show Keep _ ((b2, _) :: (b4, .cells ⟨dgQ [] []⟩ 41 (0, 0)) :: s.L br)
    rw [dgQ0]
    (focus ((repeat' (first | exact Keep.nil _ | exact Ext.one _ _ | apply Keep.cons | apply Ext.cons)); done))
  · intro i hi
    rcases Nat.lt_or_ge i 4 with hlt | hge
    · have hn := fun w1 h1 => rnum_ok br (s.nx 2 i) 1 2 (by decide) u2 w1 h1
      have hok := hs.nx 2 i
      have hst := dgQ_v (ps := []) (s.nv_len 2 i) hlt ((s.nx 2 i).num 2).1
      rw [← Rs.nv_snoc] at hst
      have hnx : s.nx 2 (i + 1) = ((s.nx 2 i).num 2).2.2 := rfl
      have hbl := rL_blk (s.nx 2 i) br
      have hbl0 := rL_blk s br
      rw [← hnx] at hn
      generalize s.nx 2 i = r at *
      generalize hr' : s.nx 2 (i + 1) = r' at *
      generalize hL0 : r.L br = L0 at *
      generalize hL1 : r'.L br = L1 at *
      repeat' (first | (apply R.is1; first | (apply R.isBin; (apply R.pure; exact rfl; first | (apply Ok1.add64; exact rfl; exact rfl; omega; omega) | (apply Ok1.lss_t; exact rfl; exact rfl; omega))) | (apply R.isCall; (apply R.callE (Li := L0) (vs := [.pointer (some ⟨br, 0, none⟩), .int .i64 1]); (iterate 3 exact rfl); (focus ((repeat' (first | exact Ext.all _ | apply Ext.cons)); done)); intro w1 hw1; exact hn w1 (hok.chg hw1.chg hbl0); rintro v Lo ⟨rfl, hq⟩; rw [hq]; clear hq)) | (apply R.pure; exact rfl; first | (apply Ok1.move; exact rfl) | (apply Ok1.fieldAddr; (iterate 5 exact rfl)) | (apply Ok1.assign; exact rfl) | (apply Ok1.indexAddrA; (iterate 5 exact rfl); omega; omega))) | (apply R.is0; (apply R.store; (iterate 6 exact rfl); (focus ((repeat' (first | exact Upd.head | apply Upd.tail | apply Upd.right)); done)); exact hst)) | apply R.nil | (apply T.is; first | apply T.seq | apply T.region | apply T.block | apply T.skip | (apply T.cond_t; exact rfl)))
      exact ⟨i + 1, by omega, by omega, ⟨rfl, rfl, rfl, rfl, trivial⟩, by simp only [hr', hL1]; (focus ((repeat' (first | exact Ext.one _ _ | exact Ext.here _ _ | apply Keep.cons | apply Keep.last | apply Ext.app)); done))⟩
    · have hi4 : i = 4 := by omega
      subst hi4
      have hvl := s.nv_len 2 4
      have hok4 := hs.nx 2 4
      have hbl0 := rL_blk s br
      have hV4 := vright_ok (s.nv 2 4) hvl
      have hF : s.rdF = (s.nx 2 4).nx 1 8 := rfl
      have hD : rdD s = if s.rdF.e ≠ 0 then ([0, 0, 0, 0], [0, 0, 0, 0, 0, 0, 0, 0], s.rdF.e) else if VR (s.nv 2 4) then (s.nv 2 4, (s.nx 2 4).nv 1 8, 0) else ([0, 0, 0, 0], [0, 0, 0, 0, 0, 0, 0, 0], 3) := rfl
      generalize s.nv 2 4 = vs at *
      generalize hs4 : s.nx 2 4 = s4 at *
      generalize hL0 : s4.L br = L4 at *
      repeat' (first | (apply R.is1; first | (apply R.isBin; (apply R.pure; exact rfl; (apply Ok1.lss_f; exact rfl; exact rfl; omega))) | (apply R.pure; exact rfl; (apply Ok1.move; exact rfl))) | apply R.nil | (apply T.is; first | apply T.seq | apply T.region | apply T.block | apply T.exit | (apply T.cond_f; exact rfl)))
      apply T.loopK (α := Nat) (I := fun i => i ≤ 8) (σi := fun i => [(0, .pointer (some ⟨br, 0, none⟩)), (2, .pointer (some ⟨b2, 0, none⟩)), (4, .pointer (some ⟨b4, 0, none⟩)), (17, .int .i64 i)]) (Li := fun i => (b2, .cells ⟨dgV [0, 0, 0, 0] [0, 0, 0, 0, 0, 0, 0, 0]⟩ 41 (0, 0)) :: (b4, .cells ⟨dgQ vs (s4.nv 1 i)⟩ 41 (0, 0)) :: (s4.nx 1 i).L br) (μ := fun i => 8 - i) (i0 := 0)
      · exact Nat.zero_le _
      · exact ⟨rfl, rfl, rfl, rfl, trivial⟩
      · show Keep _ ((b2, _) :: (b4, .cells ⟨dgQ vs []⟩ 41 (0, 0)) :: s4.L br)
        rw [hL0]
        (focus ((repeat' (first | exact Ext.one _ _ | exact Ext.all _ | apply Keep.cons | apply Keep.last)); done))
      · intro i hi
        rcases Nat.lt_or_ge i 8 with hlt | hge
        · have hn := fun w1 h1 => rnum_ok br (s4.nx 1 i) 0 1 (by decide) rfl w1 h1
          have hok := hok4.nx 1 i
          have hnr := (s4.nx 1 i).num1_range hok.byt
          have hst := dgQ_p hvl (s4.nv_len 1 i) hlt ((s4.nx 1 i).num 1).1
          rw [← Rs.nv_snoc] at hst
          have hnx : s4.nx 1 (i + 1) = ((s4.nx 1 i).num 1).2.2 := rfl
          rw [← hnx] at hn
          generalize s4.nx 1 i = r at *
          generalize hr' : s4.nx 1 (i + 1) = r' at *
          generalize hL0 : r.L br = L0 at *
          generalize hL1 : r'.L br = L1 at *
          repeat' (first | (apply R.is1; first | (apply R.isBin; (apply R.pure; exact rfl; first | (apply Ok1.add64; exact rfl; exact rfl; omega; omega) | (apply Ok1.lss_t; exact rfl; exact rfl; omega))) | (apply R.isCall; (apply R.callE (Li := L0) (vs := [.pointer (some ⟨br, 0, none⟩), .int .i64 0]); (iterate 3 exact rfl); (focus ((repeat' (first | exact Ext.all _ | apply Ext.cons)); done)); intro w1 hw1; exact hn w1 (hok.chg hw1.chg hbl0); rintro v Lo ⟨rfl, hq⟩; rw [hq]; clear hq)) | (apply R.pure; exact rfl; first | (apply Ok1.move; exact rfl) | (apply Ok1.fieldAddr; (iterate 5 exact rfl)) | (apply Ok1.assign; exact rfl) | (apply Ok1.indexAddrA; (iterate 5 exact rfl); omega; omega) | (apply Ok1.convU8; (iterate 5 exact rfl); omega; omega))) | (apply R.is0; (apply R.store; (iterate 6 exact rfl); (focus ((repeat' (first | exact Upd.head | apply Upd.tail | apply Upd.right)); done)); exact hst)) | apply R.nil | (apply T.is; first | apply T.seq | apply T.region | apply T.block | apply T.skip | (apply T.cond_t; exact rfl)))
          exact ⟨i + 1, by omega, by omega, ⟨rfl, rfl, rfl, rfl, trivial⟩, by simp only [hr', hL1]; (focus ((repeat' (first | exact Ext.one _ _ | exact Ext.here _ _ | apply Keep.cons | apply Keep.last | apply Ext.app)); done))⟩
        · have hi8 : i = 8 := by omega
          subst hi8
          have hpl := s4.nv_len 1 8
          have hre := fun w1 h => rerr_ok br (s4.nx 1 8) w1 h
          rw [dgQ_all hvl hpl]
          rw [← hF] at hre ⊢
          generalize hps : s4.nv 1 8 = ps at *
          have hdl := dg_len hvl hpl
          have hdo := dg_one vs ps
          have hs4' : subE (dgV vs ps) 0 4 = some (iis vs) := subE_app _ _ (by rw [iis_len, hvl])
          generalize s.rdF = F at *
          have hm3 : (br, Obj.cells ⟨[.slice F.q F.xs.length F.cap, .int .i64 F.e]⟩ 80 (0, 0)) ∈ F.L br := by simp [Rs.L]
          generalize hLF : F.L br = LF at *
          by_cases he : F.e = 0
          · rw [if_neg (fun h => h he)] at hD
            rw [he] at hre hm3
            by_cases hV : VR vs
            · rw [decide_eq_true hV] at hV4
              rw [if_pos hV] at hD
              rw [hD]
              generalize dgV vs ps = D at *
              repeat' (first | (apply R.is1; first | (apply R.isBin; (apply R.pure; exact rfl; first | (apply Ok1.lss_f; exact rfl; exact rfl; omega) | (apply Ok1.neq_f; exact rfl; exact rfl; omega))) | (apply R.isCall; first | apply R.callP rfl rfl rfl hV4 | (apply R.callV (vs := [.pointer (some ⟨br, 0, none⟩)]); (iterate 3 exact rfl); intro w1 hw1; (apply hre w1; apply hw1.get; apply Ext.memI9 hm3; (focus ((repeat' (first | exact Ext.all _ | apply Ext.cons)); done))))) | (apply R.pure; exact rfl; first | (apply Ok1.load; exact rfl; first | (apply Ld.ownk; exact rfl; exact rfl; (focus ((repeat' (first | exact At.head | apply At.tail)); done)); exact subE_all hdl) | (apply Ld.ownk; exact rfl; exact rfl; (focus ((repeat' (first | exact At.head | apply At.tail)); done)); exact hs4')) | (apply Ok1.move; exact rfl) | (apply Ok1.fieldAddr; (iterate 5 exact rfl)) | (apply Ok1.assign; exact rfl) | (apply Ok1.not_t; exact rfl))) | (apply R.is0; (apply R.store; (iterate 4 exact rfl); exact hdl; exact hdo; exact Upd.head; exact setE_all (by rw [hdl]; rfl))) | apply R.nil | (apply T.is; first | apply T.seq | apply T.region | apply T.skip | apply T.exit | apply T.ret | (apply T.cond_f; exact rfl)))
              (apply RetOk.ct; exact rfl; (apply Ld.ownk; exact rfl; exact rfl; exact At.head; exact subE_all hdl); exact rfl)
              exact ⟨_, by (focus ((repeat' (first | exact Ext.all _ | apply Keep.last | apply Ext.cons)); done)), rfl, rfl⟩
            · rw [decide_eq_false hV] at hV4
              rw [if_neg hV] at hD
              rw [hD]
              generalize dgV vs ps = D at *
              repeat' (first | (apply R.is1; first | (apply R.isBin; (apply R.pure; exact rfl; first | (apply Ok1.lss_f; exact rfl; exact rfl; omega) | (apply Ok1.neq_f; exact rfl; exact rfl; omega))) | (apply R.isCall; first | apply R.callP rfl rfl rfl hV4 | (apply R.callV (vs := [.pointer (some ⟨br, 0, none⟩)]); (iterate 3 exact rfl); intro w1 hw1; (apply hre w1; apply hw1.get; apply Ext.memI9 hm3; (focus ((repeat' (first | exact Ext.all _ | apply Ext.cons)); done))))) | (apply R.pure; exact rfl; first | (apply Ok1.load; exact rfl; (apply Ld.ownk; exact rfl; exact rfl; (focus ((repeat' (first | exact At.head | apply At.tail)); done)); exact hs4')) | (apply Ok1.move; exact rfl) | (apply Ok1.fieldAddr; (iterate 5 exact rfl)) | (apply Ok1.assign; exact rfl) | (apply Ok1.build; (iterate 5 exact rfl)) | (apply Ok1.not_f; exact rfl))) | (apply R.is0; (apply R.store; (iterate 6 exact rfl); exact Upd.head; exact rfl)) | apply R.nil | (apply T.is; first | apply T.seq | apply T.region | apply T.skip | apply T.exit | apply T.ret | (apply T.cond_t; exact rfl) | (apply T.cond_f; exact rfl)))
              (apply RetOk.ct; exact rfl; ((apply Ld.ownk; exact rfl; exact rfl; exact At.head; exact rfl)); exact rfl)
              exact ⟨_, by (focus ((repeat' (first | exact Ext.all _ | apply Keep.last | apply Ext.cons)); done)), rfl, rfl⟩
          · rw [if_pos he] at hD
            rw [hD]
            generalize dgV vs ps = D at *
            repeat' (first | (apply R.is1; first | (apply R.isBin; (apply R.pure; exact rfl; first | (apply Ok1.lss_f; exact rfl; exact rfl; omega) | (apply Ok1.neq_t; exact rfl; exact rfl; omega))) | (apply R.isCall; (apply R.callV (vs := [.pointer (some ⟨br, 0, none⟩)]); (iterate 3 exact rfl); intro w1 hw1; (apply hre w1; apply hw1.get; apply Ext.memI9 hm3; (focus ((repeat' (first | exact Ext.all _ | apply Ext.cons)); done))))) | (apply R.pure; exact rfl; first | (apply Ok1.move; exact rfl) | (apply Ok1.assign; exact rfl) | (apply Ok1.build; (iterate 5 exact rfl)))) | (apply R.is0; (apply R.store; (iterate 6 exact rfl); exact Upd.head; exact rfl)) | apply R.nil | (apply T.is; first | apply T.seq | apply T.region | apply T.exit | apply T.ret | (apply T.cond_t; exact rfl) | (apply T.cond_f; exact rfl)))
            (apply RetOk.ct; exact rfl; ((apply Ld.ownk; exact rfl; exact rfl; exact At.head; exact rfl)); exact rfl)
            exact ⟨_, by (focus ((repeat' (first | exact Ext.all _ | apply Keep.last | apply Ext.cons)); done)), rfl, rfl⟩
end Go.Proofs.YtligpachgcmkcaaGreat
set_option linter.unusedSimpArgs false
set_option linter.unusedVariables false
namespace Go.Proofs.YtligpachgcmkcaaGreat
open Go.RowKit Go.Shelf
theorem Rs.num2_is {s : Rs} {a b : Int} {r : List Int} (h : s.is (a :: b :: r) 0) (ha : 0 ≤ a ∧ a ≤ 255) (hb : 0 ≤ b ∧ b ≤ 255) : (s.num 2).1 = 256 * a + b ∧ (s.num 2).2.2.is r 0 := by
  obtain ⟨hx, he⟩ := h
  have e1 : s.xs.take 2 = [a, b] := by rw [hx]; rfl
  have e2 : beN [a, b] = 256 * a + b := by simp only [beN, List.foldl_cons, List.foldl_nil]; omega
  unfold Rs.num
  rw [if_neg, e1, e2, if_pos (by omega)]
  · exact ⟨rfl, by simp only [Rs.drop]; rw [hx]; rfl, he⟩
  · rw [hx]
    rintro (h | h)
    · exact h he
    · simp only [List.length_cons] at h; omega
theorem Rs.num1_is {s : Rs} {a : Int} {r : List Int} (h : s.is (a :: r) 0) (ha : 0 ≤ a ∧ a ≤ 255) : (s.num 1).1 = a ∧ (s.num 1).2.2.is r 0 := by
  obtain ⟨hx, he⟩ := h
  have e1 : s.xs.take 1 = [a] := by rw [hx]; rfl
  have e2 : beN [a] = a := by simp only [beN, List.foldl_cons, List.foldl_nil]; omega
  unfold Rs.num
  rw [if_neg, e1, e2, if_pos (by omega)]
  · exact ⟨rfl, by simp only [Rs.drop]; rw [hx]; rfl, he⟩
  · rw [hx]
    rintro (h | h)
    · exact h he
    · simp only [List.length_cons] at h; omega
def pairN (xs : List Int) (j : Nat) : Int := 256 * xs.getD (2 * j) 0 + xs.getD (2 * j + 1) 0
theorem Rs.nv2_is {s : Rs} {xs : List Int} (h : s.is xs 0) (hb : Byt xs) : ∀ k, 2 * k ≤ xs.length → (s.nx 2 k).is (xs.drop (2 * k)) 0 ∧ s.nv 2 k = (List.range k).map (pairN xs) := by
  intro k
  induction k with
  | zero => exact fun _ => ⟨h, rfl⟩
  | succ k ih =>
    intro hk
    obtain ⟨h1, h2⟩ := ih (by omega)
    have e1 : xs.drop (2 * k) = xs[2 * k] :: xs[2 * k + 1] :: xs.drop (2 * (k + 1)) := by
      rw [show 2 * (k + 1) = 2 * k + 1 + 1 by omega, List.drop_eq_getElem_cons (by omega), List.drop_eq_getElem_cons (by omega)]
    rw [e1] at h1
    obtain ⟨h3, h4⟩ := Rs.num2_is h1 (hb _ (List.getElem_mem _)) (hb _ (List.getElem_mem _))
    refine ⟨h4, ?_⟩
    rw [Rs.nv_snoc, h2, h3, List.range_succ, List.map_append]
    simp only [List.map_cons, List.map_nil, pairN, List.getD_eq_getElem?_getD]
    rw [List.getElem?_eq_getElem (by omega), List.getElem?_eq_getElem (by omega)]
    rfl
theorem Rs.nv1_is {s : Rs} {xs : List Int} (h : s.is xs 0) (hb : Byt xs) : ∀ k, k ≤ xs.length → (s.nx 1 k).is (xs.drop k) 0 ∧ s.nv 1 k = xs.take k := by
  intro k
  induction k with
  | zero => exact fun _ => ⟨h, rfl⟩
  | succ k ih =>
    intro hk
    obtain ⟨h1, h2⟩ := ih (by omega)
    have e1 : xs.drop k = xs[k] :: xs.drop (k + 1) := by rw [List.drop_eq_getElem_cons (by omega)]
    rw [e1] at h1
    obtain ⟨h3, h4⟩ := Rs.num1_is h1 (hb _ (List.getElem_mem _))
    refine ⟨h4, ?_⟩
    rw [Rs.nv_snoc, h2, h3, List.take_add_one, List.getElem?_eq_getElem (by omega)]
    rfl
theorem rd_long {s : Rs} {xs : List Int} (h : s.is xs 0) (hb : Byt xs) (hl : 16 ≤ xs.length) : s.rdF.is (xs.drop 16) 0 ∧ s.nv 2 4 = (List.range 4).map (pairN xs) ∧ (s.nx 2 4).nv 1 8 = (xs.drop 8).take 8 := by
  obtain ⟨h1, h2⟩ := Rs.nv2_is h hb 4 (by omega)
  obtain ⟨h3, h4⟩ := Rs.nv1_is (xs := xs.drop 8) h1 (fun y hy => hb y (List.mem_of_mem_drop hy)) 8 (by rw [List.length_drop]; omega)
  refine ⟨?_, h2, h4⟩
  rw [List.drop_drop] at h3
  exact h3
theorem Rs.num_short {s : Rs} (hb : Byt s.xs) {w : Nat} (hw : w = 1 ∨ w = 2) (he : s.e = 0) : ((s.num w).2.2.e = 0 ∧ (s.num w).2.2.xs.length + w = s.xs.length ∧ Byt (s.num w).2.2.xs) ∨ (s.num w).2.2.e = 4 := by
  unfold Rs.num
  split
  · right
    unfold Rs.fail
    rw [if_pos he]
  · rename_i hn
    have hl : w ≤ s.xs.length := Nat.le_of_not_lt fun h => hn (.inr h)
    have hr := be_range w (s.xs.take w) (by rw [List.length_take]; omega) fun y hy => hb y (List.mem_of_mem_take hy)
    rw [if_pos]
    · left
      exact ⟨he, by simp only [Rs.drop, List.length_drop]; omega, fun y hy => hb y (List.mem_of_mem_drop hy)⟩
    · rcases hw with rfl | rfl <;> omega
theorem Rs.nx_short {s : Rs} (hb : Byt s.xs) {w : Nat} (hw : w = 1 ∨ w = 2) (he : s.e = 0 ∨ s.e = 4) : ∀ k, (s.e = 0 ∧ (s.nx w k).e = 0 ∧ (s.nx w k).xs.length + w * k = s.xs.length ∧ Byt (s.nx w k).xs) ∨ (s.nx w k).e = 4 := by
  intro k
  induction k with
  | zero =>
    rcases he with he | he
    · exact .inl ⟨he, he, rfl, hb⟩
    · exact .inr he
  | succ k ih =>
    rcases ih with ⟨h0, h1, h2, h3⟩ | h1
    · rcases Rs.num_short h3 hw h1 with ⟨h4, h5, h6⟩ | h4
      · refine .inl ⟨h0, h4, ?_, h6⟩
        show ((s.nx w k).num w).2.2.xs.length + w * (k + 1) = _
        rw [Nat.mul_succ]; omega
      · exact .inr h4
    · right
      show ((s.nx w k).num w).2.2.e = 4
      rw [Rs.num_bad (by rw [h1]; decide)]
      exact h1
theorem rd_short {s : Rs} {xs : List Int} (h : s.is xs 0) (hb : Byt xs) (hl : xs.length < 16) : s.rdF.e = 4 := by
  have hb1 : Byt s.xs := h.xs ▸ hb
  rcases Rs.nx_short hb1 (.inr rfl) (.inl h.e) 4 with ⟨_, h1, h2, h3⟩ | h1
  · rcases Rs.nx_short h3 (.inl rfl) (.inl h1) 8 with ⟨_, h4, h5, _⟩ | h4
    · rw [h.xs] at h2; omega
    · exact h4
  · have : s.rdF = s.nx 2 4 := by
      unfold Rs.rdF
      generalize s.nx 2 4 = t at *
      have : ∀ k, t.nx 1 k = t := fun k => by
        induction k with
        | zero => rfl
        | succ k ih => rw [Rs.nx, ih, Rs.num_bad (by rw [h1]; decide)]
      exact this 8
    rw [this]; exact h1
theorem enc_read {vs p8 : List Int} (hv : vs.length = 4) (hp : p8.length = 8) (hV : VR vs) (y : Int) : (List.range 4).map (pairN (encG vs p8 ++ [y])) = vs ∧ ((encG vs p8 ++ [y]).drop 8).take 8 = p8 ∧ (encG vs p8 ++ [y]).drop 16 = [y] := by
  obtain ⟨a, b, c, d, e, f, g, h, i, j, k, l, rfl, rfl⟩ := dgx hv hp
  have ha := hV a (by simp)
  have hb := hV b (by simp)
  have hc := hV c (by simp)
  have hd := hV d (by simp)
  have e0 : encG [a, b, c, d] [e, f, g, h, i, j, k, l] ++ [y] = [a / 256 % 256, a % 256, b / 256 % 256, b % 256, c / 256 % 256, c % 256, d / 256 % 256, d % 256, e, f, g, h, i, j, k, l, y] := rfl
  rw [e0]
  refine ⟨?_, rfl, rfl⟩
  have e1 : (List.range 4).map (pairN [a / 256 % 256, a % 256, b / 256 % 256, b % 256, c / 256 % 256, c % 256, d / 256 % 256, d % 256, e, f, g, h, i, j, k, l, y]) = [256 * (a / 256 % 256) + a % 256, 256 * (b / 256 % 256) + b % 256, 256 * (c / 256 % 256) + c % 256, 256 * (d / 256 % 256) + d % 256] := rfl
  rw [e1]
  simp only [List.cons.injEq, and_true]
  omega
theorem encG_byt {vs p8 : List Int} (h : Byt p8) : Byt (encG vs p8) := fun y hy => by
  rcases List.mem_append.1 hy with h1 | h1
  · exact nums_byt _ _ y h1
  · exact h y h1
end Go.Proofs.YtligpachgcmkcaaGreat
set_option linter.unusedSimpArgs false
set_option linter.unusedVariables false
namespace Go.Proofs.YtligpachgcmkcaaGreat
open Go.RowKit Go.Shelf
set_option maxRecDepth 100000
def tlD : Code → Code | .seq _ b => b | c => c
def bodyD (f : Func) : Code := match f.body with | some c => c | none => .skip
theorem dig_tail (w : World) (p : Option Addr) (n cap : Nat) (bs : List Int) (hn : n = bs.length) (hn30 : n ≤ 30) (hbb : Byt bs) (hp : RdSl w p u8V bs) :
    T ⟨Tryz.prog, tb, 200, w, []⟩ (tlD (tlD (tlD (tlD (tlD (tlD (tlD (tlD (tlD (bodyD Tryz.f3)))))))))) (retQ ⟨Tryz.prog, tb, 200, w, []⟩ Tryz.f3.results.toList fun x _ => x = .bool true) [(2, .slice p n cap)] [] := by
  have hnew := fun w1 (hc : Chg [] w w1) => rnewr_ok p n cap bs hn (by omega) hbb w1 (hp.chg' hc (fun _ => Off.nil _))
  rw [if_pos (by omega), if_pos (by omega)] at hnew
  have hkn := fun w1 => known9_ok w1
  have hz0 : dgV [0, 0, 0, 0] [0, 0, 0, 0, 0, 0, 0, 0] = [.int .i64 0, .int .i64 0, .int .i64 0, .int .i64 0, .int .u8 0, .int .u8 0, .int .u8 0, .int .u8 0, .int .u8 0, .int .u8 0, .int .u8 0, .int .u8 0] := rfl
  have hrd := fun br s w1 h => read9_ok br s w1 h
  have hdD : ∀ s : Rs, (dgV (rdD s).1 (rdD s).2.1).length = 12 ∧ (dgV (rdD s).1 (rdD s).2.1).all Value.oneCell' = true := fun s => by
    refine ⟨?_, dg_one _ _⟩
    unfold rdD
    split
    · rfl
    · split
      · exact dg_len (s.nv_len 2 4) (Rs.nv_len _ _ _)
      · rfl
  repeat' (first | (apply R.is1; first | (apply R.isCall; first | (apply R.callE (vs := [.slice p n cap]); (iterate 3 exact rfl); exact Ext.none _; intro w1 hw1; exact hnew w1 hw1.chg; rintro v Lo ⟨br, s, M, rfl, hxs, hse, hso, rfl⟩; have hok9 := hso.ok' br; have hd12 := (hdD s).1; have hd1 := (hdD s).2; have hr9 := fun w1 h => hrd br s w1 h; generalize hL0 : s.L br = L0 at *; rw [List.append_assoc]) | (apply R.callE (Li := L0) (vs := [.pointer (some ⟨br, 0, none⟩)]); (iterate 3 exact rfl); (focus ((repeat' (exact Ext.here _ _)); done)); intro w1 hw1; exact hr9 w1 (hok9 _ _ _ _ _ hw1 (by (focus ((repeat' (exact Ext.here _ _)); done))) (Ext.mem (by (focus ((repeat' (exact Ext.here _ _)); done))))); rintro v Lo ⟨rfl, hq⟩; rw [hq]; clear hq)) | (apply R.pure; exact rfl; first | (apply Ok1.move; exact rfl) | (apply Ok1.assign; exact rfl) | (apply Ok1.extract; exact rfl; exact rfl)) | (apply R.alloc; (iterate 3 exact rfl); intro)) | (apply R.is0; (apply R.store; (iterate 4 exact rfl); exact hd12; exact hd1; exact Upd.head; exact setE_all (by rw [hd12]; rfl))) | apply R.nil | (apply T.is; first | (apply T.stop 16) | apply T.seq | apply T.region))
  rename_i b16
  refine ⟨?_⟩
  rcases Nat.lt_or_ge n 16 with hlt | hge
  · have hsh := rd_short ⟨hxs, hse⟩ hbb (by omega)
    have hD : rdD s = ([0, 0, 0, 0], [0, 0, 0, 0, 0, 0, 0, 0], 4) := by unfold rdD; rw [hsh, if_pos (by decide)]
    rw [hD]
    simp only
    rw [hz0]
    repeat' (first | (apply R.is1; first | (apply R.isBin; (apply R.pure; exact rfl; first | (apply Ok1.eqlFq2 (q := true); (iterate 7 exact rfl); exact ⟨fun _ => rfl, fun _ => rfl⟩) | (apply Ok1.lss_t; exact rfl; exact rfl; omega) | (apply Ok1.eql_t; exact rfl; exact rfl; omega))) | (apply R.isCall; first | (apply R.callE (vs := []); (iterate 3 exact rfl); exact Ext.none _; intro w1 hw1; exact hkn w1; rintro v Lo ⟨rfl, rfl⟩) | (apply R.pure; exact rfl; (apply Ok1.lenS; (iterate 3 exact rfl)))) | (apply R.pure; exact rfl; first | (apply Ok1.move; exact rfl) | (apply Ok1.load; exact rfl; (apply Ld.ownk; exact rfl; exact rfl; exact At.head; exact rfl)) | (apply Ok1.assign; exact rfl) | (apply Ok1.build; (iterate 5 exact rfl)) | (apply Ok1.pick_t; exact rfl; exact rfl))) | (apply R.isG; (apply R.guard_run; exact rfl; exact rfl)) | apply R.nil | (apply T.is; first | apply T.seq | apply T.region | apply T.ret | (apply T.cond_t; exact rfl)))
    (apply RetOk.t; exact rfl)
    rfl
  · obtain ⟨hF, hv4, hp8⟩ := rd_long ⟨hxs, hse⟩ hbb (by omega)
    have hbl : 16 ≤ bs.length := by omega
    have hul : ((List.range 4).map (pairN bs)).length = 4 := by simp
    have hpl : ((bs.drop 8).take 8).length = 8 := by rw [List.length_take, List.length_drop]; omega
    have hD : rdD s = if VR ((List.range 4).map (pairN bs)) then ((List.range 4).map (pairN bs), (bs.drop 8).take 8, 0) else ([0, 0, 0, 0], [0, 0, 0, 0, 0, 0, 0, 0], 3) := by
      unfold rdD
      rw [hF.e, if_neg (fun h => h rfl), hv4, hp8]
    have hget : ∀ i, i < 4 → ((List.range 4).map (pairN bs))[i]? = some (pairN bs i) := fun i hi => by rw [List.getElem?_map, List.getElem?_range hi]; rfl
    have hgp : ∀ i, i < 8 → ((bs.drop 8).take 8)[i]? = some (bs.getD (8 + i) 0) := fun i hi => by
      rw [List.getElem?_take_of_lt hi, List.getElem?_drop, List.getD_eq_getElem?_getD, List.getElem?_eq_getElem (by omega)]; rfl
    obtain ⟨b, o, hpe, H⟩ : ∃ b o, p = some ⟨b, o, none⟩ ∧ ∀ k, k < bs.length → w.cell? ⟨b, o + k * 1, none⟩ = some (.int .u8 (bs.getD k 0)) := by
      obtain ⟨x0, hx0⟩ : ∃ x, bs[0]? = some x := ⟨_, List.getElem?_eq_getElem (by omega)⟩
      obtain ⟨b, o, h1, _⟩ := hp.at hx0
      refine ⟨b, o, h1, fun k hk => ?_⟩
      obtain ⟨b', o', h3, h4⟩ := hp.at (List.getElem?_eq_getElem hk)
      rw [h1] at h3
      cases h3
      have h5 := h4 1 u8V_len 0 (by decide)
      rw [Nat.add_zero] at h5
      rw [h5, List.getD_eq_getElem?_getD, List.getElem?_eq_getElem hk]
      rfl
    have hbb2 : ∀ k, 0 ≤ bs.getD k 0 ∧ bs.getD k 0 ≤ 255 := fun k => by
      rw [List.getD_eq_getElem?_getD]
      cases h : bs[k]? with
      | none => exact ⟨Int.le_refl _, by simp⟩
      | some y => exact hbb y (List.mem_of_getElem? h)
    generalize hus : (List.range 4).map (pairN bs) = us at *
    generalize (bs.drop 8).take 8 = ps at *
    have hD1 : VR us → dgV (rdD s).1 (rdD s).2.1 = dgV us ps ∧ (rdD s).2.2 = 0 := fun h => by rw [hD, if_pos h]; exact ⟨rfl, rfl⟩
    have hD2 : ¬ VR us → dgV (rdD s).1 (rdD s).2.1 = dgV [0, 0, 0, 0] [0, 0, 0, 0, 0, 0, 0, 0] ∧ (rdD s).2.2 = 3 := fun h => by rw [hD, if_neg h]; exact ⟨rfl, rfl⟩
    generalize dgV (rdD s).1 (rdD s).2.1 = D at *
    generalize (rdD s).2.2 = E at *
    clear hD
    repeat' (first | (apply R.is1; first | (apply R.isBin; (apply R.pure; exact rfl; (apply Ok1.lss_f; exact rfl; exact rfl; omega))) | (apply R.isCall; (apply R.pure; exact rfl; (apply Ok1.lenS; (iterate 3 exact rfl)))) | (apply R.pure; exact rfl; first | (apply Ok1.move; exact rfl) | (apply Ok1.assign; exact rfl) | (apply Ok1.build; (iterate 5 exact rfl))) | (apply R.alloc; (iterate 3 exact rfl); intro)) | (apply R.is0; (apply R.store; (iterate 6 exact rfl); exact Upd.head; exact rfl)) | apply R.nil | (apply T.is; first | apply T.seq | apply T.region | apply T.block | apply T.skip | (apply T.cond_f; exact rfl)))
    rename_i b18
    apply T.loopK (α := Nat) (I := fun i => i ≤ 4) (σi := fun i => [(2, .slice p n cap), (16, .pointer (some ⟨b16, 0, none⟩)), (17, .int .i64 E), (18, .pointer (some ⟨b18, 0, none⟩)), (19, .int .i64 i)]) (Li := fun i => [(b16, .cells ⟨D⟩ 41 (0, 0)), (b18, .cells ⟨dgQ (us.take i) []⟩ 27 (0, 0))]) (μ := fun i => 4 - i) (i0 := 0)
    · exact Nat.zero_le _
    · exact ⟨rfl, rfl, rfl, rfl, rfl, trivial⟩
    · simp only [List.take_zero, dgQ0]
      (focus ((repeat' (first | exact Keep.nil _ | exact Ext.one _ _ | apply Keep.cons | apply Ext.cons)); done))
    · intro i hi
      rcases Nat.lt_or_ge i 4 with hlt | hge
      · have hA : w.cell? ⟨b, o + (2 * (i : Int)).toNat * 1, none⟩ = some (.int .u8 (bs.getD (2 * i) 0)) := by rw [show (2 * (i : Int)).toNat = 2 * i by omega]; exact H _ (by omega)
        have hB : w.cell? ⟨b, o + (2 * (i : Int) + 1).toNat * 1, none⟩ = some (.int .u8 (bs.getD (2 * i + 1) 0)) := by rw [show (2 * (i : Int) + 1).toNat = 2 * i + 1 by omega]; exact H _ (by omega)
        have hr1 := hbb2 (2 * i)
        have hr2 := hbb2 (2 * i + 1)
        have hui := hget i hlt
        have htk : us.take (i + 1) = us.take i ++ [pairN bs i] := by rw [List.take_add_one, hui]; rfl
        have hst := dgQ_v (ps := []) (show (us.take i).length = i by rw [List.length_take]; omega) hlt (pairN bs i)
        rw [pairN] at hst htk
        generalize bs.getD (2 * i) 0 = x at *
        generalize bs.getD (2 * i + 1) 0 = y at *
        repeat' (first | (apply R.is1; first | (apply R.isBin; (apply R.pure; exact rfl; first | (apply Ok1.add64; exact rfl; exact rfl; omega; omega) | (apply Ok1.lss_t; exact rfl; exact rfl; omega))) | (apply R.pure; exact rfl; first | (apply Ok1.move; exact rfl) | (apply Ok1.assign; exact rfl))) | apply R.nil | (apply T.is; first | (apply T.drawC (id := 22) [] (by decide); ((apply A.take 0; exact rfl; exact rfl; kernel_rfl; kernel_rfl; kernel_rfl; (apply Ok1.move; exact rfl)) <;> (apply A.take 1; exact rfl; exact rfl; kernel_rfl; kernel_rfl; kernel_rfl; (apply Ok1.move; exact rfl)) <;> (apply A.take 2; exact rfl; exact rfl; kernel_rfl; kernel_rfl; kernel_rfl; (apply Ok1.move; exact rfl)) <;> (apply A.take 3; exact rfl; exact rfl; kernel_rfl; kernel_rfl; kernel_rfl; (apply Ok1.mul64; exact rfl; exact rfl; omega; omega)) <;> (apply A.take 4; exact rfl; exact rfl; kernel_rfl; kernel_rfl; kernel_rfl; (apply Ok1.indexAddrP; (iterate 4 exact rfl); exact hpe; exact rfl; omega; omega)) <;> (apply A.take 5; exact rfl; exact rfl; kernel_rfl; kernel_rfl; kernel_rfl; (apply Ok1.load; exact rfl; (apply Ld.old1; exact rfl; exact rfl; exact hA; exact List.not_mem_nil))) <;> (apply A.take 6; exact rfl; exact rfl; kernel_rfl; kernel_rfl; kernel_rfl; (apply Ok1.convI64; (iterate 5 exact rfl); omega; omega)) <;> (apply A.take 7; exact rfl; exact rfl; kernel_rfl; kernel_rfl; kernel_rfl; (apply Ok1.mul64; exact rfl; exact rfl; omega; omega)) <;> (apply A.take 8; exact rfl; exact rfl; kernel_rfl; kernel_rfl; kernel_rfl; (apply Ok1.move; exact rfl)) <;> (apply A.take 9; exact rfl; exact rfl; kernel_rfl; kernel_rfl; kernel_rfl; (apply Ok1.move; exact rfl)) <;> (apply A.take 10; exact rfl; exact rfl; kernel_rfl; kernel_rfl; kernel_rfl; (apply Ok1.mul64; exact rfl; exact rfl; omega; omega)) <;> (apply A.take 11; exact rfl; exact rfl; kernel_rfl; kernel_rfl; kernel_rfl; (apply Ok1.add64; exact rfl; exact rfl; omega; omega)) <;> (apply A.take 12; exact rfl; exact rfl; kernel_rfl; kernel_rfl; kernel_rfl; (apply Ok1.indexAddrP; (iterate 4 exact rfl); exact hpe; exact rfl; omega; omega)) <;> (apply A.take 13; exact rfl; exact rfl; kernel_rfl; kernel_rfl; kernel_rfl; (apply Ok1.load; exact rfl; (apply Ld.old1; exact rfl; exact rfl; exact hB; exact List.not_mem_nil))) <;> (apply A.take 14; exact rfl; exact rfl; kernel_rfl; kernel_rfl; kernel_rfl; (apply Ok1.convI64; (iterate 5 exact rfl); omega; omega)) <;> (apply A.take 15; exact rfl; exact rfl; kernel_rfl; kernel_rfl; kernel_rfl; (apply Ok1.add64; exact rfl; exact rfl; omega; omega)) <;> (apply A.take 16; exact rfl; exact rfl; kernel_rfl; kernel_rfl; kernel_rfl; (apply Ok1.fieldAddr; (iterate 5 exact rfl))) <;> (apply A.take 17; exact rfl; exact rfl; kernel_rfl; kernel_rfl; kernel_rfl; (apply Ok1.indexAddrA; (iterate 5 exact rfl); omega; omega)) <;> (apply A.one 18; kernel_rfl; exact rfl; (((apply R.store; (iterate 6 exact rfl); (focus ((repeat' (first | exact Upd.head | apply Upd.tail)); done)); exact hst))); apply R.nil; refine ⟨?_, ?_⟩; (focus ((repeat' (exact trivial))))) <;> (apply A.done; kernel_rfl))) | apply T.seq | apply T.region | apply T.block | apply T.skip | (apply T.cond_t; exact rfl)))
        exact ⟨i + 1, by omega, by omega, ⟨rfl, rfl, rfl, rfl, rfl, trivial⟩, by simp only [htk]; (focus ((repeat' (first | exact Keep.nil _ | exact Ext.one _ _ | apply Keep.cons)); done))⟩
      · have hi4 : i = 4 := by omega
        subst hi4
        rw [show us.take 4 = us from List.take_of_length_le (by omega)]
        repeat' (first | (apply R.is1; first | (apply R.isBin; (apply R.pure; exact rfl; (apply Ok1.lss_f; exact rfl; exact rfl; omega))) | (apply R.pure; exact rfl; first | (apply Ok1.move; exact rfl) | (apply Ok1.assign; exact rfl))) | apply R.nil | (apply T.is; first | apply T.seq | apply T.region | apply T.block | apply T.exit | (apply T.cond_f; exact rfl)))
        apply T.loopK (α := Nat) (I := fun i => i ≤ 8) (σi := fun i => [(2, .slice p n cap), (16, .pointer (some ⟨b16, 0, none⟩)), (17, .int .i64 E), (18, .pointer (some ⟨b18, 0, none⟩)), (20, .int .i64 i)]) (Li := fun i => [(b16, .cells ⟨D⟩ 41 (0, 0)), (b18, .cells ⟨dgQ us (ps.take i)⟩ 27 (0, 0))]) (μ := fun i => 8 - i) (i0 := 0)
        · exact Nat.zero_le _
        · exact ⟨rfl, rfl, rfl, rfl, rfl, trivial⟩
        · (focus ((repeat' (first | exact Keep.nil _ | exact Ext.one _ _ | apply Keep.cons)); done))
        · intro i hi
          rcases Nat.lt_or_ge i 8 with hlt | hge
          · have hA : w.cell? ⟨b, o + (8 + (i : Int)).toNat * 1, none⟩ = some (.int .u8 (bs.getD (8 + i) 0)) := by rw [show (8 + (i : Int)).toNat = 8 + i by omega]; exact H _ (by omega)
            have hpi := hgp i hlt
            have htk : ps.take (i + 1) = ps.take i ++ [bs.getD (8 + i) 0] := by rw [List.take_add_one, hpi]; rfl
            have hst := dgQ_p hul (show (ps.take i).length = i by rw [List.length_take]; omega) hlt (bs.getD (8 + i) 0)
            generalize bs.getD (8 + i) 0 = x at *
            repeat' (first | (apply R.is1; first | (apply R.isBin; (apply R.pure; exact rfl; first | (apply Ok1.add64; exact rfl; exact rfl; omega; omega) | (apply Ok1.lss_t; exact rfl; exact rfl; omega))) | (apply R.pure; exact rfl; first | (apply Ok1.indexAddrP; (iterate 4 exact rfl); exact hpe; exact rfl; omega; omega) | (apply Ok1.load; exact rfl; (apply Ld.old1; exact rfl; exact rfl; exact hA; exact List.not_mem_nil)) | (apply Ok1.move; exact rfl) | (apply Ok1.fieldAddr; (iterate 5 exact rfl)) | (apply Ok1.assign; exact rfl) | (apply Ok1.indexAddrA; (iterate 5 exact rfl); omega; omega))) | (apply R.is0; (apply R.store; (iterate 6 exact rfl); (focus ((repeat' (first | exact Upd.head | apply Upd.tail)); done)); exact hst)) | apply R.nil | (apply T.is; first | apply T.seq | apply T.region | apply T.block | apply T.skip | (apply T.cond_t; exact rfl)))
            exact ⟨i + 1, by omega, by omega, ⟨rfl, rfl, rfl, rfl, rfl, trivial⟩, by simp only [htk]; (focus ((repeat' (first | exact Keep.nil _ | exact Ext.one _ _ | apply Keep.cons)); done))⟩
          · have hi8 : i = 8 := by omega
            subst hi8
            rw [show ps.take 8 = ps from List.take_of_length_le (by omega), dgQ_all hul hpl]
            obtain ⟨u0, u1, u2, u3, q0, q1, q2, q3, q4, q5, q6, q7, rfl, rfl⟩ := dgx hul hpl
            have hrr := rvright_ok u0 u1 u2 u3
            have hof := of9_ok [u0, u1, u2, u3] [q0, q1, q2, q3, q4, q5, q6, q7] rfl rfl
            have e1 : dgV [u0, u1, u2, u3] [q0, q1, q2, q3, q4, q5, q6, q7] = [.int .i64 u0, .int .i64 u1, .int .i64 u2, .int .i64 u3, .int .u8 q0, .int .u8 q1, .int .u8 q2, .int .u8 q3, .int .u8 q4, .int .u8 q5, .int .u8 q6, .int .u8 q7] := rfl
            by_cases hV : VR [u0, u1, u2, u3]
            · rw [decide_eq_true hV] at hrr
              obtain ⟨rfl, rfl⟩ := hD1 hV
              rw [e1] at hof ⊢
              repeat' (first | (apply R.is1; first | (apply R.isBin; (apply R.pure; exact rfl; (apply Ok1.lss_f; exact rfl; exact rfl; omega))) | (apply R.isCall; apply R.callP rfl rfl rfl hrr) | (apply R.pure; exact rfl; first | (apply Ok1.move; exact rfl) | (apply Ok1.fieldAddr; (iterate 5 exact rfl)) | (apply Ok1.load; exact rfl; (apply Ld.ownk; exact rfl; exact rfl; (focus ((repeat' (first | exact At.head | apply At.tail)); done)); exact rfl)) | (apply Ok1.not_t; exact rfl))) | apply R.nil | (apply T.is; first | (apply T.drawC (id := 29) [0,1] (by decide); ((apply A.one 0; kernel_rfl; exact rfl; (((apply R.callE (vs := []); (iterate 3 exact rfl); exact Ext.none _; intro w1 hw1; exact hkn w1; rintro v Lo ⟨rfl, rfl⟩))); apply R.nil; refine ⟨?_, ?_⟩; (focus ((repeat' (first | exact trivial | (refine ⟨?_, ?_⟩; (focus ((repeat' (first | exact At.head | apply At.tail)); done)))))))) <;> (apply A.take 1; exact rfl; exact rfl; kernel_rfl; kernel_rfl; kernel_rfl; (apply Ok1.move; exact rfl)) <;> ((apply A.takeG 2; exact rfl; exact rfl; rotate_left 3; exact rfl; exact rfl; rotate_right 3; kernel_rfl; kernel_rfl; kernel_rfl; (apply Ok1.move; exact rfl))) <;> ((apply A.takeG 3; exact rfl; exact rfl; rotate_left 3; exact rfl; exact rfl; rotate_right 3; kernel_rfl; kernel_rfl; kernel_rfl; (apply Ok1.eql_t; exact rfl; exact rfl; omega))) <;> (apply A.take 4; exact rfl; exact rfl; kernel_rfl; kernel_rfl; kernel_rfl; (apply Ok1.pick_t; exact rfl; exact rfl)) <;> (apply A.take 5; exact rfl; exact rfl; kernel_rfl; kernel_rfl; kernel_rfl; (apply Ok1.move; exact rfl)) <;> ((apply A.takeG 6; exact rfl; exact rfl; rotate_left 3; exact rfl; exact rfl; rotate_right 3; kernel_rfl; kernel_rfl; kernel_rfl; (apply Ok1.load; exact rfl; (apply Ld.ownk; exact rfl; exact rfl; exact At.head; exact rfl)))) <;> ((apply A.takeG 8; exact rfl; exact rfl; rotate_left 3; exact rfl; exact rfl; rotate_right 3; kernel_rfl; kernel_rfl; kernel_rfl; (apply Ok1.load; exact rfl; (apply Ld.ownk; exact rfl; exact rfl; (focus ((repeat' (first | exact At.head | apply At.tail)); done)); exact rfl)))) <;> (apply A.one 7; kernel_rfl; exact rfl; (((apply R.isG; apply R.guard_run; exact rfl; exact rfl; (apply R.callP rfl rfl rfl hof)))); apply R.nil; refine ⟨?_, ?_⟩; (focus ((repeat' (first | exact trivial | (refine ⟨?_, ?_⟩; (focus ((repeat' (first | exact At.head | apply At.tail)); done)))))))) <;> ((apply A.takeG 9; exact rfl; exact rfl; rotate_left 3; exact rfl; exact rfl; rotate_right 3; kernel_rfl; kernel_rfl; kernel_rfl; (apply Ok1.eqlFq2 (q := true); (iterate 7 exact rfl); exact ⟨fun _ => rfl, fun _ => rfl⟩))) <;> (apply A.take 10; exact rfl; exact rfl; kernel_rfl; kernel_rfl; kernel_rfl; (apply Ok1.pick_t; exact rfl; exact rfl)) <;> (apply A.take 11; exact rfl; exact rfl; kernel_rfl; kernel_rfl; kernel_rfl; (apply Ok1.assign; exact rfl)) <;> (apply A.done; kernel_rfl))) | apply T.seq | apply T.region | apply T.skip | apply T.exit | apply T.ret | (apply T.cond_f; exact rfl)))
              all_goals (apply RetOk.t; exact rfl)
              all_goals rfl
            · rw [decide_eq_false hV] at hrr
              obtain ⟨rfl, rfl⟩ := hD2 hV
              rw [e1, hz0]
              repeat' (first | (apply R.is1; first | (apply R.isBin; (apply R.pure; exact rfl; first | (apply Ok1.eqlFq2 (q := true); (iterate 7 exact rfl); exact ⟨fun _ => rfl, fun _ => rfl⟩) | (apply Ok1.lss_f; exact rfl; exact rfl; omega) | (apply Ok1.eql_t; exact rfl; exact rfl; omega))) | (apply R.isCall; first | apply R.callP rfl rfl rfl hrr | (apply R.callE (vs := []); (iterate 3 exact rfl); exact Ext.none _; intro w1 hw1; exact hkn w1; rintro v Lo ⟨rfl, rfl⟩)) | (apply R.pure; exact rfl; first | (apply Ok1.move; exact rfl) | (apply Ok1.fieldAddr; (iterate 5 exact rfl)) | (apply Ok1.load; exact rfl; (apply Ld.ownk; exact rfl; exact rfl; (focus ((repeat' (first | exact At.head | apply At.tail)); done)); exact rfl)) | (apply Ok1.assign; exact rfl) | (apply Ok1.build; (iterate 5 exact rfl)) | (apply Ok1.pick_t; exact rfl; exact rfl) | (apply Ok1.not_f; exact rfl))) | (apply R.isG; (apply R.guard_run; exact rfl; exact rfl)) | apply R.nil | (apply T.is; first | apply T.seq | apply T.region | apply T.exit | apply T.ret | (apply T.cond_t; exact rfl) | (apply T.cond_f; exact rfl)))
              (apply RetOk.t; exact rfl)
              rfl
end Go.Proofs.YtligpachgcmkcaaGreat
set_option linter.unusedSimpArgs false
set_option linter.unusedVariables false
namespace Go.Proofs.YtligpachgcmkcaaGreat
open Go.RowKit Go.Shelf
set_option maxRecDepth 100000
theorem digs_ok (zs : List Pi) (hz : zs.length = 4) (xv xp : List Int) (hxv : xv.length = 4) (hxp : xp.length = 8) (hxb : Byt xp) (p : Option Addr) (cap : Nat) (bs : List Int) (hbb : Byt bs) (hcap : bs.length ≤ cap) (w : World) (hr : ∀ z ∈ zs, RdSl w z.p iV z.xs ∧ z.xs.length ≤ z.cap) (hp : RdSl w p u8V bs) :
    CallW Tryz.prog 3 [.agg ⟨fl Pi.v zs⟩, .agg ⟨dgV xv xp⟩, .slice p bs.length cap] w fun v _ => v = .bool true := by
  have hfp : (fl Pi.v zs).length = 4 := by rw [fl_pi, List.length_map, hz]
  have hmk := fun w1 (hc : Chg [] w w1) => make9_ok zs hz w1 fun z h => ⟨(hr z h).1.chg' hc (fun _ => Off.nil _), (hr z h).2⟩
  have htail := dig_tail w p (min bs.length 30) cap (bs.take (min bs.length 30)) (by rw [List.length_take]; omega) (by omega) (fun y hy => hbb y (List.mem_of_mem_take hy)) (hp.pre u8V_len _)
  have hvm := vmake_ok
  have htl : tabV.length = 72 := rfl
  have hto : tabV.all Value.oneCell' = true := by decide +kernel
  have hxl := dg_len hxv hxp
  have hx1 := dg_one xv xp
  have hx4 : subE (dgV xv xp) 0 4 = some (iis xv) := subE_app _ _ (by rw [iis_len, hxv])
  refine enterW (tb := tb) Tryz.func3 rfl Tryz.ntmps3 rfl ?_
  repeat' (first | (apply R.is1; first | (apply R.isCall; (apply R.callE (vs := [.agg ⟨fl Pi.v zs⟩]); (iterate 3 exact rfl); exact Ext.none _; intro w1 hw1; exact hmk w1 hw1.chg; rintro v Lo ⟨bx, gs, bm, ms, rfl, hg, hm, hlm, hlo, h40, rfl⟩)) | (apply R.pure; exact rfl; first | (apply Ok1.load; exact rfl; (apply Ld.ownk; exact rfl; exact rfl; (focus ((repeat' (first | exact At.head | apply At.tail)); done)); exact subE_all hfp)) | (apply Ok1.move; exact rfl) | (apply Ok1.assign; exact rfl) | (apply Ok1.extract; exact rfl; exact rfl)) | (apply R.box; (iterate 3 exact rfl); intro)) | apply R.nil | (apply T.is; first | (apply T.stop1 2) | apply T.seq | apply T.region))
  rename_i b3 b4
  refine ⟨?_⟩
  have hof := fun w1 hs => dOf_ok bx gs hg w1 hs
  have hrof := fun w1 hs => dof9_ok bm ms hm (hlm ▸ hlo) w1 hs
  rw [hlm] at hrof
  have hul : ((lgs gs).map fun x => (x.length : Int)).length = 4 := by rw [List.length_map, lgs, List.length_map, hg.len]
  have hp8 : ((shaI (prI (lgs gs))).take 8).length = 8 := by rw [List.length_take, sha_len]; rfl
  have hsr : ∀ {w0 w1 : World} {S : List Nat} {L : Lst}, Hp w0 S L w1 → (∀ x ∈ SetL bx gs, x ∈ L) → SetR w1 bx gs := fun h1 h2 => SetR.of hg h1 h2
  have hdr : ∀ {w0 w1 : World} {S : List Nat} {L : Lst}, Hp w0 S L w1 → (∀ x ∈ DSL bm ms, x ∈ L) → DSR w1 bm ms := fun h1 h2 => DSR.of hm h1 h2
  have hal := fun vs' p8' h1 h2 w1 hs => alike_gen (.pointer (some ⟨bx, 0, none⟩)) _ _ vs' p8' hul hp8 h1 h2 w1 (fun w2 hc => hof w2 (SetR.chg hs hc))
  generalize (lgs gs).map (fun x => (x.length : Int)) = us at *
  generalize (shaI (prI (lgs gs))).take 8 = ps at *
  have hal1 := fun w1 hs => hal us ps hul hp8 w1 hs
  have hal2 := fun w1 hs => hal xv xp hxv hxp w1 hs
  rw [decide_eq_true ⟨rfl, rfl⟩] at hal1
  obtain ⟨q, hq⟩ : ∃ q, decide (us = xv ∧ ps = xp) = q := ⟨_, rfl⟩
  have hq2 : dgV xv xp = dgV us ps ↔ q = true := by
    rw [← hq, decide_eq_true_iff, dg_inj (by rw [hxv, hul])]
    exact ⟨fun h => ⟨h.1.symm, h.2.symm⟩, fun h => ⟨h.1.symm, h.2.symm⟩⟩
  rw [hq] at hal2
  have hdl := dg_len hul hp8
  have hdo := dg_one us ps
  have hfx := dg_flat hxv hxp
  have hfd := dg_flat hul hp8
  have hto9 := to9_ok xv xp hxv hxp
  have hof9 := of9_ok us ps hul hp8
  have hof9x := of9_ok xv xp hxv hxp
  rw [List.append_assoc]
  generalize hLS : SetL bx gs = LS at *
  generalize hLM : DSL bm ms = LM at *
  clear hal hmk
  generalize hDX : dgV xv xp = DX at *
  generalize hDU : dgV us ps = DU at *
  repeat' (first | (apply R.is1; first | (apply R.isCall; first | apply R.callP rfl rfl rfl hvm | (apply R.callV (vs := [.pointer (some ⟨bx, 0, none⟩)]); (iterate 3 exact rfl); intro w1 hw1; (apply hof w1; apply hsr hw1; apply Ext.mem; (focus ((repeat' (first | exact Ext.here _ _ | apply Ext.cons)); done)))) | (apply R.pure; exact rfl; first | (apply Ok1.lenS; (iterate 3 exact rfl)) | (apply Ok1.min2; exact rfl; exact rfl))) | (apply R.pure; exact rfl; first | (apply Ok1.preR (i := min bs.length 30); (iterate 4 exact rfl); (have : ((min bs.length 30 : Nat) : Int) = min (bs.length : Int) 30 := by omega); rw [this]; exact rfl; omega) | (apply Ok1.move; exact rfl) | (apply Ok1.assign; exact rfl)) | (apply R.alloc; (iterate 3 exact rfl); intro)) | (apply R.is0; first | (apply R.store; (iterate 4 exact rfl); exact htl; exact hto; exact Upd.head; exact setE_all (by rw [htl]; rfl)) | (apply R.store; (iterate 4 exact rfl); exact hdl; exact hdo; exact Upd.head; exact setE_all (by rw [hdl]; rfl))) | apply R.nil | (apply T.is; first | (apply T.stop 5) | apply T.seq | apply T.region))
  rename_i b9 b10
  refine ⟨?_⟩
  refine T.weakK (σ' := [(2, .slice p (min bs.length 30) cap), (4, .pointer (some ⟨b4, 0, none⟩)), (7, .pointer (some ⟨bx, 0, none⟩)), (8, .pointer (some ⟨bm, 0, none⟩)), (9, .pointer (some ⟨b9, 0, none⟩)), (10, .pointer (some ⟨b10, 0, none⟩))]) (L' := (b4, .cells ⟨DX⟩ 27 (0, 0)) :: (b9, .cells ⟨tabV⟩ 37 (0, 0)) :: (b10, .cells ⟨DU⟩ 41 (0, 0)) :: (LS ++ LM)) ?_ (by (focus ((repeat' (first | exact Ext.one _ _ | exact Ext.here _ _ | apply Keep.cons | apply Keep.app | apply Keep.last | apply Ext.cons | apply Ext.app)); done))) ⟨rfl, rfl, rfl, rfl, rfl, rfl, trivial⟩
  generalize tabV = TV at *
  repeat' ((apply T.is; first | (apply T.stop1 7) | (apply T.drawC (id := 5) [0,1,2] (by decide); (((apply A.take 0; exact rfl; exact rfl; kernel_rfl; kernel_rfl; kernel_rfl; (apply Ok1.load; exact rfl; (apply Ld.ownk; exact rfl; exact rfl; (focus ((repeat' (first | exact At.head | apply At.tail)); done)); exact subE_all hdl))); refine A.cast (listed' := #[true, false, false, false, false, false, false, false, false, false, false, false, false, false, false, false, false, false, false, false, false, false, false, false]) (by kernel_rfl) ?_) <;> ((apply A.take 2; exact rfl; exact rfl; kernel_rfl; kernel_rfl; kernel_rfl; (apply Ok1.load; exact rfl; (apply Ld.ownk; exact rfl; exact rfl; (focus ((repeat' (first | exact At.head | apply At.tail)); done)); exact subE_all htl))); refine A.cast (listed' := #[true, false, true, false, false, false, false, false, false, false, false, false, false, false, false, false, false, false, false, false, false, false, false, false]) (by kernel_rfl) ?_) <;> ((apply A.take 3; exact rfl; exact rfl; kernel_rfl; kernel_rfl; kernel_rfl; (apply Ok1.move; exact rfl)); refine A.cast (listed' := #[true, false, true, true, false, false, false, false, false, false, false, false, false, false, false, false, false, false, false, false, false, false, false, false]) (by kernel_rfl) ?_) <;> (apply A.one 1; kernel_rfl; exact rfl; ((apply R.callP rfl rfl rfl hof9)); apply R.nil; refine ⟨?_, ?_⟩; (focus ((repeat' (first | exact trivial | (refine ⟨?_, ?_⟩; (focus ((repeat' (first | exact At.head | apply At.tail)); done)))))))) <;> (apply A.one 4; kernel_rfl; exact rfl; (((apply R.callV (vs := [.agg ⟨TV⟩, .pointer (some ⟨bm, 0, none⟩)]); (iterate 3 exact rfl); intro w1 hw1; (apply hrof w1; apply hdr hw1; apply Ext.mem; (focus ((repeat' (first | exact Ext.all _ | apply Ext.cons | apply Ext.app)); done)))))); apply R.nil; refine ⟨?_, ?_⟩; (focus ((repeat' (first | exact trivial | (refine ⟨?_, ?_⟩; (focus ((repeat' (first | exact At.head | apply At.tail)); done)))))))) <;> (((apply A.take 5; exact rfl; exact rfl; kernel_rfl; kernel_rfl; kernel_rfl; (apply Ok1.neqFq2 (q := true); (iterate 5 exact rfl); exact hfd; exact hfd; exact ⟨fun _ => rfl, fun _ => rfl⟩))); refine A.cast (listed' := #[true, true, true, true, true, true, false, false, false, false, false, false, false, false, false, false, false, false, false, false, false, false, false, false]) (by kernel_rfl) ?_) <;> ((apply A.take 6; exact rfl; exact rfl; kernel_rfl; kernel_rfl; kernel_rfl; (apply Ok1.move; exact rfl)); refine A.cast (listed' := #[true, true, true, true, true, true, true, false, false, false, false, false, false, false, false, false, false, false, false, false, false, false, false, false]) (by kernel_rfl) ?_) <;> (((apply A.takeG 7; exact rfl; exact rfl; rotate_left 3; exact rfl; exact rfl; rotate_right 3; kernel_rfl; kernel_rfl; kernel_rfl; (apply Ok1.move; exact rfl))); refine A.cast (listed' := #[true, true, true, true, true, true, true, true, false, false, false, false, false, false, false, false, false, false, false, false, false, false, false, false]) (by kernel_rfl) ?_) <;> (((apply A.takeG 8; exact rfl; exact rfl; rotate_left 3; exact rfl; exact rfl; rotate_right 3; kernel_rfl; kernel_rfl; kernel_rfl; (apply Ok1.load; exact rfl; (apply Ld.ownk; exact rfl; exact rfl; (focus ((repeat' (first | exact At.head | apply At.tail)); done)); exact subE_all hdl)))); refine A.cast (listed' := #[true, true, true, true, true, true, true, true, true, false, false, false, false, false, false, false, false, false, false, false, false, false, false, false]) (by kernel_rfl) ?_) <;> (apply A.one 9; kernel_rfl; exact rfl; (((apply R.isG; apply R.guard_run; exact rfl; exact rfl; ((apply R.callV (vs := [.pointer (some ⟨bx, 0, none⟩), .agg ⟨DU⟩]); (iterate 3 exact rfl); intro w1 hw1; (apply hal1 w1; apply hsr hw1; apply Ext.mem; (focus ((repeat' (first | exact Ext.here _ _ | apply Ext.cons)); done)))))))); apply R.nil; refine ⟨?_, ?_⟩; (focus ((repeat' (first | exact trivial | (refine ⟨?_, ?_⟩; (focus ((repeat' (first | exact At.head | apply At.tail)); done)))))))) <;> (((apply A.takeG 10; exact rfl; exact rfl; rotate_left 3; exact rfl; exact rfl; rotate_right 3; kernel_rfl; kernel_rfl; kernel_rfl; (apply Ok1.not_t; exact rfl))); refine A.cast (listed' := #[true, true, true, true, true, true, true, true, true, true, true, false, false, false, false, false, false, false, false, false, false, false, false, false]) (by kernel_rfl) ?_) <;> ((apply A.take 11; exact rfl; exact rfl; kernel_rfl; kernel_rfl; kernel_rfl; (apply Ok1.pick_f; exact rfl; exact rfl)); refine A.cast (listed' := #[true, true, true, true, true, true, true, true, true, true, true, true, false, false, false, false, false, false, false, false, false, false, false, false]) (by kernel_rfl) ?_) <;> ((apply A.take 12; exact rfl; exact rfl; kernel_rfl; kernel_rfl; kernel_rfl; (apply Ok1.move; exact rfl)); refine A.cast (listed' := #[true, true, true, true, true, true, true, true, true, true, true, true, true, false, false, false, false, false, false, false, false, false, false, false]) (by kernel_rfl) ?_) <;> (((apply A.takeG 13; exact rfl; exact rfl; rotate_left 3; exact rfl; exact rfl; rotate_right 3; kernel_rfl; kernel_rfl; kernel_rfl; (apply Ok1.move; exact rfl))); refine A.cast (listed' := #[true, true, true, true, true, true, true, true, true, true, true, true, true, true, false, false, false, false, false, false, false, false, false, false]) (by kernel_rfl) ?_) <;> (((apply A.takeG 14; exact rfl; exact rfl; rotate_left 3; exact rfl; exact rfl; rotate_right 3; kernel_rfl; kernel_rfl; kernel_rfl; (apply Ok1.load; exact rfl; (apply Ld.ownk; exact rfl; exact rfl; exact At.head; exact subE_all hxl)))); refine A.cast (listed' := #[true, true, true, true, true, true, true, true, true, true, true, true, true, true, true, false, false, false, false, false, false, false, false, false]) (by kernel_rfl) ?_) <;> (((apply A.takeG 17; exact rfl; exact rfl; rotate_left 3; exact rfl; exact rfl; rotate_right 3; kernel_rfl; kernel_rfl; kernel_rfl; (apply Ok1.load; exact rfl; (apply Ld.ownk; exact rfl; exact rfl; exact At.head; exact subE_all hxl)))); refine A.cast (listed' := #[true, true, true, true, true, true, true, true, true, true, true, true, true, true, true, false, false, true, false, false, false, false, false, false]) (by kernel_rfl) ?_) <;> (((apply A.takeG 18; exact rfl; exact rfl; rotate_left 3; exact rfl; exact rfl; rotate_right 3; kernel_rfl; kernel_rfl; kernel_rfl; (apply Ok1.load; exact rfl; (apply Ld.ownk; exact rfl; exact rfl; (focus ((repeat' (first | exact At.head | apply At.tail)); done)); exact subE_all htl)))); refine A.cast (listed' := #[true, true, true, true, true, true, true, true, true, true, true, true, true, true, true, false, false, true, true, false, false, false, false, false]) (by kernel_rfl) ?_) <;> (((apply A.takeG 19; exact rfl; exact rfl; rotate_left 3; exact rfl; exact rfl; rotate_right 3; kernel_rfl; kernel_rfl; kernel_rfl; (apply Ok1.move; exact rfl))); refine A.cast (listed' := #[true, true, true, true, true, true, true, true, true, true, true, true, true, true, true, false, false, true, true, true, false, false, false, false]) (by kernel_rfl) ?_) <;> (apply A.one 15; kernel_rfl; exact rfl; (((apply R.isG; apply R.guard_run; exact rfl; exact rfl; (apply R.callP rfl rfl rfl hto9)))); apply R.nil; refine ⟨?_, ?_⟩; (focus ((repeat' (first | exact trivial | (refine ⟨?_, ?_⟩; (focus ((repeat' (first | exact At.head | apply At.tail)); done)))))))) <;> (apply A.one 16; kernel_rfl; exact rfl; (((apply R.isG; apply R.guard_run; exact rfl; exact rfl; ((apply R.callV (vs := [.pointer (some ⟨bx, 0, none⟩), .agg ⟨DX⟩]); (iterate 3 exact rfl); intro w1 hw1; (apply hal2 w1; apply hsr hw1; apply Ext.mem; (focus ((repeat' (first | exact Ext.here _ _ | apply Ext.cons)); done)))))))); apply R.nil; refine ⟨?_, ?_⟩; (focus ((repeat' (first | exact trivial | (refine ⟨?_, ?_⟩; (focus ((repeat' (first | exact At.head | apply At.tail)); done)))))))) <;> (apply A.one 20; kernel_rfl; exact rfl; (((apply R.isG; apply R.guard_run; exact rfl; exact rfl; ((apply R.callV (vs := [.agg ⟨TV⟩, .pointer (some ⟨bm, 0, none⟩)]); (iterate 3 exact rfl); intro w1 hw1; (apply hrof w1; apply hdr hw1; apply Ext.mem; (focus ((repeat' (first | exact Ext.all _ | apply Ext.cons | apply Ext.app)); done)))))))); apply R.nil; refine ⟨?_, ?_⟩; (focus ((repeat' (first | exact trivial | (refine ⟨?_, ?_⟩; (focus ((repeat' (first | exact At.head | apply At.tail)); done)))))))) <;> (((apply A.takeG 21; exact rfl; exact rfl; rotate_left 3; exact rfl; exact rfl; rotate_right 3; kernel_rfl; kernel_rfl; kernel_rfl; (apply Ok1.eqlFq2 (q := q); (iterate 5 exact rfl); exact hfx; exact hfd; exact hq2))); refine A.cast (listed' := #[true, true, true, true, true, true, true, true, true, true, true, true, true, true, true, true, true, true, true, true, true, true, false, false]) (by kernel_rfl) ?_) <;> (((apply A.takeG 22; exact rfl; exact rfl; rotate_left 3; exact rfl; exact rfl; rotate_right 3; kernel_rfl; kernel_rfl; kernel_rfl; (apply Ok1.neqB (b := q); (iterate 4 exact rfl)))); refine A.cast (listed' := #[true, true, true, true, true, true, true, true, true, true, true, true, true, true, true, true, true, true, true, true, true, true, true, false]) (by kernel_rfl) ?_) <;> ((apply A.take 23; exact rfl; exact rfl; kernel_rfl; kernel_rfl; kernel_rfl; (apply Ok1.pick_f; exact rfl; exact rfl)); refine A.cast (listed' := #[true, true, true, true, true, true, true, true, true, true, true, true, true, true, true, true, true, true, true, true, true, true, true, true]) (by kernel_rfl) ?_) <;> (apply A.done; kernel_rfl))) | apply T.seq | apply T.skip | (apply T.cond_f; exact rfl)))
  all_goals refine ⟨?_⟩
  refine T.weakK (σ' := [(2, .slice p (min bs.length 30) cap), (4, .pointer (some ⟨b4, 0, none⟩))]) (L' := [(b4, .cells ⟨DX⟩ 27 (0, 0))]) ?_ (by (focus ((repeat' (first | exact Keep.nil _ | exact Ext.one _ _ | apply Keep.cons)); done))) ⟨rfl, rfl, trivial⟩
  clear hof hrof hsr hdr hal1 hal2 hof9 hfd hdl hdo hq2 hq hLS hLM hDU
  have hdbad := dbad_ok xv xp hxv hxp
  have hdby := fun hV w1 => dbytes9_ok xv xp hxv hxp hV hxb w1
  have hrby := fun hV w1 => rbytes9_ok xv xp hxv hxp hV w1
  rw [hDX] at hdbad hdby hrby
  obtain ⟨x0, x1, x2, x3, q0, q1, q2, q3, q4, q5, q6, q7, rfl, rfl⟩ := dgx hxv hxp
  have hrr := rvright_ok x0 x1 x2 x3
  by_cases hV : VR [x0, x1, x2, x3]
  · rw [decide_eq_true hV] at hrr
    have hel : (encG [x0, x1, x2, x3] [q0, q1, q2, q3, q4, q5, q6, q7]).length = 16 := rfl
    have heb := encG_byt (vs := [x0, x1, x2, x3]) hxb
    have hrdS : ∀ s : Rs, s.xs = encG [x0, x1, x2, x3] [q0, q1, q2, q3, q4, q5, q6, q7] ++ [7] → s.e = 0 → rdD s = ([x0, x1, x2, x3], [q0, q1, q2, q3, q4, q5, q6, q7], 0) ∧ s.rdF.xs = [7] := fun s h1 h2 => by
      obtain ⟨e1, e2, e3⟩ := enc_read hxv hxp hV 7
      obtain ⟨g1, g2, g3⟩ := rd_long ⟨h1, h2⟩ (fun y hy => by
        rcases List.mem_append.1 hy with h | h
        · exact heb y h
        · rw [List.mem_singleton.1 h]; decide) (by rw [List.length_append, hel]; decide)
      rw [e1] at g2
      rw [e2] at g3
      rw [e3] at g1
      refine ⟨?_, g1.xs⟩
      unfold rdD
      rw [g1.e, if_neg (fun h => h rfl), g2, if_pos hV, g3]
    replace hdby := hdby hV
    replace hrby := hrby hV
    generalize hxvG : [x0, x1, x2, x3] = xv at *
    generalize hxpG : [q0, q1, q2, q3, q4, q5, q6, q7] = xp at *
    generalize encG xv xp = C at *
    have hu1 := u8s_one C
    have hc7 : u8s C ++ [Value.int .u8 7] = u8s (C ++ [7]) := by rw [u8s_app]; rfl
    have hl17 : (C ++ [7]).length = 16 + 1 := by rw [List.length_append, hel]; rfl
    have hb17 : Byt (C ++ [7]) := fun y hy => by
      rcases List.mem_append.1 hy with h | h
      · exact heb y h
      · rw [List.mem_singleton.1 h]; decide
    have hnw := fun b cap w1 hp => rnewr_ok (some ⟨b, 0, none⟩) (16 + 1) cap (C ++ [7]) hl17.symm (by decide) hb17 w1 hp
    rw [if_pos (by decide), if_pos (by decide)] at hnw
    have hrd := fun br s w1 h => read9_ok br s w1 h
    repeat' (first | (apply R.is1; first | (apply R.buildSlice0; (iterate 4 exact rfl); intro b0) | (apply R.isBin; (apply R.pure; exact rfl; first | (apply Ok1.neqB (b := true); (iterate 4 exact rfl)) | (apply Ok1.eql_t; exact rfl; exact rfl; omega) | (apply Ok1.neq_f; exact rfl; exact rfl; omega))) | (apply R.isCall; first | (apply R.callP rfl rfl rfl hto9) | (apply R.callP rfl rfl rfl hrr) | (apply R.callE (vs := [.agg ⟨DX⟩]); (iterate 3 exact rfl); exact Ext.none _; intro w1 hw1; exact hdby w1; rintro v Lo ⟨ov, hov, rfl, rfl⟩; rw [hel] at hov; rw [hel]) | (apply R.appendSl (ov := some (b0, 0, [])) (n := 0) (old := []) (ov2 := ov) (m := 16) (news := u8s C) (e3 := 5); (iterate 12 exact rfl); exact ⟨rfl, rfl⟩; exact hov; (focus ((repeat' (exact Ext.one _ _)); done)); exact Ext.mem (by (focus ((repeat' (first | exact Ext.here _ _ | apply Ext.cons)); done))); exact hu1; omega; intro ov1 hov1; rw [Nat.zero_add] at hov1; rw [Nat.zero_add]; rw [List.nil_append] at hov1; rw [List.nil_append]) | ((apply R.append1; (iterate 12 exact rfl); (focus ((repeat' (first | exact OwnAt.mid hov1 | apply OwnAt.tail)); done)); exact At.head; exact rfl; exact rfl; omega; omega; intro b2 j2 k2 hj2); have hov2 := OvOk.some (b := b2) hov1 (ys := [Value.int .u8 7]) (m := 1) rfl hj2; rw [hc7, ← hl17] at hov2; rw [hc7]; have hnw1 := hnw b2 (16 + 1 + j2)) | (apply R.callE (vs := [.slice (some ⟨b2, 0, none⟩) (16 + 1) (16 + 1 + j2)]); (iterate 3 exact rfl); exact Ext.none _; intro w1 hw1; exact hnw1 w1 (rdown hov2 hw1 (Ext.mem (by (focus ((repeat' (exact Ext.one _ _)); done))))); rintro v Lo ⟨br, s, M, rfl, hxs, hse, hso, rfl⟩; have hok9 := hso.ok' br; obtain ⟨hD9, hF9⟩ := hrdS s hxs hse; have hr9 := fun w1 h => hrd br s w1 h; rw [hD9] at hr9; simp only [hDX] at hr9; generalize s.rdF = F9 at *; generalize hL0 : s.L br = L0 at *; rw [List.append_assoc]; clear hrd hnw hnw1 hrdS; have hlft := fun w1 h => rleft_ok br F9 w1 h; have hm3 : (br, Obj.cells ⟨[.slice F9.q F9.xs.length F9.cap, .int .i64 F9.e]⟩ 80 (0, 0)) ∈ F9.L br := (by simp [Rs.L]); rw [hF9] at hlft hm3; rw [show (([(7 : Int)].length : Nat) : Int) = 1 from rfl] at hlft; generalize hLF : F9.L br = LF at *) | (apply R.callE (Li := L0) (vs := [.pointer (some ⟨br, 0, none⟩)]); (iterate 3 exact rfl); (focus ((repeat' (exact Ext.here _ _)); done)); intro w1 hw1; exact hr9 w1 (hok9 _ _ _ _ _ hw1 (by (focus ((repeat' (exact Ext.here _ _)); done))) (Ext.mem (by (focus ((repeat' (exact Ext.here _ _)); done))))); rintro v Lo ⟨rfl, hq⟩; rw [hq]; clear hq)) | (apply R.pure; exact rfl; first | (apply Ok1.load; exact rfl; first | (apply Ld.ownk; exact rfl; exact rfl; (focus ((repeat' (first | exact At.head | apply At.right)); done)); exact subE_all hxl) | (apply Ld.ownk; exact rfl; exact rfl; (focus ((repeat' (first | exact At.head | apply At.right)); done)); exact hx4)) | (apply Ok1.move; exact rfl) | (apply Ok1.fieldAddr; (iterate 5 exact rfl)) | (apply Ok1.assign; exact rfl) | (apply Ok1.extract; exact rfl; exact rfl) | (apply Ok1.pick_f; exact rfl; exact rfl)) | (apply R.alloc; (iterate 3 exact rfl); intro) | (apply R.buildSlice; (iterate 12 exact rfl); intro)) | (apply R.is0; (apply R.store; (iterate 4 exact rfl); exact hxl; exact hx1; exact Upd.head; exact setE_all (by rw [hxl]; rfl))) | (apply R.isG; first | (apply R.guard_run; exact rfl; exact rfl) | (apply R.guard_not; (iterate 3 exact rfl)) | (apply R.guard_un; (iterate 3 exact rfl))) | apply R.nil | (apply T.is; first | apply T.seq | apply T.region | apply T.skip | (apply T.cond_t; exact rfl) | (apply T.cond_f; exact rfl)))
    rename_i by9
    have hsa := fun q1 c1 q2 c2 w1 h1 h2 => same_ok q1 q2 16 16 c1 c2 C C hel.symm hel.symm (by decide) w1 h1 h2
    rw [decide_eq_true rfl] at hsa
    have hovC : OvOk 1 ov C.length (u8s C) := by rw [hel]; exact hov
    refine T.weakK (σ' := [(2, .slice p (min bs.length 30) cap), (4, .pointer (some ⟨b4, 0, none⟩)), (11, .slice (ovp ov) 16 (ovc ov 16)), (13, .pointer (some ⟨br, 0, none⟩)), (14, .pointer (some ⟨by9, 0, none⟩)), (15, .int .i64 0)]) (L' := (b4, .cells ⟨DX⟩ 27 (0, 0)) :: (by9, .cells ⟨DX⟩ 41 (0, 0)) :: (LF ++ blkL 5 ov (u8s C))) ?_ (by (focus ((repeat' (first | exact Ext.one _ _ | exact Ext.here _ _ | apply Keep.cons | apply Keep.app | apply Keep.last | apply Ext.cons | apply Ext.app)); done))) ⟨rfl, rfl, slV_eq hov ▸ rfl, rfl, rfl, rfl, trivial⟩
    repeat' ((apply T.is; first | (apply T.stop1 15) | (apply T.drawC (id := 13) [0,1] (by decide); (((apply A.take 0; exact rfl; exact rfl; kernel_rfl; kernel_rfl; kernel_rfl; (apply Ok1.move; exact rfl)); refine A.cast (listed' := #[true, false, false, false, false, false, false, false, false, false, false, false, false, false, false, false, false, false, false, false, false, false, false, false, false]) (by kernel_rfl) ?_) <;> ((apply A.take 1; exact rfl; exact rfl; kernel_rfl; kernel_rfl; kernel_rfl; (apply Ok1.load; exact rfl; (apply Ld.ownk; exact rfl; exact rfl; exact At.head; exact subE_all hxl))); refine A.cast (listed' := #[true, true, false, false, false, false, false, false, false, false, false, false, false, false, false, false, false, false, false, false, false, false, false, false, false]) (by kernel_rfl) ?_) <;> (apply A.one 2; kernel_rfl; exact rfl; (((apply R.callE (vs := [.agg ⟨DX⟩]); (iterate 3 exact rfl); exact Ext.none _; intro w1 hw1; exact hrby w1; rintro v Lo ⟨ov8, hov8, rfl, rfl⟩; rw [slV_eq hov8, hel]))); apply R.nil; refine ⟨?_, ?_⟩; (focus ((repeat' (first | exact trivial | (refine ⟨?_, ?_⟩; (focus ((repeat' (first | exact At.head | apply At.tail | apply At.right)); done)))))))) <;> (apply A.one 3; kernel_rfl; exact rfl; (((apply R.callV (vs := [.slice (ovp ov) 16 (ovc ov 16), .slice (ovp ov8) 16 (ovc ov8 16)]); (iterate 3 exact rfl); intro w1 hw1; (apply hsa _ _ _ _ w1; (apply rdown hovC hw1; apply Ext.mem; (focus ((repeat' (first | exact Ext.all _ | apply Ext.cons | apply Ext.app)); done))); (apply rdown hov8 hw1; apply Ext.mem; (focus ((repeat' (exact Ext.here _ _)); done))))))); apply R.nil; refine ⟨?_, ?_⟩; (focus ((repeat' (first | exact trivial | (refine ⟨?_, ?_⟩; (focus ((repeat' (first | exact At.head | apply At.tail | apply At.right)); done)))))))) <;> ((apply A.take 4; exact rfl; exact rfl; kernel_rfl; kernel_rfl; kernel_rfl; (apply Ok1.not_t; exact rfl)); refine A.cast (listed' := #[true, true, true, true, true, false, false, false, false, false, false, false, false, false, false, false, false, false, false, false, false, false, false, false, false]) (by kernel_rfl) ?_) <;> ((apply A.take 5; exact rfl; exact rfl; kernel_rfl; kernel_rfl; kernel_rfl; (apply Ok1.move; exact rfl)); refine A.cast (listed' := #[true, true, true, true, true, true, false, false, false, false, false, false, false, false, false, false, false, false, false, false, false, false, false, false, false]) (by kernel_rfl) ?_) <;> (((apply A.takeG 6; exact rfl; exact rfl; rotate_left 3; exact rfl; exact rfl; rotate_right 3; kernel_rfl; kernel_rfl; kernel_rfl; (apply Ok1.move; exact rfl))); refine A.cast (listed' := #[true, true, true, true, true, true, true, false, false, false, false, false, false, false, false, false, false, false, false, false, false, false, false, false, false]) (by kernel_rfl) ?_) <;> (((apply A.takeG 7; exact rfl; exact rfl; rotate_left 3; exact rfl; exact rfl; rotate_right 3; kernel_rfl; kernel_rfl; kernel_rfl; (apply Ok1.lenS; (iterate 3 exact rfl)))); refine A.cast (listed' := #[true, true, true, true, true, true, true, true, false, false, false, false, false, false, false, false, false, false, false, false, false, false, false, false, false]) (by kernel_rfl) ?_) <;> (((apply A.takeG 8; exact rfl; exact rfl; rotate_left 3; exact rfl; exact rfl; rotate_right 3; kernel_rfl; kernel_rfl; kernel_rfl; (apply Ok1.neq_f; exact rfl; exact rfl; omega))); refine A.cast (listed' := #[true, true, true, true, true, true, true, true, true, false, false, false, false, false, false, false, false, false, false, false, false, false, false, false, false]) (by kernel_rfl) ?_) <;> ((apply A.take 9; exact rfl; exact rfl; kernel_rfl; kernel_rfl; kernel_rfl; (apply Ok1.pick_f; exact rfl; exact rfl)); refine A.cast (listed' := #[true, true, true, true, true, true, true, true, true, true, false, false, false, false, false, false, false, false, false, false, false, false, false, false, false]) (by kernel_rfl) ?_) <;> ((apply A.take 10; exact rfl; exact rfl; kernel_rfl; kernel_rfl; kernel_rfl; (apply Ok1.move; exact rfl)); refine A.cast (listed' := #[true, true, true, true, true, true, true, true, true, true, true, false, false, false, false, false, false, false, false, false, false, false, false, false, false]) (by kernel_rfl) ?_) <;> (((apply A.takeG 11; exact rfl; exact rfl; rotate_left 3; exact rfl; exact rfl; rotate_right 3; kernel_rfl; kernel_rfl; kernel_rfl; (apply Ok1.move; exact rfl))); refine A.cast (listed' := #[true, true, true, true, true, true, true, true, true, true, true, true, false, false, false, false, false, false, false, false, false, false, false, false, false]) (by kernel_rfl) ?_) <;> (((apply A.takeG 12; exact rfl; exact rfl; rotate_left 3; exact rfl; exact rfl; rotate_right 3; kernel_rfl; kernel_rfl; kernel_rfl; (apply Ok1.neq_f; exact rfl; exact rfl; omega))); refine A.cast (listed' := #[true, true, true, true, true, true, true, true, true, true, true, true, true, false, false, false, false, false, false, false, false, false, false, false, false]) (by kernel_rfl) ?_) <;> ((apply A.take 13; exact rfl; exact rfl; kernel_rfl; kernel_rfl; kernel_rfl; (apply Ok1.pick_f; exact rfl; exact rfl)); refine A.cast (listed' := #[true, true, true, true, true, true, true, true, true, true, true, true, true, true, false, false, false, false, false, false, false, false, false, false, false]) (by kernel_rfl) ?_) <;> ((apply A.take 14; exact rfl; exact rfl; kernel_rfl; kernel_rfl; kernel_rfl; (apply Ok1.move; exact rfl)); refine A.cast (listed' := #[true, true, true, true, true, true, true, true, true, true, true, true, true, true, true, false, false, false, false, false, false, false, false, false, false]) (by kernel_rfl) ?_) <;> (((apply A.takeG 15; exact rfl; exact rfl; rotate_left 3; exact rfl; exact rfl; rotate_right 3; kernel_rfl; kernel_rfl; kernel_rfl; (apply Ok1.load; exact rfl; (apply Ld.ownk; exact rfl; exact rfl; (focus ((repeat' (first | exact At.head | apply At.tail)); done)); exact subE_all hxl)))); refine A.cast (listed' := #[true, true, true, true, true, true, true, true, true, true, true, true, true, true, true, true, false, false, false, false, false, false, false, false, false]) (by kernel_rfl) ?_) <;> (((apply A.takeG 17; exact rfl; exact rfl; rotate_left 3; exact rfl; exact rfl; rotate_right 3; kernel_rfl; kernel_rfl; kernel_rfl; (apply Ok1.load; exact rfl; (apply Ld.ownk; exact rfl; exact rfl; exact At.head; exact subE_all hxl)))); refine A.cast (listed' := #[true, true, true, true, true, true, true, true, true, true, true, true, true, true, true, true, false, true, false, false, false, false, false, false, false]) (by kernel_rfl) ?_) <;> (apply A.one 16; kernel_rfl; exact rfl; (((apply R.isG; apply R.guard_run; exact rfl; exact rfl; ((apply R.callP rfl rfl rfl hof9x))))); apply R.nil; refine ⟨?_, ?_⟩; (focus ((repeat' (first | exact trivial | (refine ⟨?_, ?_⟩; (focus ((repeat' (first | exact At.head | apply At.tail | apply At.right)); done)))))))) <;> (((apply A.takeG 18; exact rfl; exact rfl; rotate_left 3; exact rfl; exact rfl; rotate_right 3; kernel_rfl; kernel_rfl; kernel_rfl; (apply Ok1.neqFq2 (q := true); (iterate 5 exact rfl); exact hfx; exact hfx; exact ⟨fun _ => rfl, fun _ => rfl⟩))); refine A.cast (listed' := #[true, true, true, true, true, true, true, true, true, true, true, true, true, true, true, true, true, true, true, false, false, false, false, false, false]) (by kernel_rfl) ?_) <;> ((apply A.take 19; exact rfl; exact rfl; kernel_rfl; kernel_rfl; kernel_rfl; (apply Ok1.pick_f; exact rfl; exact rfl)); refine A.cast (listed' := #[true, true, true, true, true, true, true, true, true, true, true, true, true, true, true, true, true, true, true, true, false, false, false, false, false]) (by kernel_rfl) ?_) <;> ((apply A.take 20; exact rfl; exact rfl; kernel_rfl; kernel_rfl; kernel_rfl; (apply Ok1.move; exact rfl)); refine A.cast (listed' := #[true, true, true, true, true, true, true, true, true, true, true, true, true, true, true, true, true, true, true, true, true, false, false, false, false]) (by kernel_rfl) ?_) <;> (((apply A.takeG 21; exact rfl; exact rfl; rotate_left 3; exact rfl; exact rfl; rotate_right 3; kernel_rfl; kernel_rfl; kernel_rfl; (apply Ok1.move; exact rfl))); refine A.cast (listed' := #[true, true, true, true, true, true, true, true, true, true, true, true, true, true, true, true, true, true, true, true, true, true, false, false, false]) (by kernel_rfl) ?_) <;> (apply A.one 22; kernel_rfl; exact rfl; (((apply R.isG; apply R.guard_run; exact rfl; exact rfl; ((apply R.callV (vs := [.pointer (some ⟨br, 0, none⟩)]); (iterate 3 exact rfl); intro w1 hw1; (apply hlft w1; apply hw1.get; apply Ext.memI9 hm3; (focus ((repeat' (first | exact Ext.here _ _ | apply Ext.cons | apply Ext.app)); done)))))))); apply R.nil; refine ⟨?_, ?_⟩; (focus ((repeat' (first | exact trivial | (refine ⟨?_, ?_⟩; (focus ((repeat' (first | exact At.head | apply At.tail | apply At.right)); done)))))))) <;> (((apply A.takeG 23; exact rfl; exact rfl; rotate_left 3; exact rfl; exact rfl; rotate_right 3; kernel_rfl; kernel_rfl; kernel_rfl; (apply Ok1.neq_f; exact rfl; exact rfl; omega))); refine A.cast (listed' := #[true, true, true, true, true, true, true, true, true, true, true, true, true, true, true, true, true, true, true, true, true, true, true, true, false]) (by kernel_rfl) ?_) <;> ((apply A.take 24; exact rfl; exact rfl; kernel_rfl; kernel_rfl; kernel_rfl; (apply Ok1.pick_f; exact rfl; exact rfl)); refine A.cast (listed' := #[true, true, true, true, true, true, true, true, true, true, true, true, true, true, true, true, true, true, true, true, true, true, true, true, true]) (by kernel_rfl) ?_) <;> (apply A.done; kernel_rfl))) | apply T.skip | (apply T.cond_f; exact rfl)))
    all_goals refine ⟨?_⟩
    all_goals refine T.weakK htail (Keep.nil _) ?_
    all_goals exact ⟨rfl, trivial⟩
  · rw [decide_eq_false hV] at hrr
    replace hdbad := hdbad hV
    generalize hxvG : [x0, x1, x2, x3] = xv at *
    generalize hxpG : [q0, q1, q2, q3, q4, q5, q6, q7] = xp at *
    repeat' (first | (apply R.is1; first | (apply R.isBin; (apply R.pure; exact rfl; first | (apply Ok1.neqB (b := false); (iterate 4 exact rfl)) | (apply Ok1.eql_f; exact rfl; exact rfl; omega) | (apply Ok1.neq_t; exact rfl; exact rfl; omega) | (apply Ok1.neq_f; exact rfl; exact rfl; omega))) | (apply R.isCall; first | (apply R.callP rfl rfl rfl hto9) | (apply R.callP rfl rfl rfl hrr) | (apply R.callP rfl rfl rfl hdbad) | (apply R.pure; exact rfl; (apply Ok1.lenS; (iterate 3 exact rfl)))) | (apply R.pure; exact rfl; first | (apply Ok1.load; exact rfl; first | (apply Ld.ownk; exact rfl; exact rfl; exact At.head; exact subE_all hxl) | (apply Ld.ownk; exact rfl; exact rfl; exact At.head; exact hx4)) | (apply Ok1.move; exact rfl) | (apply Ok1.fieldAddr; (iterate 5 exact rfl)) | (apply Ok1.assign; exact rfl) | (apply Ok1.extract; exact rfl; exact rfl) | (apply Ok1.pick_t; exact rfl; exact rfl) | (apply Ok1.pick_f; exact rfl; exact rfl))) | (apply R.isG; (apply R.guard_run; exact rfl; exact rfl)) | apply R.nil | (apply T.is; first | (apply T.stop1 15) | apply T.seq | apply T.region | apply T.skip | (apply T.cond_f; exact rfl)))
    all_goals refine ⟨?_⟩
    all_goals refine T.weakK htail (Keep.nil _) ?_
    all_goals exact ⟨rfl, trivial⟩
end Go.Proofs.YtligpachgcmkcaaGreat
set_option linter.unusedSimpArgs false
set_option linter.unusedVariables false
set_option linter.unusedSectionVars false
namespace Go.Proofs.YtligpachgcmkcaaGreat
open Go.RowKit Go.Shelf Go.ChangeShapes Go.WideShapes Go.Deep
/-- A cell of this kind, within its range. -/
def cellW : TK → Value → Prop
  | .int k, .int k' n => k' = k ∧ k.min ≤ n ∧ n ≤ k.max
  | .bool, .bool _ => True
  | .string, .string s => s.size ≤ maxLen
  | _, _ => False
def allW : List TK → List Value → Prop
  | [], [] => True
  | k :: ks, v :: vs => cellW k v ∧ allW ks vs
  | _, _ => False
theorem allW_append : ∀ {ks ls : List TK} {vs : List Value}, allW ks (vs.take ks.length) → allW ls (vs.drop ks.length) → allW (ks ++ ls) vs
  | [], ls, vs, _, h => by simpa using h
  | k :: ks, ls, [], h, _ => by simp [allW] at h
  | k :: ks, ls, v :: vs, h, h2 => by
    simp only [List.length_cons, List.take_succ_cons, List.drop_succ_cons, allW] at h h2
    exact ⟨h.1, allW_append h.2 h2⟩

section
variable {H : Type} {enc : TypeId × Value → H} {P : Program} {w : World} {base : Nat} {spare : Nat → Bool} {held : Bool}
theorem cells_of (w : World) {t sz : Nat} (h : ∀ w, (Go.sizeOf t).run P w = .ok sz w) : P.cellsOf t = sz := by
  have := h w
  simp only [Go.sizeOf, typeInfo, Sem.run_bind, Sem.run_pure] at this
  unfold Program.cellsOf
  cases hi : P.info? t with
  | none => simp [hi] at this
  | some i => simp [hi] at this; simp [this]
theorem trodFs {g : Nat → Option (List TK)} {n : Nat} {cs : List Value} (hg : ∀ t ks us x, g t = some ks → P.cellsOf t = ks.length → DataW.trod enc P w base spare held n t us = some x → allW ks us) :
    ∀ (fields : List Field) (fs : List (Nat × Nat × Nat)) (k : Nat) (ks : List TK), Flds P fields fs → flatFs g fs k = some ks → cs.length = k + ks.length → (∀ f ∈ fields, ∃ x, DataW.trod enc P w base spare held n f.type ((cs.drop f.offset).take (P.cellsOf f.type)) = some x) → allW ks (cs.drop k)
  | [], [], k, ks, _, h, hl, _ => by
    simp only [flatFs, Option.some.injEq] at h
    subst h
    rw [List.drop_eq_nil_of_le (by simp at hl; omega)]
    trivial
  | [], _ :: _, _, _, h, _, _, _ => h.elim
  | _ :: _, [], _, _, h, _, _, _ => h.elim
  | f :: fields, (t, off, sz) :: fs, k, ks, hF, h, hl, hx => by
    obtain ⟨e1, e2, e3, e4, e5⟩ := hF
    simp only [flatFs] at h
    split at h
    · cases h
    · rename_i hb
      have hb' := Nat.eq_of_beq_eq_true hb
      split at h
      · cases h
      · rename_i k1 hk1
        split at h
        · cases h
        · rename_i hl1
          have hl1' := Nat.eq_of_beq_eq_true hl1
          split at h
          · cases h
          · rename_i k2 hk2
            cases h
            obtain ⟨x, hx1⟩ := hx f List.mem_cons_self
            have hsz := cells_of w e3
            rw [e1, e2, hsz, hb'] at hx1
            have h1 := hg t k1 _ x hk1 (by rw [hsz, hl1']) hx1
            have h2 := trodFs hg fields fs (k + sz) k2 e5 hk2 (by rw [hl, List.length_append, hl1']; omega) fun f' hf' => hx f' (List.mem_cons_of_mem _ hf')
            refine allW_append (by rw [hl1']; exact h1) ?_
            rw [List.drop_drop, hl1']; exact h2
theorem allW_rep {k1 : List TK} : ∀ (m : Nat) (cs : List Value), cs.length = m * k1.length → (∀ i, i < m → allW k1 ((cs.drop (i * k1.length)).take k1.length)) → allW (repK k1 m) cs
  | 0, cs, hl, _ => by
    have : cs = [] := by cases cs; rfl; simp at hl
    subst this; trivial
  | m + 1, cs, hl, h => by
    have h0 := h 0 (by omega)
    simp only [Nat.zero_mul, List.drop_zero] at h0
    rw [Nat.add_mul] at hl
    refine allW_append h0 (allW_rep m _ (by rw [List.length_drop, hl]; omega) fun i hi => ?_)
    have := h (i + 1) (by omega)
    rwa [List.drop_drop, show k1.length + i * k1.length = (i + 1) * k1.length by rw [Nat.add_mul]; omega]
theorem trod_flat (tb : Tb P) : ∀ (n t : Nat) (ks : List TK), flatE tb n t = some ks → P.cellsOf t = ks.length → ∀ fuel cs x, DataW.trod enc P w base spare held fuel t cs = some x → allW ks cs
  | 0, _, _, h, _, _, _, _, _ => by cases h
  | n + 1, t, ks, h, hlen, fuel, cs, x, hx => by
    simp only [flatE] at h
    split at h
    · cases h
    · rename_i r hr
      have hgd := tb.get hr
      have his := hgd.is
      split at h
      · rename_i k hk
        rw [hk] at his
        cases h
        obtain ⟨m, rfl, _, hwf⟩ := DataW.trod_int his hx
        simp only [Lit.wf, Bool.and_eq_true, decide_eq_true_eq] at hwf
        exact ⟨⟨rfl, hwf⟩, trivial⟩
      · rename_i hk
        rw [hk] at his
        cases h
        obtain ⟨b, rfl, _⟩ := DataW.trod_bool his hx
        exact ⟨trivial, trivial⟩
      · rename_i hk
        rw [hk] at his
        cases h
        obtain ⟨s, rfl, _, hs⟩ := DataW.trod_string his hx
        exact ⟨hs, trivial⟩
      · rename_i fs hk
        rw [hk] at his
        obtain ⟨fields, h1, h2⟩ := his
        obtain ⟨xs, m, rfl, _, hcl, hxl, hf⟩ := DataW.trod_struct h1 hx
        have := trodFs (cs := cs) (n := m) (fun t ks us x hg hc ht => trod_flat tb n t ks hg hc m us x ht) fields.toList fs 0 ks h2 h (by rw [hcl, hlen]; omega) fun f hf' => by
          obtain ⟨i, hi, he⟩ := List.getElem_of_mem hf'
          have h3 : fields[i]? = some f := by rw [← he]; simp at hi; simp [hi]
          have h4 := hf i f h3
          simp at hi
          rw [List.getElem?_eq_getElem (by omega)] at h4
          exact ⟨_, h4⟩
        simpa using this
      · rename_i mm e hk
        rw [hk] at his
        split at h
        · cases h
        · rename_i re hre
          split at h
          · cases h
          · rename_i k1 hk1
            split at h
            · cases h
            · rename_i hl1
              have hl1' := Nat.eq_of_beq_eq_true hl1
              cases h
              obtain ⟨xs, m, rfl, _, hcl, hxl, hf⟩ := DataW.trod_array his hx
              have hce : P.cellsOf e = k1.length := by rw [cells_of w (tb.get hre).size, hl1']
              refine allW_rep mm cs (by rw [hcl, hlen, repK_len]) fun i hi => ?_
              have h4 := hf i hi
              rw [hce, List.getElem?_eq_getElem (by omega)] at h4
              exact trod_flat tb n e k1 hk1 hce m _ _ h4
      · cases h

/-- A slice of plain rows that came in. -/
theorem open_rows {α : Type} [Inhabited α] (f : α → List Value) (tb : Tb P) {t e : TypeId} {r re : TRow} {ks : List TK} {v : Value} {d : DataW H} {p : List MemPlace} (ht : tb.row t = some r) (hk : r.k = .slice e) (he : tb.row e = some re) (hf : flatE tb 8 e = some ks) (hl : Nat.beq ks.length re.size = true) (hpos : Nat.ble 1 ks.length = true)
    (hlen : ∀ a, (f a).length = ks.length) (dec : ∀ cs, allW ks cs → ∃ a, f a = cs)
    {rc : Reach} {b0 : Nat} (hv : Value.okWide P w rc b0 t v) (h : DataW.Trod enc P w base spare held t v d p) :
    ∃ (a : Option Addr) (rs : List α) (cap : Nat), v = .slice a rs.length cap ∧ RdSl w a f rs ∧ rs.length ≤ cap ∧ cap ≤ maxLen ∧ (∀ x ∈ rs, allW ks (f x)) ∧ (a = none → cap = 0) := by
  have hu : P.underlying t = some (.slice e) := by have := (tb.get ht).is; rw [hk] at this; exact this
  obtain ⟨a0, len0, cap0, rfl⟩ := okWide_slice hu hv
  obtain ⟨fuel, hfu⟩ := h
  have hce : P.cellsOf e = ks.length := by rw [cells_of w (tb.get he).size, Nat.eq_of_beq_eq_true hl]
  rcases open_slice hu hfu with ⟨h0, _⟩ | ⟨a, len, cap, m, n, D, Pl, hcs, hb, hlc, hm, hmm, hx, hi⟩
  · have : a0 = none ∧ len0 = 0 ∧ cap0 = 0 := by simpa [Value.cells] using h0
    obtain ⟨rfl, rfl, rfl⟩ := this
    exact ⟨none, [], 0, rfl, .inl rfl, by simp, by simp, by simp, fun _ => rfl⟩
  · have : a0 = some a ∧ len0 = len ∧ cap0 = cap := by simpa [Value.cells] using hcs
    obtain ⟨rfl, rfl, rfl⟩ := this
    have hle : len0 ≤ m := by rw [hmm]; split <;> omega
    obtain ⟨R, hR⟩ := choose_lt (α := α) (p := fun i x => w.cells? base (a.add (i * P.cellsOf e)) (P.cellsOf e) = some (f x) ∧ allW ks (f x)) (n := len0) (fun i hi' => by
      obtain ⟨cs', h1, h2⟩ := hi i (by omega)
      have h3 := trod_flat tb 8 e ks hf hce _ _ _ h2
      obtain ⟨x, hx⟩ := dec cs' h3
      exact ⟨x, by rw [hx]; exact h1, by rw [hx]; exact h3⟩)
    have hrl : ((List.range len0).map R).length = len0 := by simp
    refine ⟨some a, (List.range len0).map R, cap0, by rw [hrl], ?_, by rw [hrl]; exact hlc, hm, ?_, fun h => by cases h⟩
    · by_cases hz : len0 = 0
      · left; simp [hz]
      · right
        have hpos' := Nat.le_of_ble_eq_true hpos
        have hspot : a.spot = none := by
          obtain ⟨_, h2, h3⟩ := World.cells?_some (hR 0 (by omega)).1
          have h4 := h3 0 (by omega)
          rw [List.getElem?_eq_getElem (by omega)] at h4
          unfold World.cell? at h4
          cases a with | mk b o s =>
          cases s with
          | none => rfl
          | some s => 
            simp only [Addr.add] at h4
            split at h4
            · simp at h4
            · cases h4
        cases a with | mk b o s =>
        simp only at hspot
        subst hspot
        refine ⟨b, o, rfl, fun k hk' => ?_⟩
        rw [fl_len hlen, hrl] at hk'
        have hdm := Nat.div_add_mod k ks.length
        have hml := Nat.mod_lt k (show 0 < ks.length by omega)
        have hil : k / ks.length < len0 := by rw [Nat.div_lt_iff_lt_mul (by omega)]; exact hk'
        have hgi : ((List.range len0).map R)[k / ks.length]? = some (R (k / ks.length)) := by simp [hil]
        have h5 := fl_get hlen hgi hml
        rw [show k / ks.length * ks.length + k % ks.length = k by rw [Nat.mul_comm]; exact hdm] at h5
        rw [h5]
        obtain ⟨_, h2, h3⟩ := World.cells?_some (hR _ hil).1
        have h4 := h3 (k % ks.length) (by rw [hce]; exact hml)
        rw [Addr.add_none, Addr.add_none, hce] at h4
        rw [← h4, show o + k / ks.length * ks.length + k % ks.length = o + k by rw [Nat.add_assoc, show k / ks.length * ks.length + k % ks.length = k by rw [Nat.mul_comm]; exact hdm]]
    · intro x hx'
      obtain ⟨i, hi', rfl⟩ := List.mem_map.1 hx'
      exact (hR i (List.mem_range.1 hi')).2

/-- The arguments read behind the call as before: nothing that was there has changed. -/
theorem trodAll_stays {W W' : World} (hl : laidOutB P = true) (hb : Below W.heap.size W W') {sp : Nat → Bool} : ∀ {ts : List TypeId} {vs : List Value} {ds : List (DataW H)} {ps : List MemPlace}, (∀ t ∈ ts, P.readableRec t = true ∧ t < P.types.size) →
    DataW.TrodAll enc P W 0 (fun _ => true) true ts vs ds ps → (∀ p ∈ ps, p.block < W.heap.size ∧ sp p.block = true) → DataW.TrodAll enc P W' 0 sp true ts vs ds ps
  | [], vs, ds, ps, _, h, _ => by
    obtain ⟨rfl, rfl, rfl⟩ := trodAll_nil h
    exact trodAll_mk0
  | t :: ts, vs, ds, ps, hr, h, hp => by
    obtain ⟨v, vs', d, ds', p, q, rfl, rfl, rfl, h1, h2⟩ := trodAll_cons h
    have g := hr t List.mem_cons_self
    exact ⟨p, q, WideElems.Trod_stays hl g.1 g.2 h1 (fun x hx => hb.same (hp x (List.mem_append_left _ hx)).1) (fun x hx => (hp x (List.mem_append_left _ hx)).2),
      trodAll_stays hl hb (fun t' ht' => hr t' (List.mem_cons_of_mem _ ht')) h2 (fun x hx => hp x (List.mem_append_right _ hx)), rfl⟩
/-- A statement's last step: it returned true, and nothing that was there has changed. -/
theorem law_post {f : Func} {s : ChangeSpec} {apart fresh handsOn again : Bool} {W W' : World} {args : Array Value} {ds gs : List (DataW H)} {before : List MemPlace} {tt : TypeId}
    (hW : DataW.Whole enc P f.params.toList s.vars apart W args.toList ds gs before) (hv : s.vars = []) (hfn : s.fn H ds = { results := [.lit (.bool true)], args := ds, vars := [] })
    (hrt : f.resultTypes = #[tt]) (htt : P.underlying tt = some .bool) (hl : laidOutB P = true) (hread : ∀ t ∈ f.params.toList, P.readableRec t = true ∧ t < P.types.size) (hb : Below W.heap.size W W') :
    s.post enc P f apart fresh handsOn again W args (.bool true) W' := by
  have hlt : ∀ p ∈ before, p.block < W.heap.size := fun p hp => hW.lt p hp
  obtain ⟨p, q, hA, hV, rfl, hz, hn⟩ := hW
  have hV' := hV
  rw [hv] at hV'
  obtain ⟨rfl, rfl⟩ := trodVars_none hV'
  rw [List.append_nil] at hlt hz hn
  have key : ∀ sp : Nat → Bool, (∀ x ∈ p, sp x.block = true) → DataW.TrodAll enc P W' 0 sp true f.params.toList args.toList ds p := fun sp hs => trodAll_stays hl hb hread hA fun x hx => ⟨hlt x hx, hs x hx⟩
  have hres : ∀ (b : Nat) (sp : Nat → Bool) (hd : Bool), DataW.TrodAll enc P W' b sp hd f.resultTypes.toList ((Value.bool true).resultList f.resultTypes.size) [.lit (.bool true)] [] := fun b sp hd => by
    rw [hrt]; exact trodAll_mk1 (shut_bool htt true)
  refine ⟨ds, [], p, [], p, [], ⟨p, [], hA, hV, by simp, hz, hn⟩, ?_, ?_, ?_, World.keptBut_mono (fun x hx => ⟨hx, .inr (.inl hx)⟩) (hb.frame (· ∈ p)), fun _ => ⟨?_, ?_⟩⟩
  · rw [List.append_nil, hfn]; exact hres _ _ _
  · rw [List.append_nil, hfn]; exact key _ fun x hx => by simpa using hlt x hx
  · rw [List.append_nil, hfn, hv]; rfl
  · exact ok_one hrt rfl (okWide_bool_mk htt true)
  · refine ⟨.lit (.bool true) :: ds, [], p, ⟨p, [], ?_, by rw [hv]; rfl, by simp, ?_, hn⟩, fun x hx _ => hx⟩
    · rw [hrt]
      exact ⟨[], p, shut_bool htt true, key _ fun _ _ => rfl, rfl⟩
    · intro b off hx
      rw [hb.frozen (hlt _ hx)]
      exact hz b off hx
end
end Go.Proofs.YtligpachgcmkcaaGreat
set_option linter.unusedSimpArgs false
set_option linter.unusedVariables false
namespace Go.Proofs.YtligpachgcmkcaaGreat
open Go.ChangeShapes Go.WideShapes Go.ChangeAt Go.RowKit
set_option linter.unusedSectionVars false
open Go.Shelf Go.Deep
section
variable {H : Type} {enc : TypeId × Value → H} {P : Program} {w : World} {base : Nat} {spare : Nat → Bool} {held : Bool}
/-- What a type's cells may be, once they have been trodden. -/
def Opens (enc : TypeId × Value → H) (P : Program) (w : World) (base : Nat) (spare : Nat → Bool) (held : Bool) (t : TypeId) (Q : List Value → Prop) : Prop := ∀ fuel cs x, DataW.trod enc P w base spare held fuel t cs = some x → Q cs
theorem Opens.flat (tb : Tb P) {t : TypeId} {r : TRow} {ks : List TK} (ht : tb.row t = some r) (hf : flatE tb 8 t = some ks) (hl : Nat.beq ks.length r.size = true) : Opens enc P w base spare held t (allW ks) :=
  fun fuel cs x h => trod_flat tb 8 t ks hf (by rw [cells_of w (tb.get ht).size, Nat.eq_of_beq_eq_true hl]) fuel cs x h
/-- One field of a struct. -/
theorem Opens.field (tb : Tb P) {t ft off sz : Nat} {r : TRow} {fs : List (Nat × Nat × Nat)} {Q : List Value → Prop} (ht : tb.row t = some r) (hk : r.k = .strct fs) (i : Nat) (hi : fldE fs i = some (ft, off, sz)) (hQ : Opens enc P w base spare held ft Q) :
    Opens enc P w base spare held t fun cs => cs.length = r.size ∧ Q ((cs.drop off).take sz) := by
  intro fuel cs x hx
  have his := (tb.get ht).is
  rw [hk] at his
  obtain ⟨fields, h1, h2⟩ := his
  obtain ⟨xs, m, rfl, _, hcl, hxl, hf⟩ := DataW.trod_struct h1 hx
  obtain ⟨f, g1, g2, g3, g4, _⟩ := Flds.get h2 hi
  have g1' : fields[i]? = some f := by rw [← g1]; simp
  have h4 := hf i f g1'
  have hlt : i < xs.length := by rw [hxl]; exact (Array.getElem?_eq_some_iff.1 g1').1
  rw [List.getElem?_eq_getElem hlt, g2, g3, cells_of w g4] at h4
  exact ⟨by rw [hcl, cells_of w (tb.get ht).size], hQ _ _ _ h4⟩
theorem Opens.and {t : TypeId} {Q R : List Value → Prop} (h : Opens enc P w base spare held t Q) (h2 : Opens enc P w base spare held t R) : Opens enc P w base spare held t fun cs => Q cs ∧ R cs := fun f cs x hx => ⟨h f cs x hx, h2 f cs x hx⟩
theorem Opens.mono {t : TypeId} {Q R : List Value → Prop} (h : Opens enc P w base spare held t Q) (h2 : ∀ cs, Q cs → R cs) : Opens enc P w base spare held t R := fun f cs x hx => h2 _ (h f cs x hx)
/-- A slice whose elements open. -/
theorem Opens.slice {α : Type} [Inhabited α] (f : α → List Value) (Q : α → Prop) (tb : Tb P) {t e : TypeId} {r re : TRow} (ht : tb.row t = some r) (hk : r.k = .slice e) (he : tb.row e = some re) (hpos : Nat.ble 1 re.size = true)
    (hlen : ∀ a, (f a).length = re.size) (hE : Opens enc P w base spare held e fun cs => ∃ a, f a = cs ∧ Q a) :
    Opens enc P w base spare held t fun cs => ∃ (a : Option Addr) (rs : List α) (cap : Nat), cs = [.slice a rs.length cap] ∧ RdSl w a f rs ∧ rs.length ≤ cap ∧ cap ≤ maxLen ∧ (∀ x ∈ rs, Q x) ∧ (a = none → cap = 0) := by
  intro fuel cs x hfu
  have hu : P.underlying t = some (.slice e) := by have := (tb.get ht).is; rw [hk] at this; exact this
  have hce : P.cellsOf e = re.size := cells_of w (tb.get he).size
  rcases open_slice hu hfu with ⟨h0, _⟩ | ⟨a, len, cap, m, n, D, Pl, hcs, hb, hlc, hm, hmm, hx, hi⟩
  · exact ⟨none, [], 0, h0, .inl rfl, by simp, by simp, by simp, fun _ => rfl⟩
  · have hle : len ≤ m := by rw [hmm]; split <;> omega
    obtain ⟨R, hR⟩ := choose_lt (α := α) (p := fun i x => w.cells? base (a.add (i * P.cellsOf e)) (P.cellsOf e) = some (f x) ∧ Q x) (n := len) (fun i hi' => by
      obtain ⟨cs', h1, h2⟩ := hi i (by omega)
      obtain ⟨x, hx, hq⟩ := hE _ _ _ h2
      exact ⟨x, by rw [hx]; exact h1, hq⟩)
    have hrl : ((List.range len).map R).length = len := by simp
    refine ⟨some a, (List.range len).map R, cap, by rw [hrl]; exact hcs, ?_, by rw [hrl]; exact hlc, hm, ?_, fun h => by cases h⟩
    · by_cases hz : len = 0
      · left; simp [hz]
      · right
        have hpos' := Nat.le_of_ble_eq_true hpos
        have hspot : a.spot = none := by
          obtain ⟨_, h2, h3⟩ := World.cells?_some (hR 0 (by omega)).1
          have h4 := h3 0 (by omega)
          rw [List.getElem?_eq_getElem (by omega)] at h4
          unfold World.cell? at h4
          cases a with | mk b o s =>
          cases s with
          | none => rfl
          | some s =>
            simp only [Addr.add] at h4
            split at h4
            · simp at h4
            · cases h4
        cases a with | mk b o s =>
        simp only at hspot
        subst hspot
        refine ⟨b, o, rfl, fun k hk' => ?_⟩
        rw [fl_len hlen, hrl] at hk'
        have hdm := Nat.div_add_mod k re.size
        have hml := Nat.mod_lt k (show 0 < re.size by omega)
        have hil : k / re.size < len := by rw [Nat.div_lt_iff_lt_mul (by omega)]; exact hk'
        have hgi : ((List.range len).map R)[k / re.size]? = some (R (k / re.size)) := by simp [hil]
        have h5 := fl_get hlen hgi hml
        rw [show k / re.size * re.size + k % re.size = k by rw [Nat.mul_comm]; exact hdm] at h5
        rw [h5]
        obtain ⟨_, h2, h3⟩ := World.cells?_some (hR _ hil).1
        have h4 := h3 (k % re.size) (by rw [hce]; exact hml)
        rw [Addr.add_none, Addr.add_none, hce] at h4
        rw [← h4, show o + k / re.size * re.size + k % re.size = o + k by rw [Nat.add_assoc, show k / re.size * re.size + k % re.size = k by rw [Nat.mul_comm]; exact hdm]]
    · intro x hx'
      obtain ⟨i, hi', rfl⟩ := List.mem_map.1 hx'
      exact (hR i (List.mem_range.1 hi')).2
/-- An argument that opens. -/
theorem Opens.arg {t : TypeId} {Q : List Value → Prop} (hE : Opens enc P w base spare held t Q) {v : Value} {d : DataW H} {p : List MemPlace} (h : DataW.Trod enc P w base spare held t v d p) : Q v.cells.toList := by
  obtain ⟨fuel, hfu⟩ := h
  exact hE _ _ _ hfu
end
section
variable {H : Type} {enc : TypeId × Value → H} {P : Program} {w : World} {base : Nat} {spare : Nat → Bool} {held : Bool}
/-- An array that came in. -/
theorem Opens.argAr {t n e : Nat} {r : TRow} {Q : List Value → Prop} (tb : Tb P) (ht : tb.row t = some r) (hk : r.k = .arr n e) (hE : Opens enc P w base spare held t Q) {v : Value} {d : DataW H} {p : List MemPlace} {rc : Reach} {b0 : Nat} (hv : Value.okWide P w rc b0 t v) (h : DataW.Trod enc P w base spare held t v d p) : ∃ cs, v = .agg ⟨cs⟩ ∧ Q cs := by
  have his := (tb.get ht).is
  rw [hk] at his
  simp only [TK.is] at his
  simp only [Value.okWide, his] at hv
  obtain ⟨cs, rfl, _⟩ := hv
  exact ⟨cs.toList, rfl, hE.arg h⟩
end
end Go.Proofs.YtligpachgcmkcaaGreat
set_option linter.unusedSimpArgs false
set_option linter.unusedVariables false
namespace Go.Proofs.YtligpachgcmkcaaGreat
open Go.ChangeShapes Go.WideShapes Go.ChangeAt Go.RowKit
theorem Tryz.own : ownKnob Tryz.prog.godebug = none := by kernel_rfl
theorem Tryz.laidOut : laidOutB Tryz.prog = true := by kernel_rfl
section
variable {H : Type} {enc : TypeId × Value → H} {P : Program} {w : World} {base : Nat} {spare : Nat → Bool} {held : Bool}
theorem Opens.arr (tb : Tb P) {t e n : Nat} {r re : TRow} {Q : List Value → Prop} (ht : tb.row t = some r) (hk : r.k = .arr n e) (he : tb.row e = some re) (hQ : Opens enc P w base spare held e Q) :
    Opens enc P w base spare held t fun cs => cs.length = r.size ∧ ∀ i, i < n → Q ((cs.drop (i * re.size)).take re.size) := by
  intro fuel cs x hx
  have his := (tb.get ht).is
  rw [hk] at his
  obtain ⟨xs, m, rfl, _, hcl, hxl, hf⟩ := DataW.trod_array his hx
  refine ⟨by rw [hcl, cells_of w (tb.get ht).size], fun i hi => ?_⟩
  have h4 := hf i hi
  rw [cells_of w (tb.get he).size, List.getElem?_eq_getElem (by omega)] at h4
  exact hQ _ _ _ h4
end
section
variable {H : Type} {enc : TypeId × Value → H} {w : World} {base : Nat} {spare : Nat → Bool} {held : Bool}
theorem i_dec : ∀ cs, allW [.int .i64] cs → ∃ x : Int, iV x = cs := by
  rintro cs h
  match cs, h with
  | [.int k1 a], h =>
    obtain ⟨⟨rfl, _⟩, _⟩ := h
    exact ⟨a, rfl⟩
/-- A slice of integers. -/
def SlOp (w : World) (cs : List Value) : Prop := ∃ z : Pi, cs = [z.w] ∧ RdSl w z.p iV z.xs ∧ z.xs.length ≤ z.cap
theorem sl_opens : Opens enc Tryz.prog w base spare held 22 (SlOp w) :=
  (Opens.slice iV (fun _ => True) tb rfl rfl rfl rfl (fun _ => rfl) ((Opens.flat (ks := [.int .i64]) tb rfl rfl rfl).mono fun cs h => by obtain ⟨r, hr⟩ := i_dec cs h; exact ⟨r, hr, trivial⟩)).mono fun cs ⟨a, rs, cap, h1, h2, h3, _⟩ => ⟨⟨a, cap, rs⟩, h1, h2, h3⟩
theorem logs_opens : Opens enc Tryz.prog w base spare held 23 fun cs => ∃ l0 l1 l2 l3, cs = [Pi.w l0, Pi.w l1, Pi.w l2, Pi.w l3] ∧ ∀ z ∈ [l0, l1, l2, l3], RdSl w z.p iV z.xs ∧ z.xs.length ≤ z.cap := by
  refine (Opens.arr (enc := enc) (w := w) (base := base) (spare := spare) (held := held) tb (t := 23) rfl rfl rfl sl_opens).mono ?_
  rintro cs ⟨hl, h⟩
  match cs, hl with
  | [c0, c1, c2, c3], _ =>
    obtain ⟨z0, e0, r0, q0⟩ := h 0 (by decide)
    obtain ⟨z1, e1, r1, q1⟩ := h 1 (by decide)
    obtain ⟨z2, e2, r2, q2⟩ := h 2 (by decide)
    obtain ⟨z3, e3, r3, q3⟩ := h 3 (by decide)
    cases e0; cases e1; cases e2; cases e3
    refine ⟨z0, z1, z2, z3, rfl, ?_⟩
    intro z hz
    simp only [List.mem_cons, List.not_mem_nil, or_false] at hz
    rcases hz with rfl | rfl | rfl | rfl
    · exact ⟨r0, q0⟩
    · exact ⟨r1, q1⟩
    · exact ⟨r2, q2⟩
    · exact ⟨r3, q3⟩
end
open Go.ChangeShapes Go.WideShapes Go.ChangeAt Go.RowKit
section
variable {H : Type} {enc : TypeId × Value → H} {P : Program} {w : World} {base : Nat} {spare : Nat → Bool} {held : Bool}
theorem Opens.argSt {t : TypeId} {r : TRow} {fs : List (Nat × Nat × Nat)} {Q : List Value → Prop} (tb : Tb P) (ht : tb.row t = some r) (hk : r.k = .strct fs) (hE : Opens enc P w base spare held t Q) {v : Value} {d : DataW H} {p : List MemPlace} {rc : Reach} {b0 : Nat} (hv : Value.okWide P w rc b0 t v) (h : DataW.Trod enc P w base spare held t v d p) : ∃ cs, v = .agg ⟨cs⟩ ∧ Q cs := by
  have his := (tb.get ht).is
  rw [hk] at his
  obtain ⟨fields, h1, _⟩ := his
  obtain ⟨cs, rfl, _⟩ := okWide_struct h1 hv
  exact ⟨cs.toList, rfl, hE.arg h⟩
end
end Go.Proofs.YtligpachgcmkcaaGreat
set_option linter.unusedSimpArgs false
set_option linter.unusedVariables false
namespace Go.Proofs.YtligpachgcmkcaaGreat
open Go.RowKit Go.Shelf
open Go.ChangeShapes Go.WideShapes Go.ChangeAt
def byKs : List TK := [.int .u8]
theorem by_dec : ∀ cs, allW byKs cs → ∃ x : Int, u8V x = cs := by
  rintro cs h
  simp only [byKs] at h
  match cs, h with
  | [.int k1 a], h =>
    obtain ⟨⟨rfl, _⟩, _⟩ := h
    exact ⟨a, rfl⟩
theorem byt_of {xs : List Int} (h : ∀ x ∈ xs, allW byKs (u8V x)) : Byt xs := by
  intro x hx
  obtain ⟨⟨_, h2⟩, _⟩ := h x hx
  have e0 : IntKind.u8.min = 0 := rfl
  have e1 : IntKind.u8.max = 255 := rfl
  omega
def digKs : List TK := [.int .i64, .int .i64, .int .i64, .int .i64, .int .u8, .int .u8, .int .u8, .int .u8, .int .u8, .int .u8, .int .u8, .int .u8]
/-- A digest's cells. -/
def DigC (cs : List Value) : Prop := ∃ xv xp : List Int, cs = dgV xv xp ∧ xv.length = 4 ∧ xp.length = 8 ∧ Byt xp
theorem allW_int {k : IntKind} {ks : List TK} {cs : List Value} (h : allW (.int k :: ks) cs) : ∃ a rest, cs = .int k a :: rest ∧ (k.min ≤ a ∧ a ≤ k.max) ∧ allW ks rest := by
  match cs, h with
  | .int k1 a :: r, h =>
    obtain ⟨⟨rfl, h1⟩, h2⟩ := h
    exact ⟨a, r, rfl, h1, h2⟩
theorem allW_nil {cs : List Value} (h : allW [] cs) : cs = [] := by
  match cs, h with
  | [], _ => rfl
theorem dig_dec {cs : List Value} (h : allW digKs cs) : DigC cs := by
  simp only [digKs] at h
  obtain ⟨a, _, rfl, _, h⟩ := allW_int h
  obtain ⟨b, _, rfl, _, h⟩ := allW_int h
  obtain ⟨c, _, rfl, _, h⟩ := allW_int h
  obtain ⟨d, _, rfl, _, h⟩ := allW_int h
  obtain ⟨e, _, rfl, h1, h⟩ := allW_int h
  obtain ⟨f, _, rfl, h2, h⟩ := allW_int h
  obtain ⟨g, _, rfl, h3, h⟩ := allW_int h
  obtain ⟨i, _, rfl, h4, h⟩ := allW_int h
  obtain ⟨j, _, rfl, h5, h⟩ := allW_int h
  obtain ⟨k, _, rfl, h6, h⟩ := allW_int h
  obtain ⟨l, _, rfl, h7, h⟩ := allW_int h
  obtain ⟨m, _, rfl, h8, h⟩ := allW_int h
  have hn := allW_nil h
  subst hn
  refine ⟨[a, b, c, d], [e, f, g, i, j, k, l, m], rfl, rfl, rfl, fun y hy => ?_⟩
  have e0 : IntKind.u8.min = 0 := rfl
  have e1 : IntKind.u8.max = 255 := rfl
  rw [e0, e1] at h1 h2 h3 h4 h5 h6 h7 h8
  simp only [List.mem_cons, List.not_mem_nil, or_false] at hy
  rcases hy with rfl | rfl | rfl | rfl | rfl | rfl | rfl | rfl <;> assumption
theorem dig_opens {H : Type} {enc : TypeId × Value → H} {w : World} {base : Nat} {spare : Nat → Bool} {held : Bool} : Opens enc Tryz.prog w base spare held 27 DigC := (Opens.flat (ks := digKs) tb rfl rfl rfl).mono fun cs h => dig_dec h
theorem digs_all (ls cs : List Value) (p : Option Addr) (cap : Nat) (bs : List Int) (w : World) (hl : ∃ l0 l1 l2 l3, ls = [Pi.w l0, Pi.w l1, Pi.w l2, Pi.w l3] ∧ ∀ z ∈ [l0, l1, l2, l3], RdSl w z.p iV z.xs ∧ z.xs.length ≤ z.cap) (hd : DigC cs) (hp : RdSl w p u8V bs) (hc : bs.length ≤ cap) (hb : ∀ x ∈ bs, allW byKs (u8V x)) :
    CallW Tryz.prog 3 [.agg ⟨ls⟩, .agg ⟨cs⟩, .slice p bs.length cap] w fun v _ => v = .bool true := by
  obtain ⟨l0, l1, l2, l3, rfl, hl⟩ := hl
  obtain ⟨xv, xp, rfl, hxv, hxp, hxb⟩ := hd
  exact digs_ok [l0, l1, l2, l3] rfl xv xp hxv hxp hxb p cap bs (byt_of hb) hc w hl hp
end Go.Proofs.YtligpachgcmkcaaGreat
