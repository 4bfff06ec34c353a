/- Contracts of the document's revoke: the digest of all logs. -/
import Derived.Test.YtligpachgcmkcaaRd6
import Derived.Test.YtligpachgcmkcaaRp1
import Derived.Test.YtligpachgcmkcaaRf2
import Derived.Test.YtligpachgcmkcaaRs1
set_option linter.unusedSimpArgs false
set_option linter.unusedVariables false
namespace Go.Proofs.Ytligpachgcmkcaa
open Go.RowKit Go.Shelf
set_option maxRecDepth 100000

theorem pB_small {n : Int} (h0 : 0 ≤ n) (h1 : n ≤ 65535) : pB n = [n / 256, n % 256] := by
  rw [pB, u8_mod, u8_mod, Int.emod_eq_of_lt (by omega) (by omega)]
theorem pB_snoc {xs : List Int} {k : Nat} {y : Int} (h : xs[k]? = some y) : (xs.take (k + 1)).flatMap pB = (xs.take k).flatMap pB ++ pB y := by
  rw [List.take_add_one, h, List.flatMap_append]
  simp
theorem pBs_byt (xs : List Int) : Byt (xs.flatMap pB) := fun x hx => by
  obtain ⟨z, _, hz⟩ := List.mem_flatMap.1 hx
  exact pB_byt z x hz
theorem pr_byt (ls : List (List Int)) : Byt (prI ls) := fun x hx => by
  obtain ⟨z, _, hz⟩ := List.mem_flatMap.1 hx
  exact pBs_byt _ x hz
theorem dprint_ok (bs : Nat) (gs : List Lg) (hg : GOk gs) (hlo : LOk (lgs gs)) (w : World) (hs : DSR w bs gs) : CallW Try.prog 73 [.pointer (some ⟨bs, 0, none⟩), .agg ⟨tabV⟩] w fun v _ => v = .agg ⟨u8s (shaI (prI (lgs gs)))⟩ := by
  have hb := hs.b
  have htl : tabV.length = 72 := rfl
  have hle : ∀ xs ∈ lgs gs, xs.length ≤ 256 := fun xs hx => by obtain ⟨g, hgm, rfl⟩ := List.mem_map.1 hx; exact hg.le g hgm
  have hlen : (lgs gs).length = 4 := by rw [lgs, List.length_map, hg.len]
  have hsum := fun b p cap (h : b.length ≤ 999999000) (hb : Byt b) w1 hp => sum_ok p b.length cap b rfl h hb w1 hp
  generalize tabV = tv at *
  refine enterW (tb := tb) Try.func73 rfl Try.ntmps73 rfl ?_
  repeat' (first | (apply R.is1; first | (apply R.pure; exact rfl; (apply Ok1.assign; exact rfl)) | (apply R.box; (iterate 3 exact rfl); intro) | (apply R.alloc; (iterate 3 exact rfl); intro)) | apply R.nil | (apply T.is; first | apply T.seq | apply T.region | apply T.block))
  rename_i b3 b4
  apply T.loopK (α := Nat × Ov) (I := fun y => y.1 ≤ 4 ∧ OvOk 1 y.2 (prI ((lgs gs).take y.1)).length (u8s (prI ((lgs gs).take y.1)))) (σi := fun y => [(0, .pointer (some ⟨bs, 0, none⟩)), (3, .pointer (some ⟨b3, 0, none⟩)), (4, .pointer (some ⟨b4, 0, none⟩)), (5, slV y.2 (prI ((lgs gs).take y.1)).length), (6, .int .i64 y.1)])
    (Li := fun y => (b4, .cells ⟨List.replicate 32 (.int .u8 0)⟩ 54 (0, 0)) :: (b3, .cells ⟨tv⟩ 138 (0, 0)) :: blkL 5 y.2 (u8s (prI ((lgs gs).take y.1)))) (μ := fun y => 4 - y.1) (i0 := (0, none))
  · exact ⟨Nat.zero_le _, rfl, rfl⟩
  · exact ⟨rfl, rfl, rfl, rfl, rfl, trivial⟩
  · (focus ((repeat' (first | exact Keep.nil _ | exact Ext.one _ _ | apply Keep.cons)); done))
  · rintro ⟨i, ov⟩ ⟨hi, hov⟩
    simp only at hi hov ⊢
    have hpl := pr_len (ls := (lgs gs).take i) fun xs hx => hle xs (List.mem_of_mem_take hx)
    have htk : ((lgs gs).take i).length ≤ 4 := by rw [List.length_take, hlen]; omega
    rcases Nat.lt_or_ge i 4 with hlt | hge
    · obtain ⟨g, hx⟩ : ∃ g, gs[i]? = some g := ⟨_, List.getElem?_eq_getElem (by rw [hg.len]; omega)⟩
      have hm := List.mem_of_getElem? hx
      have hcell := setV_get hx (hg.ok g hm)
      have hgl := hg.le g hm
      have hrd := hs.rd g hm
      have hxl : (lgs gs)[i]? = some g.xs := by rw [lgs, List.getElem?_map, hx]; rfl
      have hsn := pr_snoc hxl
      have hlb : lB g.xs = pB (g.xs.length : Int) ++ g.xs.flatMap pB := rfl
      rw [hlb] at hsn
      generalize prI ((lgs gs).take i) = o0 at *
      repeat' (first | (apply R.is1; first | (apply R.isBin; (apply R.pure; exact rfl; (apply Ok1.lss_t; exact rfl; exact rfl; omega))) | (apply R.pure; exact rfl; first | (apply Ok1.move; exact rfl) | (apply Ok1.assign; exact rfl))) | apply R.nil | (apply T.is; first | (apply T.drawC (id := 5) [] (by decide); ((apply A.take 0; exact rfl; exact rfl; kernel_rfl; kernel_rfl; kernel_rfl; (apply Ok1.move; exact rfl)) <;> (apply A.take 1; exact rfl; exact rfl; kernel_rfl; kernel_rfl; kernel_rfl; (apply Ok1.move; exact rfl)) <;> (apply A.take 2; exact rfl; exact rfl; kernel_rfl; kernel_rfl; kernel_rfl; (apply Ok1.move; exact rfl)) <;> (apply A.take 3; exact rfl; exact rfl; kernel_rfl; kernel_rfl; kernel_rfl; (apply Ok1.nilCheck; exact rfl)) <;> (apply A.take 4; exact rfl; exact rfl; kernel_rfl; kernel_rfl; kernel_rfl; (apply Ok1.fieldAddr; (iterate 5 exact rfl))) <;> (apply A.take 5; exact rfl; exact rfl; kernel_rfl; kernel_rfl; kernel_rfl; (apply Ok1.indexAddrA; (iterate 5 exact rfl); omega; omega)) <;> (apply A.take 6; exact rfl; exact rfl; kernel_rfl; kernel_rfl; kernel_rfl; (apply Ok1.load; exact rfl; apply Ld.blk1; exact rfl; exact rfl; exact hb; exact List.not_mem_nil; exact hcell)) <;> (apply A.take 7; exact rfl; exact rfl; kernel_rfl; kernel_rfl; kernel_rfl; (apply Ok1.lenS; (iterate 3 exact rfl))) <;> (apply A.take 8; exact rfl; exact rfl; kernel_rfl; kernel_rfl; kernel_rfl; (apply Ok1.quo64; exact rfl; exact rfl; omega; omega; omega)) <;> (apply A.take 9; exact rfl; exact rfl; kernel_rfl; kernel_rfl; kernel_rfl; (apply Ok1.convU8; (iterate 5 exact rfl); omega; omega)) <;> (apply A.take 10; exact rfl; exact rfl; kernel_rfl; kernel_rfl; kernel_rfl; (apply Ok1.move; exact rfl)) <;> (apply A.take 11; exact rfl; exact rfl; kernel_rfl; kernel_rfl; kernel_rfl; (apply Ok1.move; exact rfl)) <;> (apply A.take 12; exact rfl; exact rfl; kernel_rfl; kernel_rfl; kernel_rfl; (apply Ok1.nilCheck; exact rfl)) <;> (apply A.take 13; exact rfl; exact rfl; kernel_rfl; kernel_rfl; kernel_rfl; (apply Ok1.fieldAddr; (iterate 5 exact rfl))) <;> (apply A.take 14; exact rfl; exact rfl; kernel_rfl; kernel_rfl; kernel_rfl; (apply Ok1.indexAddrA; (iterate 5 exact rfl); omega; omega)) <;> (apply A.take 15; exact rfl; exact rfl; kernel_rfl; kernel_rfl; kernel_rfl; (apply Ok1.load; exact rfl; apply Ld.blk1; exact rfl; exact rfl; exact hb; exact List.not_mem_nil; exact hcell)) <;> (apply A.take 16; exact rfl; exact rfl; kernel_rfl; kernel_rfl; kernel_rfl; (apply Ok1.lenS; (iterate 3 exact rfl))) <;> (apply A.take 17; exact rfl; exact rfl; kernel_rfl; kernel_rfl; kernel_rfl; (apply Ok1.remN; exact rfl; exact rfl; omega; omega)) <;> (apply A.take 18; exact rfl; exact rfl; kernel_rfl; kernel_rfl; kernel_rfl; (apply Ok1.convU8; (iterate 5 exact rfl); omega; omega)) <;> (apply A.one 19; kernel_rfl; exact rfl; (((apply R.buildSlice; (iterate 12 exact rfl); intro))); apply R.nil; refine ⟨?_, ?_⟩; (focus ((repeat' (exact trivial))))) <;> (apply A.one 20; kernel_rfl; exact rfl; (((apply R.append1; (iterate 12 exact rfl); (focus ((repeat' (first | exact OwnAt.base hov | apply OwnAt.tail)); done)); exact At.head; exact rfl; exact rfl; omega; omega; intro b2 j2 k2 hj2))); apply R.nil; refine ⟨?_, ?_⟩; (focus ((repeat' (exact trivial))))) <;> (apply A.take 21; exact rfl; exact rfl; kernel_rfl; kernel_rfl; kernel_rfl; (apply Ok1.assign; exact rfl)) <;> (apply A.done; kernel_rfl))) | apply T.seq | apply T.region | apply T.block | apply T.skip | (apply T.cond_t; exact rfl)))
      have hov1 := hov.some (b := b2) (ys := u8s (pB (g.xs.length : Int))) (m := 2) rfl (by exact hj2)
      have hp1 : u8s (pB (g.xs.length : Int)) = [.int .u8 (g.xs.length / 256), .int .u8 (g.xs.length % 256)] := by rw [pB_small (by omega) (by omega)]; rfl
      rw [← hp1]
      have hoo : ∀ k, o0 ++ (pB (g.xs.length : Int) ++ (g.xs.take k).flatMap pB) = (o0 ++ pB (g.xs.length : Int)) ++ (g.xs.take k).flatMap pB := fun k => (List.append_assoc _ _ _).symm
      have hol : (o0 ++ pB (g.xs.length : Int)).length = o0.length + 2 := by rw [List.length_append]; rfl
      have hou : u8s (o0 ++ pB (g.xs.length : Int)) = u8s o0 ++ u8s (pB (g.xs.length : Int)) := u8s_app _ _
      rw [← hou] at hov1
      rw [← hou]
      rw [← hol] at hov1
      rw [← List.append_assoc] at hsn
      generalize o0 ++ pB (g.xs.length : Int) = o1 at *
      apply T.loopK (α := Nat × Ov) (I := fun y => y.1 ≤ g.xs.length ∧ OvOk 1 y.2 (o1 ++ (g.xs.take y.1).flatMap pB).length (u8s (o1 ++ (g.xs.take y.1).flatMap pB))) (σi := fun y => [(0, .pointer (some ⟨bs, 0, none⟩)), (3, .pointer (some ⟨b3, 0, none⟩)), (4, .pointer (some ⟨b4, 0, none⟩)), (5, slV y.2 (o1 ++ (g.xs.take y.1).flatMap pB).length), (6, .int .i64 i), (7, .int .i64 y.1)])
        (Li := fun y => (b4, .cells ⟨List.replicate 32 (.int .u8 0)⟩ 54 (0, 0)) :: (b3, .cells ⟨tv⟩ 138 (0, 0)) :: blkL 5 y.2 (u8s (o1 ++ (g.xs.take y.1).flatMap pB))) (μ := fun y => g.xs.length - y.1) (i0 := (0, some (b2, j2, k2)))
      · exact ⟨Nat.zero_le _, by simpa using hov1⟩
      · simp only [List.take_zero, List.flatMap_nil, List.append_nil, hol]
        exact ⟨rfl, rfl, rfl, rfl, rfl, rfl, trivial⟩
      · simp only [List.take_zero, List.flatMap_nil, List.append_nil]
        (focus ((repeat' (first | exact Keep.nil _ | exact Ext.one _ _ | apply Keep.cons | apply Ext.cons)); done))
      · rintro ⟨k, ov3⟩ ⟨hk, hov3⟩
        simp only at hk hov3 ⊢
        have hbl : (o1 ++ (g.xs.take k).flatMap pB).length ≤ 3000 := by
          rw [List.length_append, fpB_len, List.length_take]
          omega
        rcases Nat.lt_or_ge k g.xs.length with hlk | hgk
        · obtain ⟨y, hy⟩ : ∃ y, g.xs[k]? = some y := ⟨_, List.getElem?_eq_getElem (by omega)⟩
          obtain ⟨hy1, hy2⟩ := (hlo g.xs (List.mem_of_getElem? hxl)).1 y (List.mem_of_getElem? hy)
          obtain ⟨b1, o1', hpe, H⟩ := hrd.at hy
          replace H := H 1 iV_len
          have hps := pB_snoc hy
          have hp2 : u8s (pB y) = [.int .u8 (y / 256), .int .u8 (y % 256)] := by rw [pB_small (by omega) (by omega)]; rfl
          have hpl2 : (pB y).length = 2 := rfl
          repeat' (first | (apply R.is1; first | (apply R.isBin; (apply R.pure; exact rfl; first | (apply Ok1.add64; exact rfl; exact rfl; omega; omega) | (apply Ok1.lss_t; exact rfl; exact rfl; omega))) | (apply R.isCall; (apply R.pure; exact rfl; (apply Ok1.lenS; (iterate 3 exact rfl)))) | (apply R.pure; exact rfl; first | (apply Ok1.load; exact rfl; (apply Ld.blk1; exact rfl; exact rfl; exact hb; exact List.not_mem_nil; exact hcell)) | (apply Ok1.move; exact rfl) | (apply Ok1.fieldAddr; (iterate 5 exact rfl)) | (apply Ok1.assign; exact rfl) | (apply Ok1.indexAddrA; (iterate 5 exact rfl); omega; omega) | (apply Ok1.nilCheck; exact rfl))) | apply R.nil | (apply T.is; first | (apply T.drawC (id := 9) [] (by decide); (((apply A.take 0; exact rfl; exact rfl; kernel_rfl; kernel_rfl; kernel_rfl; (apply Ok1.move; exact rfl)); refine A.cast (listed' := #[true, false, false, false, false, false, false, false, false, false, false, false, false, false, false, false, false, false, false, false, false, false, false, false, false, false]) (by kernel_rfl) ?_) <;> ((apply A.take 1; exact rfl; exact rfl; kernel_rfl; kernel_rfl; kernel_rfl; (apply Ok1.move; exact rfl)); refine A.cast (listed' := #[true, true, false, false, false, false, false, false, false, false, false, false, false, false, false, false, false, false, false, false, false, false, false, false, false, false]) (by kernel_rfl) ?_) <;> ((apply A.take 2; exact rfl; exact rfl; kernel_rfl; kernel_rfl; kernel_rfl; (apply Ok1.move; exact rfl)); refine A.cast (listed' := #[true, true, true, false, false, false, false, false, false, false, false, false, false, false, false, false, false, false, false, false, false, false, false, false, false, false]) (by kernel_rfl) ?_) <;> ((apply A.take 3; exact rfl; exact rfl; kernel_rfl; kernel_rfl; kernel_rfl; (apply Ok1.nilCheck; exact rfl)); refine A.cast (listed' := #[true, true, true, true, false, false, false, false, false, false, false, false, false, false, false, false, false, false, false, false, false, false, false, false, false, false]) (by kernel_rfl) ?_) <;> ((apply A.take 4; exact rfl; exact rfl; kernel_rfl; kernel_rfl; kernel_rfl; (apply Ok1.fieldAddr; (iterate 5 exact rfl))); refine A.cast (listed' := #[true, true, true, true, true, false, false, false, false, false, false, false, false, false, false, false, false, false, false, false, false, false, false, false, false, false]) (by kernel_rfl) ?_) <;> ((apply A.take 5; exact rfl; exact rfl; kernel_rfl; kernel_rfl; kernel_rfl; (apply Ok1.indexAddrA; (iterate 5 exact rfl); omega; omega)); refine A.cast (listed' := #[true, true, true, true, true, true, false, false, false, false, false, false, false, false, false, false, false, false, false, false, false, false, false, false, false, false]) (by kernel_rfl) ?_) <;> ((apply A.take 6; exact rfl; exact rfl; kernel_rfl; kernel_rfl; kernel_rfl; (apply Ok1.load; exact rfl; (apply Ld.blk1; exact rfl; exact rfl; exact hb; exact List.not_mem_nil; exact hcell))); refine A.cast (listed' := #[true, true, true, true, true, true, true, false, false, false, false, false, false, false, false, false, false, false, false, false, false, false, false, false, false, false]) (by kernel_rfl) ?_) <;> ((apply A.take 7; exact rfl; exact rfl; kernel_rfl; kernel_rfl; kernel_rfl; (apply Ok1.move; exact rfl)); refine A.cast (listed' := #[true, true, true, true, true, true, true, true, false, false, false, false, false, false, false, false, false, false, false, false, false, false, false, false, false, false]) (by kernel_rfl) ?_) <;> ((apply A.take 8; exact rfl; exact rfl; kernel_rfl; kernel_rfl; kernel_rfl; (apply Ok1.indexAddrP; (iterate 4 exact rfl); exact hpe; exact rfl; omega; omega)); refine A.cast (listed' := #[true, true, true, true, true, true, true, true, true, false, false, false, false, false, false, false, false, false, false, false, false, false, false, false, false, false]) (by kernel_rfl) ?_) <;> ((apply A.take 9; exact rfl; exact rfl; kernel_rfl; kernel_rfl; kernel_rfl; (apply Ok1.load; exact rfl; (apply Ld.row0 H; exact rfl; exact List.not_mem_nil; (iterate 3 exact rfl)))); refine A.cast (listed' := #[true, true, true, true, true, true, true, true, true, true, false, false, false, false, false, false, false, false, false, false, false, false, false, false, false, false]) (by kernel_rfl) ?_) <;> ((apply A.take 10; exact rfl; exact rfl; kernel_rfl; kernel_rfl; kernel_rfl; (apply Ok1.quo64; exact rfl; exact rfl; omega; omega; omega)); refine A.cast (listed' := #[true, true, true, true, true, true, true, true, true, true, true, false, false, false, false, false, false, false, false, false, false, false, false, false, false, false]) (by kernel_rfl) ?_) <;> ((apply A.take 11; exact rfl; exact rfl; kernel_rfl; kernel_rfl; kernel_rfl; (apply Ok1.convU8; (iterate 5 exact rfl); omega; omega)); refine A.cast (listed' := #[true, true, true, true, true, true, true, true, true, true, true, true, false, false, false, false, false, false, false, false, false, false, false, false, false, false]) (by kernel_rfl) ?_) <;> ((apply A.take 12; exact rfl; exact rfl; kernel_rfl; kernel_rfl; kernel_rfl; (apply Ok1.move; exact rfl)); refine A.cast (listed' := #[true, true, true, true, true, true, true, true, true, true, true, true, true, false, false, false, false, false, false, false, false, false, false, false, false, false]) (by kernel_rfl) ?_) <;> ((apply A.take 13; exact rfl; exact rfl; kernel_rfl; kernel_rfl; kernel_rfl; (apply Ok1.move; exact rfl)); refine A.cast (listed' := #[true, true, true, true, true, true, true, true, true, true, true, true, true, true, false, false, false, false, false, false, false, false, false, false, false, false]) (by kernel_rfl) ?_) <;> ((apply A.take 14; exact rfl; exact rfl; kernel_rfl; kernel_rfl; kernel_rfl; (apply Ok1.nilCheck; exact rfl)); refine A.cast (listed' := #[true, true, true, true, true, true, true, true, true, true, true, true, true, true, true, false, false, false, false, false, false, false, false, false, false, false]) (by kernel_rfl) ?_) <;> ((apply A.take 15; exact rfl; exact rfl; kernel_rfl; kernel_rfl; kernel_rfl; (apply Ok1.fieldAddr; (iterate 5 exact rfl))); refine A.cast (listed' := #[true, true, true, true, true, true, true, true, true, true, true, true, true, true, true, true, false, false, false, false, false, false, false, false, false, false]) (by kernel_rfl) ?_) <;> ((apply A.take 16; exact rfl; exact rfl; kernel_rfl; kernel_rfl; kernel_rfl; (apply Ok1.indexAddrA; (iterate 5 exact rfl); omega; omega)); refine A.cast (listed' := #[true, true, true, true, true, true, true, true, true, true, true, true, true, true, true, true, true, false, false, false, false, false, false, false, false, false]) (by kernel_rfl) ?_) <;> ((apply A.take 17; exact rfl; exact rfl; kernel_rfl; kernel_rfl; kernel_rfl; (apply Ok1.load; exact rfl; (apply Ld.blk1; exact rfl; exact rfl; exact hb; exact List.not_mem_nil; exact hcell))); refine A.cast (listed' := #[true, true, true, true, true, true, true, true, true, true, true, true, true, true, true, true, true, true, false, false, false, false, false, false, false, false]) (by kernel_rfl) ?_) <;> ((apply A.take 18; exact rfl; exact rfl; kernel_rfl; kernel_rfl; kernel_rfl; (apply Ok1.move; exact rfl)); refine A.cast (listed' := #[true, true, true, true, true, true, true, true, true, true, true, true, true, true, true, true, true, true, true, false, false, false, false, false, false, false]) (by kernel_rfl) ?_) <;> ((apply A.take 19; exact rfl; exact rfl; kernel_rfl; kernel_rfl; kernel_rfl; (apply Ok1.indexAddrP; (iterate 4 exact rfl); exact hpe; exact rfl; omega; omega)); refine A.cast (listed' := #[true, true, true, true, true, true, true, true, true, true, true, true, true, true, true, true, true, true, true, true, false, false, false, false, false, false]) (by kernel_rfl) ?_) <;> ((apply A.take 20; exact rfl; exact rfl; kernel_rfl; kernel_rfl; kernel_rfl; (apply Ok1.load; exact rfl; (apply Ld.row0 H; exact rfl; exact List.not_mem_nil; (iterate 3 exact rfl)))); refine A.cast (listed' := #[true, true, true, true, true, true, true, true, true, true, true, true, true, true, true, true, true, true, true, true, true, false, false, false, false, false]) (by kernel_rfl) ?_) <;> ((apply A.take 21; exact rfl; exact rfl; kernel_rfl; kernel_rfl; kernel_rfl; (apply Ok1.remN; exact rfl; exact rfl; omega; omega)); refine A.cast (listed' := #[true, true, true, true, true, true, true, true, true, true, true, true, true, true, true, true, true, true, true, true, true, true, false, false, false, false]) (by kernel_rfl) ?_) <;> ((apply A.take 22; exact rfl; exact rfl; kernel_rfl; kernel_rfl; kernel_rfl; (apply Ok1.convU8; (iterate 5 exact rfl); omega; omega)); refine A.cast (listed' := #[true, true, true, true, true, true, true, true, true, true, true, true, true, true, true, true, true, true, true, true, true, true, true, false, false, false]) (by kernel_rfl) ?_) <;> (apply A.one 23; kernel_rfl; exact rfl; (((apply R.buildSlice; (iterate 12 exact rfl); intro))); apply R.nil; refine ⟨?_, ?_⟩; (focus ((repeat' (exact trivial))))) <;> (apply A.one 24; kernel_rfl; exact rfl; (((apply R.append1; (iterate 12 exact rfl); (focus ((repeat' (first | exact OwnAt.base hov3 | apply OwnAt.tail)); done)); exact At.head; exact rfl; exact rfl; omega; omega; intro b2 j2 k2 hj2))); apply R.nil; refine ⟨?_, ?_⟩; (focus ((repeat' (exact trivial))))) <;> ((apply A.take 25; exact rfl; exact rfl; kernel_rfl; kernel_rfl; kernel_rfl; (apply Ok1.assign; exact rfl)); refine A.cast (listed' := #[true, true, true, true, true, true, true, true, true, true, true, true, true, true, true, true, true, true, true, true, true, true, true, true, true, true]) (by kernel_rfl) ?_) <;> (apply A.done; kernel_rfl))) | apply T.seq | apply T.region | apply T.block | apply T.skip | (apply T.cond_t; exact rfl)))
          have hov4 := hov3.some (b := b2) (ys := u8s (pB y)) (m := 2) rfl (by exact hj2)
          have e1 : o1 ++ (g.xs.take (k + 1)).flatMap pB = (o1 ++ (g.xs.take k).flatMap pB) ++ pB y := by rw [hps, List.append_assoc]
          have e2 : (o1 ++ (g.xs.take (k + 1)).flatMap pB).length = (o1 ++ (g.xs.take k).flatMap pB).length + 2 := (congrArg List.length e1).trans List.length_append
          refine ⟨(k + 1, some (b2, j2, k2)), ⟨by simp only; omega, ?_⟩, by simp only; omega, ?_, ?_⟩
          · simp only [e2]
            rw [e1, u8s_app]
            exact hov4
          · simp only [e2]
            exact ⟨rfl, rfl, rfl, rfl, rfl, rfl, trivial⟩
          · simp only
            rw [e1, u8s_app (o1 ++ (g.xs.take k).flatMap pB) (pB y), hp2]
            (focus ((repeat' (first | exact Keep.nil _ | exact Ext.one _ _ | apply Keep.cons | apply Ext.cons)); done))
        · have hke : k = g.xs.length := by omega
          subst hke
          rw [List.take_length, ← hsn] at hov3
          rw [List.take_length, ← hsn]
          repeat' (first | (apply R.is1; first | (apply R.isBin; (apply R.pure; exact rfl; first | (apply Ok1.add64; exact rfl; exact rfl; omega; omega) | (apply Ok1.lss_f; exact rfl; exact rfl; omega))) | (apply R.isCall; (apply R.pure; exact rfl; (apply Ok1.lenS; (iterate 3 exact rfl)))) | (apply R.pure; exact rfl; first | (apply Ok1.load; exact rfl; apply Ld.blk1; exact rfl; exact rfl; exact hb; exact List.not_mem_nil; exact hcell) | (apply Ok1.move; exact rfl) | (apply Ok1.fieldAddr; (iterate 5 exact rfl)) | (apply Ok1.assign; exact rfl) | (apply Ok1.indexAddrA; (iterate 5 exact rfl); omega; omega) | (apply Ok1.nilCheck; exact rfl))) | apply R.nil | (apply T.is; first | apply T.seq | apply T.region | apply T.exit | (apply T.cond_f; exact rfl)))
          exact ⟨(i + 1, ov3), ⟨by simp only; omega, hov3⟩, by simp only; omega, ⟨rfl, rfl, rfl, rfl, rfl, trivial⟩, by (focus ((repeat' (first | exact Ext.one _ _ | exact Ext.all _ | apply Keep.cons | apply Keep.last)); done))⟩
    · have him : i = 4 := by omega
      subst him
      rw [List.take_of_length_le (by omega)] at hov hpl ⊢
      have hby := pr_byt (lgs gs)
      have hsum2 := fun p cap w1 hp => hsum (prI (lgs gs)) p cap (by omega) hby w1 hp
      have hls : (u8s (shaI (prI (lgs gs)))).length = 32 := by rw [u8s_len, sha_len]
      have hone := u8s_one (shaI (prI (lgs gs)))
      have hset : ∀ cs : List Value, cs.length = 32 → setE cs 0 (u8s (shaI (prI (lgs gs)))) = some (u8s (shaI (prI (lgs gs)))) := fun cs h => setE_all (by rw [hls, h])
      have hsub := subE_all hls
      clear hsum
      generalize shaI (prI (lgs gs)) = d0 at *
      simp only [slV_eq hov]
      repeat' (first | (apply R.is1; first | (apply R.isBin; (apply R.pure; exact rfl; (apply Ok1.lss_f; exact rfl; exact rfl; omega))) | (apply R.isCall; (apply R.callV (vs := [.agg ⟨tv⟩, .slice (ovp ov) (prI (lgs gs)).length (ovc ov (prI (lgs gs)).length)]); (iterate 3 exact rfl); intro w1 hw1; exact hsum2 _ _ w1 (rdown hov hw1 (Ext.mem (by (focus ((repeat' (first | exact Ext.all _ | apply Ext.cons)); done))))))) | (apply R.pure; exact rfl; first | (apply Ok1.load; exact rfl; apply Ld.ownk; exact rfl; exact rfl; (focus ((repeat' (first | exact At.head | apply At.tail)); done)); exact subE_all htl) | (apply Ok1.move; exact rfl))) | (apply R.is0; (apply R.store; (iterate 4 exact rfl); exact hls; exact hone; exact Upd.head; exact hset _ rfl)) | apply R.nil | (apply T.is; first | apply T.seq | apply T.region | apply T.exit | apply T.ret | (apply T.cond_f; exact rfl)))
      all_goals apply RetOk.c
      all_goals first | exact rfl | skip
      all_goals (apply Ld.ownk; exact rfl; exact rfl; exact At.head; exact hsub)
end Go.Proofs.Ytligpachgcmkcaa
