/- Contracts: the document's answer within room. -/
import Derived.Test.YtligpachgcmkcaaDa2
import Derived.Test.YtligpachgcmkcaaRg1
set_option linter.unusedSimpArgs false
set_option linter.unusedVariables false
namespace Go.Proofs.Ytligpachgcmkcaa
open Go.RowKit Go.Shelf
set_option maxRecDepth 100000

/-- The room that is left behind so many logs. -/
def lft : Nat → List (Int × List Int) → Nat → Nat
  | n, _, 0 => n
  | n, [], _ + 1 => n
  | n, x :: r, k + 1 => lft (n - x.2.length) r k
theorem cutD_get : ∀ (dd : List (Int × List Int)) (n i : Nat) (x : Int × List Int), dd[i]? = some x → (cutD n dd)[i]? = some (x.1, x.2.take (lft n dd i)) ∧ lft n dd (i + 1) = lft n dd i - x.2.length
  | [], _, _, _, h => by cases h
  | y :: r, n, 0, x, h => by
    cases h
    exact ⟨rfl, by cases r <;> rfl⟩
  | y :: r, n, i + 1, x, h => cutD_get r (n - y.2.length) i x h
theorem lft_le : ∀ (n : Nat) (dd : List (Int × List Int)) (k : Nat), lft n dd k ≤ n
  | n, _, 0 => by unfold lft; exact Nat.le_refl _
  | n, [], _ + 1 => Nat.le_refl _
  | n, x :: r, k + 1 => Nat.le_trans (lft_le (n - x.2.length) r k) (Nat.sub_le _ _)
theorem cutD_len : ∀ (dd : List (Int × List Int)) (n : Nat), (cutD n dd).length = dd.length
  | [], _ => rfl
  | y :: r, n => by rw [cutD, List.length_cons, List.length_cons, cutD_len r]
theorem pad_fr {d : Dl} {i : Nat} (hd : d.length = i) (hi : i < 4) (f : Int) (y : Pi) : (padV (d ++ [(f, y)]))[0 + i * 1]? = some (.int .i64 f) := by
  have hl : (iis (d.map (·.1))).length = 0 + i * 1 := by rw [iis_len, List.length_map, hd]; omega
  have e : padV (d ++ [(f, y)]) = iis (d.map (·.1)) ++ (.int .i64 f :: (iis (List.replicate (4 - (d ++ [(f, y)]).length) 0) ++ (fl Pi.v ((d ++ [(f, y)]).map (·.2)) ++ List.replicate (4 - (d ++ [(f, y)]).length) (.slice none 0 0)))) := by
    rw [padV, List.map_append, iis_app, iis_app]
    simp [iis]
  rw [e, ← hl, List.getElem?_append_right (Nat.le_refl _), Nat.sub_self]
  rfl
theorem setV_at {gs : List Lg} (hg : GOk gs) {i : Nat} {g : Lg} (h : gs[i]? = some g) : (setV gs)[0 + i * 1]? = some (.slice (ovp g.ov) g.xs.length (ovc g.ov g.xs.length)) := setV_get h (hg.ok g (List.mem_of_getElem? h))
theorem ranswer_ok (bm : Nat) (gs : List Lg) (hg : GOk gs) (vs : List Int) (hvl : vs.length = 4) (hV : VR vs) (room : Int) (hr16 : 16 ≤ room) (hr63 : room ≤ 9223372036854775807) (w : World) (hs : DSR w bm gs) :
    CallM Try.prog 53 [.pointer (some ⟨bm, 0, none⟩), .agg ⟨iis vs⟩, .int .i64 room] [] w fun v L => ∃ d, d.length = 4 ∧ v = .agg ⟨dlV d⟩ ∧ pur d = cutD ((room - 16) / 2).toNat (sinD (lgs gs) (minV (lgs gs) vs)) ∧ DlO d L := by
  have hil : (iis vs).length = 4 := by rw [iis_len, hvl]
  obtain ⟨m, hm⟩ : ∃ m : Nat, (room - 16) / 2 = m := ⟨((room - 16) / 2).toNat, by omega⟩
  have hm63 : m ≤ 4611686018427387904 := by omega
  have hb := hs.b
  refine enterK (tb := tb) Try.func53 rfl Try.ntmps53 rfl ?_
  repeat' (first | (apply R.is1; first | (apply R.isBin; (apply R.pure; exact rfl; first | (apply Ok1.sub64; exact rfl; exact rfl; omega; omega) | (apply Ok1.quo64; exact rfl; exact rfl; omega; omega; omega))) | (apply R.pure; exact rfl; first | (apply Ok1.move; exact rfl) | (apply Ok1.assign; exact rfl) | (apply Ok1.build; (iterate 5 exact rfl))) | (apply R.box; (iterate 3 exact rfl); intro) | (apply R.alloc; (iterate 3 exact rfl); intro)) | (apply R.is0; (apply R.store; (iterate 6 exact rfl); exact Upd.head; exact rfl)) | apply R.nil | (apply T.is; first | apply T.seq | apply T.region | apply T.block))
  rename_i b4 b6 b7
  rw [hm, Int.toNat_natCast]
  generalize hSD : sinD (lgs gs) (minV (lgs gs) vs) = SD at *
  apply T.loopK (α := Nat × Dl × Lst) (I := fun y => y.1 ≤ 4 ∧ y.2.1.length = y.1 ∧ DlO y.2.1 y.2.2 ∧ pur y.2.1 = (cutD m SD).take y.1) (σi := fun y => [(0, .pointer (some ⟨bm, 0, none⟩)), (4, .pointer (some ⟨b4, 0, none⟩)), (6, .pointer (some ⟨b6, 0, none⟩)), (7, .pointer (some ⟨b7, 0, none⟩)), (8, .int .i64 (lft m SD y.1)), (9, .int .i64 y.1)])
    (Li := fun y => (b4, .cells ⟨iis vs⟩ 27 (0, 0)) :: (b6, .cells ⟨noD⟩ 32 (0, 0)) :: (b7, .cells ⟨padV y.2.1⟩ 32 (0, 0)) :: y.2.2) (μ := fun y => 4 - y.1) (i0 := (0, [], []))
  · exact ⟨Nat.zero_le _, rfl, DlO.nil _, rfl⟩
  · refine ⟨rfl, rfl, rfl, rfl, ?_, rfl, trivial⟩
    simp only [lft]
    rw [← hm]; rfl
  · simp only [pad0, noD]
    (focus ((repeat' (first | exact Keep.nil _ | exact Ext.one _ _ | apply Keep.cons | apply Ext.cons)); done))
  · rintro ⟨i, dd, D⟩ ⟨hi, hdl, hdo, hpur⟩
    simp only at hi hdl hdo hpur ⊢
    rcases Nat.lt_or_ge i 4 with hlt | hge
    · obtain ⟨g, hgi⟩ : ∃ g, gs[i]? = some g := ⟨_, List.getElem?_eq_getElem (by rw [hg.len]; omega)⟩
      obtain ⟨v, hvi⟩ : ∃ v, vs[i]? = some v := ⟨_, List.getElem?_eq_getElem (by omega)⟩
      have hgm := List.mem_of_getElem? hgi
      have hcell := setV_at hg hgi
      have hrd := hs.rd g hgm
      have hg256 := hg.le g hgm
      have hv := hV v (List.mem_of_getElem? hvi)
      have hvc : (iis vs)[0 + i * 1]? = some (.int .i64 v) := by rw [Nat.zero_add]; exact i_at hvi
      obtain ⟨f, hf⟩ : ∃ f : Nat, min v (g.xs.length : Int) = f := ⟨(min v (g.xs.length : Int)).toNat, by omega⟩
      have hfl : f ≤ g.xs.length := by omega
      have hsi : SD[i]? = some ((f : Int), g.xs.drop f) := by
        have h1 : (lgs gs)[i]? = some g.xs := by rw [lgs, List.getElem?_map, hgi]; rfl
        have h2 : (minV (lgs gs) vs)[i]? = some (f : Int) := by
          have h3 : ((lgs gs).zip vs)[i]? = some (g.xs, v) := by rw [List.getElem?_zip_eq_some]; exact ⟨h1, hvi⟩
          rw [minV, List.getElem?_map, h3, ← hf]; rfl
        rw [← hSD]
        have := sin_get h1 h2
        rwa [Int.toNat_natCast] at this
      obtain ⟨hcd, hlf⟩ := cutD_get SD m i _ hsi
      simp only at hcd hlf
      have hfrom := pad_from hdl hlt (f : Int)
      have hfat := fun y => pad_fr hdl hlt (f : Int) y
      generalize hq : lft m SD i = q at *
      have hq63 : q ≤ 4611686018427387904 := by rw [← hq]; exact Nat.le_trans (lft_le m SD i) hm63
      repeat' (first | (apply R.is1; first | (apply R.isBin; (apply R.pure; exact rfl; (apply Ok1.lss_t; exact rfl; exact rfl; omega))) | (apply R.pure; exact rfl; first | (apply Ok1.load; exact rfl; (apply Ld.own1; exact rfl; exact rfl; (focus ((repeat' (first | exact At.head | apply At.tail)); done)); exact hfat _)) | (apply Ok1.move; exact rfl) | (apply Ok1.fieldAddr; (iterate 5 exact rfl)) | (apply Ok1.assign; exact rfl) | (apply Ok1.indexAddrA; (iterate 5 exact rfl); omega; omega))) | apply R.nil | (apply T.is; first | (apply T.drawC (id := 6) [0] (by decide); ((apply A.take 0; exact rfl; exact rfl; kernel_rfl; kernel_rfl; kernel_rfl; (apply Ok1.move; exact rfl)) <;> (apply A.take 1; exact rfl; exact rfl; kernel_rfl; kernel_rfl; kernel_rfl; (apply Ok1.move; exact rfl)) <;> (apply A.take 2; exact rfl; exact rfl; kernel_rfl; kernel_rfl; kernel_rfl; (apply Ok1.indexAddrA; (iterate 5 exact rfl); omega; omega)) <;> (apply A.take 3; exact rfl; exact rfl; kernel_rfl; kernel_rfl; kernel_rfl; (apply Ok1.load; exact rfl; (apply Ld.own1; exact rfl; exact rfl; exact At.head; exact hvc))) <;> (apply A.take 4; exact rfl; exact rfl; kernel_rfl; kernel_rfl; kernel_rfl; (apply Ok1.move; exact rfl)) <;> (apply A.take 5; exact rfl; exact rfl; kernel_rfl; kernel_rfl; kernel_rfl; (apply Ok1.move; exact rfl)) <;> (apply A.take 6; exact rfl; exact rfl; kernel_rfl; kernel_rfl; kernel_rfl; (apply Ok1.nilCheck; exact rfl)) <;> (apply A.take 7; exact rfl; exact rfl; kernel_rfl; kernel_rfl; kernel_rfl; (apply Ok1.fieldAddr; (iterate 5 exact rfl))) <;> (apply A.take 8; exact rfl; exact rfl; kernel_rfl; kernel_rfl; kernel_rfl; (apply Ok1.indexAddrA; (iterate 5 exact rfl); omega; omega)) <;> (apply A.take 9; exact rfl; exact rfl; kernel_rfl; kernel_rfl; kernel_rfl; (apply Ok1.load; exact rfl; (apply Ld.blk1; exact rfl; exact rfl; exact hb; exact List.not_mem_nil; exact hcell))) <;> (apply A.take 10; exact rfl; exact rfl; kernel_rfl; kernel_rfl; kernel_rfl; (apply Ok1.lenS; (iterate 3 exact rfl))) <;> (apply A.take 11; exact rfl; exact rfl; kernel_rfl; kernel_rfl; kernel_rfl; (apply Ok1.min2E; exact rfl; exact rfl; exact hf)) <;> (apply A.take 12; exact rfl; exact rfl; kernel_rfl; kernel_rfl; kernel_rfl; (apply Ok1.fieldAddr; (iterate 5 exact rfl))) <;> (apply A.take 13; exact rfl; exact rfl; kernel_rfl; kernel_rfl; kernel_rfl; (apply Ok1.indexAddrA; (iterate 5 exact rfl); omega; omega)) <;> (apply A.one 14; kernel_rfl; exact rfl; (((apply R.store; (iterate 6 exact rfl); (focus ((repeat' (first | exact Upd.head | apply Upd.tail)); done)); exact hfrom))); apply R.nil; refine ⟨?_, ?_⟩; (focus ((repeat' (first | exact trivial | (refine ⟨?_, ?_⟩; exact At.head)))))) <;> (apply A.done; kernel_rfl))) | apply T.seq | apply T.region | apply T.block | apply T.skip | (apply T.cond_t; exact rfl)))
      have hpl : (g.xs.drop f).length = g.xs.length - f := List.length_drop
      generalize hP : g.xs.drop f = ps at *
      have hpg : ∀ j y, ps[j]? = some y → g.xs[f + j]? = some y := fun j y h => by rw [← hP, List.getElem?_drop] at h; exact h
      apply T.loopK (α := Nat × Ov) (I := fun y => y.1 ≤ ps.length ∧ y.1 ≤ q ∧ OvOk 1 y.2 (ps.take y.1).length (iis (ps.take y.1))) (σi := fun y => [(0, .pointer (some ⟨bm, 0, none⟩)), (4, .pointer (some ⟨b4, 0, none⟩)), (6, .pointer (some ⟨b6, 0, none⟩)), (7, .pointer (some ⟨b7, 0, none⟩)), (8, .int .i64 ((q : Int) - y.1)), (9, .int .i64 i), (10, .int .i64 ((f : Int) + y.1))])
        (Li := fun y => (b4, .cells ⟨iis vs⟩ 27 (0, 0)) :: (b6, .cells ⟨noD⟩ 32 (0, 0)) :: (b7, .cells ⟨padV (dd ++ [((f : Int), ⟨ovp y.2, ovc y.2 (ps.take y.1).length, ps.take y.1⟩)])⟩ 32 (0, 0)) :: (blkL 3 y.2 (iis (ps.take y.1)) ++ D)) (μ := fun y => q - y.1) (i0 := (0, none))
      · exact ⟨Nat.zero_le _, Nat.zero_le _, OvOk.start 1⟩
      · refine ⟨rfl, rfl, rfl, rfl, ?_, rfl, ?_, trivial⟩
        · show _ = some (Value.int .i64 ((q : Int) - 0)); rw [Int.sub_zero]; rfl
        · show _ = some (Value.int .i64 ((f : Int) + 0)); rw [Int.add_zero]; rfl
      · simp only [blkL, List.nil_append, ovp, ovc, List.take_zero, List.length_nil]
        (focus ((repeat' (first | exact Ext.one _ _ | exact Ext.all _ | apply Keep.cons | apply Keep.last)); done))
      · rintro ⟨j, ov⟩ ⟨hj, hjq, hov⟩
        simp only at hj hjq hov ⊢
        have htl : (ps.take j).length = j := by rw [List.length_take]; omega
        by_cases hgo : j < ps.length ∧ j < q
        · obtain ⟨hjl, hjq2⟩ := hgo
          obtain ⟨y, hy⟩ : ∃ y, ps[j]? = some y := ⟨_, List.getElem?_eq_getElem (by omega)⟩
          obtain ⟨b, o, hpe, H⟩ := hrd.at (hpg j y hy)
          replace H := H 1 iV_len
          have hts : ps.take (j + 1) = ps.take j ++ [y] := by rw [List.take_add_one, hy]; rfl
          have hat := pad_at hdl hlt (f : Int) ⟨ovp ov, ovc ov (ps.take j).length, ps.take j⟩
          simp only [← slV_eq hov] at hat
          have hsto := fun b j2 J => pad_log hdl hlt (f : Int) ⟨ovp ov, ovc ov (ps.take j).length, ps.take j⟩ ⟨ovp (some (b, j2, J)), ovc (some (b, j2, J)) ((ps.take j).length + 1), ps.take j ++ [y]⟩
          simp only [List.length_append, List.length_singleton, ovp, ovc] at hsto
          have hdx : ((f : Int) + j).toNat = f + j := by omega
          generalize hT : ps.take j = ts at *
          repeat' (first | (apply R.is1; first | (apply R.isBin; (apply R.pure; exact rfl; first | (apply Ok1.add64; exact rfl; exact rfl; omega; omega) | (apply Ok1.sub64; exact rfl; exact rfl; omega; omega) | (apply Ok1.lss_t; exact rfl; exact rfl; omega) | (apply Ok1.gtr_t; exact rfl; exact rfl; omega))) | (apply R.isCall; (apply R.pure; exact rfl; (apply Ok1.lenS; (iterate 3 exact rfl)))) | (apply R.pure; exact rfl; first | (apply Ok1.load; exact rfl; (apply Ld.blk1; exact rfl; exact rfl; exact hb; exact List.not_mem_nil; exact hcell)) | (apply Ok1.move; exact rfl) | (apply Ok1.fieldAddr; (iterate 5 exact rfl)) | (apply Ok1.assign; exact rfl) | (apply Ok1.indexAddrA; (iterate 5 exact rfl); omega; omega) | (apply Ok1.pick_t; exact rfl; exact rfl) | (apply Ok1.nilCheck; exact rfl))) | (apply R.isG; (apply R.guard_run; exact rfl; exact rfl)) | apply R.nil | (apply T.is; first | (apply T.drawC (id := 10) [] (by decide); ((apply A.take 0; exact rfl; exact rfl; kernel_rfl; kernel_rfl; kernel_rfl; (apply Ok1.move; exact rfl)) <;> (apply A.take 1; exact rfl; exact rfl; kernel_rfl; kernel_rfl; kernel_rfl; (apply Ok1.move; exact rfl)) <;> (apply A.take 2; exact rfl; exact rfl; kernel_rfl; kernel_rfl; kernel_rfl; (apply Ok1.fieldAddr; (iterate 5 exact rfl))) <;> (apply A.take 3; exact rfl; exact rfl; kernel_rfl; kernel_rfl; kernel_rfl; (apply Ok1.indexAddrA; (iterate 5 exact rfl); omega; omega)) <;> (apply A.take 5; exact rfl; exact rfl; kernel_rfl; kernel_rfl; kernel_rfl; (apply Ok1.move; exact rfl)) <;> (apply A.take 6; exact rfl; exact rfl; kernel_rfl; kernel_rfl; kernel_rfl; (apply Ok1.move; exact rfl)) <;> (apply A.take 7; exact rfl; exact rfl; kernel_rfl; kernel_rfl; kernel_rfl; (apply Ok1.nilCheck; exact rfl)) <;> (apply A.take 8; exact rfl; exact rfl; kernel_rfl; kernel_rfl; kernel_rfl; (apply Ok1.fieldAddr; (iterate 5 exact rfl))) <;> (apply A.take 9; exact rfl; exact rfl; kernel_rfl; kernel_rfl; kernel_rfl; (apply Ok1.indexAddrA; (iterate 5 exact rfl); omega; omega)) <;> (apply A.take 10; exact rfl; exact rfl; kernel_rfl; kernel_rfl; kernel_rfl; (apply Ok1.load; exact rfl; (apply Ld.blk1; exact rfl; exact rfl; exact hb; exact List.not_mem_nil; exact hcell))) <;> (apply A.take 11; exact rfl; exact rfl; kernel_rfl; kernel_rfl; kernel_rfl; (apply Ok1.move; exact rfl)) <;> (apply A.take 12; exact rfl; exact rfl; kernel_rfl; kernel_rfl; kernel_rfl; (apply Ok1.indexAddrP; (iterate 4 exact rfl); exact hpe; exact rfl; omega; omega)) <;> (apply A.take 13; exact rfl; exact rfl; kernel_rfl; kernel_rfl; kernel_rfl; (apply Ok1.load; exact rfl; (apply Ld.row1 (f := 0) H; exact rfl; exact List.not_mem_nil; (iterate 3 exact rfl)))) <;> (apply A.take 16; exact rfl; exact rfl; kernel_rfl; kernel_rfl; kernel_rfl; (apply Ok1.fieldAddr; (iterate 5 exact rfl))) <;> (apply A.two 4 14; kernel_rfl; exact rfl; exact rfl; rotate_left 1; (focus (((((apply R.buildSlice; (iterate 12 exact rfl); intro))); apply R.nil; refine ⟨?_, ?_⟩; (focus ((repeat' (exact trivial))))) <;> (apply A.one 4; kernel_rfl; exact rfl; (((apply R.pure; exact rfl; (apply Ok1.load; exact rfl; (apply Ld.own1; exact rfl; exact rfl; (focus ((repeat' (first | exact At.head | apply At.tail)); done)); exact hat))))); apply R.nil; refine ⟨?_, ?_⟩; (focus ((repeat' (exact trivial))))) <;> (apply A.one 15; kernel_rfl; exact rfl; (((apply R.append1; (iterate 12 exact rfl); (focus ((repeat' (first | exact OwnAt.mid hov | apply OwnAt.tail)); done)); exact At.head; exact rfl; exact rfl; omega; omega; intro b2 j2 k2 hj2))); apply R.nil; refine ⟨?_, ?_⟩; (focus ((repeat' (exact trivial))))) <;> (apply A.take 17; exact rfl; exact rfl; kernel_rfl; kernel_rfl; kernel_rfl; (apply Ok1.indexAddrA; (iterate 5 exact rfl); omega; omega)) <;> (apply A.one 18; kernel_rfl; exact rfl; (((apply R.store; (iterate 6 exact rfl); (focus ((repeat' (first | exact Upd.head | apply Upd.tail)); done)); exact hsto _ _ []))); apply R.nil; refine ⟨?_, ?_⟩; (focus ((repeat' (exact trivial))))) <;> (apply A.done; kernel_rfl))); rotate_right 1; (focus (((((apply R.pure; exact rfl; (apply Ok1.load; exact rfl; (apply Ld.own1; exact rfl; exact rfl; (focus ((repeat' (first | exact At.head | apply At.tail)); done)); exact hat))))); apply R.nil; refine ⟨?_, ?_⟩; (focus ((repeat' (exact trivial))))) <;> (apply A.one 14; kernel_rfl; exact rfl; (((apply R.buildSlice; (iterate 12 exact rfl); intro))); apply R.nil; refine ⟨?_, ?_⟩; (focus ((repeat' (exact trivial))))) <;> (apply A.one 15; kernel_rfl; exact rfl; (((apply R.append1; (iterate 12 exact rfl); (focus ((repeat' (first | exact OwnAt.mid hov | apply OwnAt.tail)); done)); exact At.head; exact rfl; exact rfl; omega; omega; intro b2 j2 k2 hj2))); apply R.nil; refine ⟨?_, ?_⟩; (focus ((repeat' (exact trivial))))) <;> (apply A.take 17; exact rfl; exact rfl; kernel_rfl; kernel_rfl; kernel_rfl; (apply Ok1.indexAddrA; (iterate 5 exact rfl); omega; omega)) <;> (apply A.one 18; kernel_rfl; exact rfl; (((apply R.store; (iterate 6 exact rfl); (focus ((repeat' (first | exact Upd.head | apply Upd.tail)); done)); exact hsto _ _ []))); apply R.nil; refine ⟨?_, ?_⟩; (focus ((repeat' (exact trivial))))) <;> (apply A.done; kernel_rfl)))))) | apply T.seq | apply T.region | apply T.block | apply T.skip | (apply T.cond_t; exact rfl)))
          all_goals
            refine ⟨(j + 1, some (b2, j2, k2)), ?_⟩
            simp only [hts]
            have hov2 : OvOk 1 (some (b2, j2, k2)) (ts ++ [y]).length (iis (ts ++ [y])) := by
              rw [iis_app, List.length_append]
              exact OvOk.some hov rfl hj2
            have e1 : (q : Int) - j - 1 = q - ((j + 1 : Nat) : Int) := by omega
            have e2 : (f : Int) + j + 1 = f + ((j + 1 : Nat) : Int) := by omega
            refine ⟨⟨by omega, by omega, hov2⟩, by omega, ⟨rfl, rfl, rfl, rfl, by rw [← e1]; rfl, rfl, by rw [← e2]; rfl, trivial⟩, ?_⟩
            simp only [blkL, iis_app, List.length_append, List.length_singleton, ovp, ovc, List.cons_append, List.nil_append]
            (focus ((repeat' (first | exact Ext.one _ _ | exact Ext.all _ | apply Keep.cons | apply Keep.last | apply Ext.cons)); done))
        · have hend : ps.take j = ps.take q := by
            apply take_eq
            omega
          have hq1 : (q : Int) - j = lft m SD (i + 1) := by rw [hlf]; omega
          have hdo2 := hdo.own hov (f : Int)
          generalize hT : ps.take j = ts at *
          by_cases hjl : j < ps.length
          · repeat' (first | (apply R.is1; first | (apply R.isBin; (apply R.pure; exact rfl; first | (apply Ok1.add64; exact rfl; exact rfl; omega; omega) | (apply Ok1.lss_t; exact rfl; exact rfl; omega) | (apply Ok1.gtr_f; exact rfl; exact rfl; omega))) | (apply R.isCall; (apply R.pure; exact rfl; (apply Ok1.lenS; (iterate 3 exact rfl)))) | (apply R.pure; exact rfl; first | (apply Ok1.load; exact rfl; (apply Ld.blk1; exact rfl; exact rfl; exact hb; exact List.not_mem_nil; exact hcell)) | (apply Ok1.move; exact rfl) | (apply Ok1.fieldAddr; (iterate 5 exact rfl)) | (apply Ok1.assign; exact rfl) | (apply Ok1.indexAddrA; (iterate 5 exact rfl); omega; omega) | (apply Ok1.pick_t; exact rfl; exact rfl) | (apply Ok1.nilCheck; exact rfl))) | (apply R.isG; (apply R.guard_run; exact rfl; exact rfl)) | apply R.nil | (apply T.is; first | apply T.seq | apply T.region | apply T.exit | (apply T.cond_f; exact rfl)))
            refine ⟨(i + 1, dd ++ [((f : Int), ⟨ovp ov, ovc ov ts.length, ts⟩)], blkL 3 ov (iis ts) ++ D), ⟨by omega, by rw [List.length_append, hdl]; rfl, hdo2, ?_⟩, by simp only; omega, ⟨rfl, rfl, rfl, rfl, by rw [← hq1]; rfl, rfl, trivial⟩, by simp only; (focus ((repeat' (first | exact Ext.one _ _ | exact Ext.here _ _ | exact Ext.all _ | apply Keep.cons | apply Keep.app | apply Keep.last)); done))⟩
            rw [pur, List.map_append, ← pur, hpur, List.take_add_one, hcd, hend]
            rfl
          · repeat' (first | (apply R.is1; first | (apply R.isBin; (apply R.pure; exact rfl; first | (apply Ok1.add64; exact rfl; exact rfl; omega; omega) | (apply Ok1.lss_f; exact rfl; exact rfl; omega))) | (apply R.isCall; (apply R.pure; exact rfl; (apply Ok1.lenS; (iterate 3 exact rfl)))) | (apply R.pure; exact rfl; first | (apply Ok1.load; exact rfl; (apply Ld.blk1; exact rfl; exact rfl; exact hb; exact List.not_mem_nil; exact hcell)) | (apply Ok1.move; exact rfl) | (apply Ok1.fieldAddr; (iterate 5 exact rfl)) | (apply Ok1.assign; exact rfl) | (apply Ok1.indexAddrA; (iterate 5 exact rfl); omega; omega) | (apply Ok1.pick_f; exact rfl; exact rfl) | (apply Ok1.nilCheck; exact rfl))) | (apply R.isG; (apply R.guard_not; (iterate 3 exact rfl))) | apply R.nil | (apply T.is; first | apply T.seq | apply T.region | apply T.exit | (apply T.cond_f; exact rfl)))
            refine ⟨(i + 1, dd ++ [((f : Int), ⟨ovp ov, ovc ov ts.length, ts⟩)], blkL 3 ov (iis ts) ++ D), ⟨by omega, by rw [List.length_append, hdl]; rfl, hdo2, ?_⟩, by simp only; omega, ⟨rfl, rfl, rfl, rfl, by rw [← hq1]; rfl, rfl, trivial⟩, by simp only; (focus ((repeat' (first | exact Ext.one _ _ | exact Ext.here _ _ | exact Ext.all _ | apply Keep.cons | apply Keep.app | apply Keep.last)); done))⟩
            rw [pur, List.map_append, ← pur, hpur, List.take_add_one, hcd, hend]
            rfl
    · have hi4 : i = 4 := by omega
      subst hi4
      have hpv := pad_all hdl
      have hl8 := dl_len8r hdl
      have h1c := dl_oner dd
      have hsl : (cutD m SD).length = 4 := by rw [cutD_len, ← hSD, sinD, List.length_map, List.length_zip, minV_len (by rw [lgs, List.length_map, hg.len]) hvl, lgs, List.length_map, hg.len]; rfl
      rw [hpv]
      rw [List.take_of_length_le (by omega)] at hpur
      repeat' (first | (apply R.is1; first | (apply R.isBin; (apply R.pure; exact rfl; (apply Ok1.lss_f; exact rfl; exact rfl; omega))) | (apply R.pure; exact rfl; first | (apply Ok1.load; exact rfl; (apply Ld.ownk; exact rfl; exact rfl; (focus ((repeat' (first | exact At.head | apply At.tail)); done)); exact subE_all hl8)) | (apply Ok1.move; exact rfl))) | (apply R.is0; (apply R.store; (iterate 4 exact rfl); exact hl8; exact h1c; (focus ((repeat' (first | exact Upd.head | apply Upd.tail)); done)); exact setE_all (by rw [hl8]; rfl))) | apply R.nil | (apply T.is; first | apply T.seq | apply T.region | apply T.exit | apply T.ret | (apply T.cond_f; exact rfl)))
      (apply RetOk.c; exact rfl; (apply Ld.ownk; exact rfl; exact rfl; (focus ((repeat' (first | exact At.head | apply At.tail)); done)); exact subE_all hl8))
      exact ⟨D, by (focus ((repeat' (first | exact Ext.all _ | apply Keep.last | apply Ext.cons)); done)), dd, hdl, rfl, hpur, hdo⟩
end Go.Proofs.Ytligpachgcmkcaa
/- Contracts: the statement's sets of logs. -/
set_option linter.unusedSimpArgs false
set_option linter.unusedVariables false
namespace Go.Proofs.Ytligpachgcmkcaa
open Go.RowKit Go.Shelf
set_option maxRecDepth 100000

theorem revL_at {ls : List (List Int)} {i : Nat} {xs : List Int} {dn : List (List Int)} (hd : dn.length = i) (hi : i < 4) (h40 : ∀ y ∈ dn, y.length ≤ 40) (he : ls = dn ++ List.replicate (4 - i) []) (hx : xs.length ≤ 40) :
    ∃ dn', dn'.length = i + 1 ∧ (∀ y ∈ dn', y.length ≤ 40) ∧ revL ls i xs = dn' ++ List.replicate (4 - (i + 1)) [] := by
  have hr : List.replicate (4 - i) ([] : List Int) = [] :: List.replicate (4 - (i + 1)) [] := by rw [show 4 - i = (4 - (i + 1)) + 1 by omega, List.replicate_succ]
  unfold revL
  split
  · refine ⟨dn ++ [xs], by rw [List.length_append, hd]; rfl, fun y hy => ?_, ?_⟩
    · rcases List.mem_append.1 hy with h | h
      · exact h40 y h
      · rw [List.mem_singleton.1 h]; exact hx
    · have hg : ls.getD (i : Int).toNat [] = [] := by
        rw [Int.toNat_natCast, he, hr, List.getD_eq_getElem?_getD, List.getElem?_append_right (by omega), hd, Nat.sub_self]
        rfl
      rw [hg, List.nil_append, Int.toNat_natCast, he, hr, ← hd, List.set_append_right _ _ (Nat.le_refl _), Nat.sub_self]
      simp
  · refine ⟨dn ++ [[]], by rw [List.length_append, hd]; rfl, fun y hy => ?_, ?_⟩
    · rcases List.mem_append.1 hy with h | h
      · exact h40 y h
      · rw [List.mem_singleton.1 h]; exact Nat.zero_le _
    · rw [he, hr]; simp
theorem make9_ok (zs : List Pi) (hz : zs.length = 4) (w : World) (hr : ∀ z ∈ zs, RdSl w z.p iV z.xs ∧ z.xs.length ≤ z.cap) :
    CallM Try.prog 50 [.agg ⟨fl Pi.v zs⟩] [] w fun v L => ∃ bs gs bm ms, v = .tuple #[.pointer (some ⟨bs, 0, none⟩), .pointer (some ⟨bm, 0, none⟩)] ∧ GOk gs ∧ GOk ms ∧ lgs ms = lgs gs ∧ LOk (lgs gs) ∧ (∀ y ∈ lgs gs, y.length ≤ 40) ∧ L = SetL bs gs ++ DSL bm ms := by
  have hfp : (fl Pi.v zs).length = 4 := by rw [fl_pi, List.length_map, hz]
  have hone : (fl Pi.v zs).all Value.oneCell' = true := by rw [fl_pi]; simp [List.all_map, Function.comp_def, Value.oneCell']
  refine enterK (tb := tb) Try.func50 rfl Try.ntmps50 rfl ?_
  repeat' (first | (apply R.is1; first | (apply R.isCall; (apply R.callE (vs := []); (iterate 3 exact rfl); exact Ext.none _; intro w1 hw1; exact rnew_ok w1; rintro v Lo ⟨bs, rfl, rfl⟩)) | (apply R.pure; exact rfl; first | (apply Ok1.assign; exact rfl) | (apply Ok1.build; (iterate 5 exact rfl))) | (apply R.box; (iterate 3 exact rfl); intro)) | apply R.nil | (apply T.is; first | apply T.seq | apply T.region | apply T.block))
  rename_i b1 bm
  apply T.loopK (α := Nat × List Lg × List Lg) (I := fun y => y.1 ≤ 4 ∧ GOk y.2.1 ∧ GOk y.2.2 ∧ lgs y.2.2 = lgs y.2.1 ∧ LOk (lgs y.2.1) ∧ ∃ dn, dn.length = y.1 ∧ (∀ x ∈ dn, x.length ≤ 40) ∧ lgs y.2.1 = dn ++ List.replicate (4 - y.1) []) (σi := fun y => [(1, .pointer (some ⟨b1, 0, none⟩)), (4, .pointer (some ⟨bs, 0, none⟩)), (5, .pointer (some ⟨bm, 0, none⟩)), (6, .int .i64 y.1)])
    (Li := fun y => (b1, .cells ⟨fl Pi.v zs⟩ 30 (0, 0)) :: (SetL bs y.2.1 ++ DSL bm y.2.2)) (μ := fun y => 4 - y.1) (i0 := (0, [lg0, lg0, lg0, lg0], [lg0, lg0, lg0, lg0]))
  · exact ⟨Nat.zero_le _, GOk.new, GOk.new, rfl, (fun xs hx => by simp only [lgs, lg0, List.map_cons, List.map_nil, List.mem_cons, List.not_mem_nil, or_false, or_self] at hx; rw [hx]; exact ⟨(fun y hy => by cases hy), List.nodup_nil, Nat.zero_le _⟩), [], rfl, by simp, rfl⟩
  · exact ⟨rfl, rfl, rfl, rfl, trivial⟩
  · simp only
    (focus ((repeat' (first | exact Keep.nil _ | exact Ext.one _ _ | apply Keep.cons | apply Ext.cons)); done))
  · rintro ⟨i, gs, ms⟩ ⟨hi, hg, hm, hlm, hlo, dn, hdl, h40, hdn⟩
    simp only at hi hg hm hlm hlo hdl hdn ⊢
    rcases Nat.lt_or_ge i 4 with hlt | hge
    · obtain ⟨z, hzi⟩ : ∃ z, zs[i]? = some z := ⟨_, List.getElem?_eq_getElem (by omega)⟩
      obtain ⟨hrd, hcap⟩ := hr z (List.mem_of_getElem? hzi)
      have hcell : (fl Pi.v zs)[0 + i * 1]? = some (.slice z.p z.xs.length z.cap) := by rw [Nat.zero_add, Nat.mul_one, fl_pi, List.getElem?_map, hzi]; rfl
      have hmin : (min (z.xs.length : Int) 40) = ((min z.xs.length 40 : Nat) : Int) := by omega
      have hl : (z.xs.take 40).length = min z.xs.length 40 := by rw [List.length_take]; omega
      have hp2 := hrd.pre iV_len 40
      have hdr := fun ov w1 (h1 : RdSl w1 (ovp ov) iV (z.xs.take 40)) h2 => drevoke_ok bm ms hm (i : Int) (ovp ov) (min z.xs.length 40) (ovc ov (min z.xs.length 40)) (z.xs.take 40) hl.symm (by omega) w1 h1 h2
      have hrv := fun ov w1 (h1 : RdSl w1 (ovp ov) iV (z.xs.take 40)) h2 => revoke_ok bs gs hg (i : Int) (ovp ov) (min z.xs.length 40) (ovc ov (min z.xs.length 40)) (z.xs.take 40) hl.symm (by omega) w1 h1 h2
      rw [hlm] at hdr
      have hnx := revL_at hdl hlt h40 hdn (xs := z.xs.take 40) (by omega)
      have hlo2 := hlo.rev (i : Int) (z.xs.take 40)
      generalize hxs : z.xs.take 40 = xs at *
      generalize min z.xs.length 40 = n at *
      have hrl : revE (lgs gs) i xs ≠ 0 → revL (lgs gs) i xs = lgs gs := fun h => by rw [revL, if_neg h]
      generalize hE : revE (lgs gs) i xs = E at *
      generalize hLS : SetL bs gs = LS at *
      generalize hLM : DSL bm ms = LM at *
      by_cases hE0 : E = 0
      · rw [hE0] at hdr hrv
        repeat' (first | (apply R.is1; first | (apply R.isBin; (apply R.pure; exact rfl; (apply Ok1.lss_t; exact rfl; exact rfl; omega))) | (apply R.pure; exact rfl; (apply Ok1.move; exact rfl))) | apply R.nil | (apply T.is; first | (apply T.drawC (id := 6) [0] (by decide); ((apply A.take 1; exact rfl; exact rfl; kernel_rfl; kernel_rfl; kernel_rfl; (apply Ok1.move; exact rfl)) <;> (apply A.take 2; exact rfl; exact rfl; kernel_rfl; kernel_rfl; kernel_rfl; (apply Ok1.indexAddrA; (iterate 5 exact rfl); omega; omega)) <;> (apply A.take 3; exact rfl; exact rfl; kernel_rfl; kernel_rfl; kernel_rfl; (apply Ok1.load; exact rfl; (apply Ld.own1; exact rfl; exact rfl; exact At.head; exact hcell))) <;> (apply A.take 4; exact rfl; exact rfl; kernel_rfl; kernel_rfl; kernel_rfl; (apply Ok1.move; exact rfl)) <;> (apply A.take 5; exact rfl; exact rfl; kernel_rfl; kernel_rfl; kernel_rfl; (apply Ok1.indexAddrA; (iterate 5 exact rfl); omega; omega)) <;> (apply A.take 6; exact rfl; exact rfl; kernel_rfl; kernel_rfl; kernel_rfl; (apply Ok1.load; exact rfl; (apply Ld.own1; exact rfl; exact rfl; exact At.head; exact hcell))) <;> (apply A.take 7; exact rfl; exact rfl; kernel_rfl; kernel_rfl; kernel_rfl; (apply Ok1.lenS; (iterate 3 exact rfl))) <;> (apply A.take 8; exact rfl; exact rfl; kernel_rfl; kernel_rfl; kernel_rfl; (apply Ok1.min2E; exact rfl; exact rfl; exact hmin)) <;> (apply A.take 9; exact rfl; exact rfl; kernel_rfl; kernel_rfl; kernel_rfl; (apply Ok1.preR (i := n); (iterate 5 exact rfl); omega)) <;> (apply A.one 0; kernel_rfl; exact rfl; (((apply R.buildSlice0; (iterate 4 exact rfl); intro b0))); apply R.nil; refine ⟨?_, ?_⟩; (focus ((repeat' (first | exact trivial | (refine ⟨?_, ?_⟩; (focus ((repeat' (first | exact At.head | apply At.tail)); done)))))))) <;> (apply A.one 10; kernel_rfl; exact rfl; (((apply R.appendRd (xs := xs) (v := iV) (sz := 1) (ov := some (_, 0, [])) (n := 0) (old := []) (m := n); (iterate 12 exact rfl); exact ⟨rfl, rfl⟩; (focus ((repeat' (exact Ext.one _ _)); done)); exact hl.symm; exact iV_len; exact rfl; (intro w1 hw1; exact hp2.chg hw1.chg (Off.nil _)); (focus (rw [fl_i]; exact iis_one _)); omega; intro ov1 hov1 hsome))); apply R.nil; refine ⟨?_, ?_⟩; (focus ((repeat' (first | exact trivial | (refine ⟨?_, ?_⟩; (focus ((repeat' (first | exact At.head | apply At.right)); done)))))))) <;> (apply A.take 11; exact rfl; exact rfl; kernel_rfl; kernel_rfl; kernel_rfl; (apply Ok1.assign; exact rfl)) <;> (apply A.done; kernel_rfl))) | apply T.seq | apply T.region | apply T.block | apply T.skip | (apply T.cond_t; exact rfl)))
        rw [Nat.zero_add, List.nil_append, fl_i] at hov1
        rw [Nat.zero_add, List.nil_append, fl_i, slV_eq hov1]
        rw [← hl] at hov1
        repeat' (first | (apply R.is1; first | (apply R.isBin; (apply R.pure; exact rfl; first | (apply Ok1.add64; exact rfl; exact rfl; omega; omega) | (apply Ok1.eql_t; exact rfl; exact rfl; omega))) | (apply R.isCall; first | (apply R.callE (Li := LM) (vs := [.pointer (some ⟨bm, 0, none⟩), .int .i64 i, .slice (ovp ov1) n (ovc ov1 n)]); (iterate 3 exact rfl); (focus ((repeat' (first | exact Ext.all _ | apply Ext.cons | apply Ext.app)); done)); intro w1 hw1; exact hdr ov1 w1 (irdown hov1 hw1 (Ext.mem (by (focus ((repeat' (exact Ext.here _ _)); done))))) (fun _ => ovoff (xs := iis xs) (e := 3) (Li := LM) hw1 (by (focus ((repeat' (first | exact Ext.all _ | apply Ext.cons | apply Ext.app)); done))) (Ext.mem (by (focus ((repeat' (exact Ext.here _ _)); done))))); rintro v Lo ⟨ms', rfl, hgm, hm', rfl⟩) | (apply R.callE (Li := LS) (vs := [.pointer (some ⟨bs, 0, none⟩), .int .i64 i, .slice (ovp ov1) n (ovc ov1 n)]); (iterate 3 exact rfl); (focus ((repeat' (first | exact Ext.here _ _ | apply Ext.cons | apply Ext.app)); done)); intro w1 hw1; exact hrv ov1 w1 (irdown hov1 hw1 (Ext.mem (by (focus ((repeat' (first | exact Ext.here _ _ | apply Ext.cons | apply Ext.app)); done))))) (fun _ => ovoff (xs := iis xs) (e := 3) (Li := LS) hw1 (by (focus ((repeat' (first | exact Ext.here _ _ | apply Ext.cons | apply Ext.app)); done))) (Ext.mem (by (focus ((repeat' (first | exact Ext.here _ _ | apply Ext.cons | apply Ext.app)); done))))); rintro v Lo ⟨gs', rfl, hgl, hg', rfl⟩)) | (apply R.pure; exact rfl; first | (apply Ok1.move; exact rfl) | (apply Ok1.assign; exact rfl))) | apply R.nil | (apply T.is; first | apply T.region | (apply T.cond_t; exact rfl)))
        exact ⟨(i + 1, gs', ms'), ⟨by omega, hg', hm', by rw [hgl, hgm], by rw [hgl]; exact hlo2, by rw [hgl]; exact hnx⟩, by simp only; omega, ⟨rfl, rfl, rfl, rfl, trivial⟩, by (focus ((repeat' (first | exact Ext.one _ _ | exact Ext.here _ _ | apply Keep.cons | apply Keep.app | apply Keep.last | apply Ext.cons | apply Ext.app)); done))⟩
      · repeat' (first | (apply R.is1; first | (apply R.isBin; (apply R.pure; exact rfl; (apply Ok1.lss_t; exact rfl; exact rfl; omega))) | (apply R.pure; exact rfl; (apply Ok1.move; exact rfl))) | apply R.nil | (apply T.is; first | (apply T.drawC (id := 6) [0] (by decide); ((apply A.take 1; exact rfl; exact rfl; kernel_rfl; kernel_rfl; kernel_rfl; (apply Ok1.move; exact rfl)) <;> (apply A.take 2; exact rfl; exact rfl; kernel_rfl; kernel_rfl; kernel_rfl; (apply Ok1.indexAddrA; (iterate 5 exact rfl); omega; omega)) <;> (apply A.take 3; exact rfl; exact rfl; kernel_rfl; kernel_rfl; kernel_rfl; (apply Ok1.load; exact rfl; (apply Ld.own1; exact rfl; exact rfl; exact At.head; exact hcell))) <;> (apply A.take 4; exact rfl; exact rfl; kernel_rfl; kernel_rfl; kernel_rfl; (apply Ok1.move; exact rfl)) <;> (apply A.take 5; exact rfl; exact rfl; kernel_rfl; kernel_rfl; kernel_rfl; (apply Ok1.indexAddrA; (iterate 5 exact rfl); omega; omega)) <;> (apply A.take 6; exact rfl; exact rfl; kernel_rfl; kernel_rfl; kernel_rfl; (apply Ok1.load; exact rfl; (apply Ld.own1; exact rfl; exact rfl; exact At.head; exact hcell))) <;> (apply A.take 7; exact rfl; exact rfl; kernel_rfl; kernel_rfl; kernel_rfl; (apply Ok1.lenS; (iterate 3 exact rfl))) <;> (apply A.take 8; exact rfl; exact rfl; kernel_rfl; kernel_rfl; kernel_rfl; (apply Ok1.min2E; exact rfl; exact rfl; exact hmin)) <;> (apply A.take 9; exact rfl; exact rfl; kernel_rfl; kernel_rfl; kernel_rfl; (apply Ok1.preR (i := n); (iterate 5 exact rfl); omega)) <;> (apply A.one 0; kernel_rfl; exact rfl; (((apply R.buildSlice0; (iterate 4 exact rfl); intro b0))); apply R.nil; refine ⟨?_, ?_⟩; (focus ((repeat' (first | exact trivial | (refine ⟨?_, ?_⟩; (focus ((repeat' (first | exact At.head | apply At.tail)); done)))))))) <;> (apply A.one 10; kernel_rfl; exact rfl; (((apply R.appendRd (xs := xs) (v := iV) (sz := 1) (ov := some (_, 0, [])) (n := 0) (old := []) (m := n); (iterate 12 exact rfl); exact ⟨rfl, rfl⟩; (focus ((repeat' (exact Ext.one _ _)); done)); exact hl.symm; exact iV_len; exact rfl; (intro w1 hw1; exact hp2.chg hw1.chg (Off.nil _)); (focus (rw [fl_i]; exact iis_one _)); omega; intro ov1 hov1 hsome))); apply R.nil; refine ⟨?_, ?_⟩; (focus ((repeat' (first | exact trivial | (refine ⟨?_, ?_⟩; (focus ((repeat' (first | exact At.head | apply At.right)); done)))))))) <;> (apply A.take 11; exact rfl; exact rfl; kernel_rfl; kernel_rfl; kernel_rfl; (apply Ok1.assign; exact rfl)) <;> (apply A.done; kernel_rfl))) | apply T.seq | apply T.region | apply T.block | apply T.skip | (apply T.cond_t; exact rfl)))
        rw [Nat.zero_add, List.nil_append, fl_i] at hov1
        rw [Nat.zero_add, List.nil_append, fl_i, slV_eq hov1]
        rw [← hl] at hov1
        repeat' (first | (apply R.is1; first | (apply R.isBin; (apply R.pure; exact rfl; first | (apply Ok1.add64; exact rfl; exact rfl; omega; omega) | (apply Ok1.eql_f; exact rfl; exact rfl; omega))) | (apply R.isCall; (apply R.callE (Li := LM) (vs := [.pointer (some ⟨bm, 0, none⟩), .int .i64 i, .slice (ovp ov1) n (ovc ov1 n)]); (iterate 3 exact rfl); (focus ((repeat' (first | exact Ext.all _ | apply Ext.cons | apply Ext.app)); done)); intro w1 hw1; exact hdr ov1 w1 (irdown hov1 hw1 (Ext.mem (by (focus ((repeat' (exact Ext.here _ _)); done))))) (fun _ => ovoff (xs := iis xs) (e := 3) (Li := LM) hw1 (by (focus ((repeat' (first | exact Ext.all _ | apply Ext.cons | apply Ext.app)); done))) (Ext.mem (by (focus ((repeat' (exact Ext.here _ _)); done))))); rintro v Lo ⟨ms', rfl, hgm, hm', rfl⟩)) | (apply R.pure; exact rfl; first | (apply Ok1.move; exact rfl) | (apply Ok1.assign; exact rfl))) | apply R.nil | (apply T.is; first | apply T.region | apply T.skip | (apply T.cond_f; exact rfl)))
        have hgm2 := hgm.trans (hrl hE0)
        rw [hrl hE0] at hnx
        exact ⟨(i + 1, gs, ms'), ⟨by omega, hg, hm', hgm2, hlo, hnx⟩, by simp only; omega, ⟨rfl, rfl, rfl, rfl, trivial⟩, by simp only [hLS]; (focus ((repeat' (first | exact Ext.one _ _ | exact Ext.here _ _ | apply Keep.cons | apply Keep.app | apply Keep.last | apply Ext.cons | apply Ext.app)); done))⟩
    · have hi4 : i = 4 := by omega
      subst hi4
      repeat' (first | (apply R.is1; first | (apply R.isBin; (apply R.pure; exact rfl; (apply Ok1.lss_f; exact rfl; exact rfl; omega))) | (apply R.pure; exact rfl; first | (apply Ok1.move; exact rfl) | (apply Ok1.assign; exact rfl))) | apply R.nil | (apply T.is; first | apply T.seq | apply T.region | apply T.exit | apply T.ret | (apply T.cond_f; exact rfl)))
      (apply RetOk.tt; exact rfl; exact rfl)
      refine ⟨_, ?_, bs, gs, bm, ms, rfl, hg, hm, hlm, hlo, ?_, rfl⟩
      · (focus ((repeat' (first | exact Ext.one _ _ | exact Ext.here _ _ | exact Ext.all _ | apply Keep.cons | apply Keep.app | apply Keep.last | apply Ext.cons)); done))
      · intro y hy
        rw [hdn, Nat.sub_self, List.replicate_zero, List.append_nil] at hy
        exact h40 y hy
end Go.Proofs.Ytligpachgcmkcaa
