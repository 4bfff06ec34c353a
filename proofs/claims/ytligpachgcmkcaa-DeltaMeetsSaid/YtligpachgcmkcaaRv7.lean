/- Contracts of revoke: a delta applied. -/
import Derived.Test.YtligpachgcmkcaaRv6
set_option linter.unusedSimpArgs false
set_option linter.unusedVariables false
namespace Go.Proofs.Ytligpachgcmkcaa
open Go.RowKit Go.Shelf
set_option maxRecDepth 100000

/-- A log, from where, and the delta's part of it. -/
abbrev Jx := List Int × Int × List Int
def JE (x : Jx) : Int := jE x.1 x.2.2 x.2.1.toNat
def JL (x : Jx) : List Int := jL x.1 x.2.2 x.2.1.toNat
def DR (dd : List (Int × List Int)) : Prop := ∀ y ∈ dd, 0 ≤ y.1 ∧ y.1 ≤ 256 ∧ y.2.length ≤ 256 ∧ SR y.2
instance (dd : List (Int × List Int)) : Decidable (DR dd) := by unfold DR; infer_instance
def appE (zz : List Jx) : Int := if ∃ x ∈ zz, (x.1.length : Int) < x.2.1 then 9 else if ∃ x ∈ zz, JE x = 3 then 3 else if ∃ x ∈ zz, JE x = 6 then 6 else 0
def appX (ls : List (List Int)) (dd : List (Int × List Int)) : Int := if DR dd then appE (ls.zip dd) else 10
def appN (ls : List (List Int)) (dd : List (Int × List Int)) : Int := if appX ls dd = 0 then ((ls.zip dd).map fun x => ((JL x).length : Int) - x.1.length).sum else 0
def appL (ls : List (List Int)) (dd : List (Int × List Int)) : List (List Int) := if appX ls dd = 0 then (ls.zip dd).map JL else ls
theorem je_cases (x : Jx) : JE x = 0 ∨ JE x = 3 ∨ JE x = 6 := by
  unfold JE jE
  by_cases c1 : (x.1.drop x.2.1.toNat).take (both x.1 x.2.2 x.2.1.toNat) ≠ x.2.2.take (both x.1 x.2.2 x.2.1.toNat)
  · exact .inr (.inl (if_pos c1))
  · rw [if_neg c1]
    by_cases c2 : ¬ (jAll x.1 x.2.2 x.2.1.toNat).Nodup
    · exact .inr (.inl (if_pos c2))
    · rw [if_neg c2]
      by_cases c3 : 256 < (jAll x.1 x.2.2 x.2.1.toNat).length
      · exact .inr (.inr (if_pos c3))
      · exact .inl (if_neg c3)
theorem jl_len (x : Jx) : (JL x).length ≤ 256 := by
  unfold JL jL
  by_cases h : jE x.1 x.2.2 x.2.1.toNat = 0
  · rw [if_pos h]
    unfold jE at h
    split at h
    · cases h
    · split at h
      · cases h
      · split at h
        · cases h
        · omega
  · rw [if_neg h]; simp
theorem covers_list (us vs : List Int) (ha : us.length = 4) (hb : vs.length = 4) : CallP Try.prog 20 [.agg ⟨iis us⟩, .agg ⟨iis vs⟩] (.bool (decide (∀ x ∈ us.zip vs, x.2 ≤ x.1))) := by
  match us, vs, ha, hb with
  | [a0, a1, a2, a3], [b0, b1, b2, b3], _, _ =>
    have h := covers_ok a0 a1 a2 a3 b0 b1 b2 b3
    have he : decide (b0 ≤ a0 ∧ b1 ≤ a1 ∧ b2 ≤ a2 ∧ b3 ≤ a3) = decide (∀ x ∈ [a0, a1, a2, a3].zip [b0, b1, b2, b3], x.2 ≤ x.1) := by
      simp
    rw [he] at h
    exact h
def zz (gs : List Lg) (d : Dl) : List Jx := (lgs gs).zip (d.map fun x => (x.1, x.2.xs))
theorem zz_get {gs : List Lg} {d : Dl} {i : Nat} {g : Lg} {x : Int × Pi} (h1 : gs[i]? = some g) (h2 : d[i]? = some x) : (zz gs d)[i]? = some (g.xs, x.1, x.2.xs) := by
  rw [zz, List.getElem?_zip_eq_some]
  simp [lgs, h1, h2]
theorem zz_len {gs : List Lg} {d : Dl} (h1 : gs.length = 4) (h2 : d.length = 4) : (zz gs d).length = 4 := by simp [zz, lgs, h1, h2]
def sumN (l : List Jx) : Int := (l.map fun x => ((JL x).length : Int) - x.1.length).sum
theorem sumN_snoc {l : List Jx} {i : Nat} {x : Jx} (h : l[i]? = some x) : sumN (l.take (i + 1)) = sumN (l.take i) + (((JL x).length : Int) - x.1.length) := by
  unfold sumN
  rw [List.take_add_one, h]
  simp
def fullB (l : List Jx) : Bool := l.any fun x => decide (JE x = 6)
theorem fullB_snoc {l : List Jx} {i : Nat} {x : Jx} (h : l[i]? = some x) : fullB (l.take (i + 1)) = (fullB (l.take i) || decide (JE x = 6)) := by
  unfold fullB
  rw [List.take_add_one, h, List.any_append]
  simp
theorem apply_nil (d : Dl) : CallP Try.prog 17 [.pointer none, .agg ⟨dlV d⟩] (.tuple #[.int .i64 0, .int .i64 11]) := by
  refine enterP (tb := tb) Try.func17 rfl Try.ntmps17 rfl fun w => ?_
  repeat' (first | (apply R.is1; first | (apply R.isBin; (apply R.pure; exact rfl; (apply Ok1.eqlP; (iterate 5 exact rfl)))) | (apply R.pure; exact rfl; first | (apply Ok1.move; exact rfl) | (apply Ok1.assign; exact rfl)) | (apply R.box; (iterate 3 exact rfl); intro)) | apply R.nil | (apply T.is; first | apply T.seq | apply T.region | apply T.ret | (apply T.cond_t; exact rfl)))
  all_goals (apply RetOk.tt; exact rfl; exact rfl)
  all_goals rfl
theorem lens_eq (gs : List Lg) : lens gs = iis (gs.map fun g => (g.xs.length : Int)) := by simp [lens, iis]
theorem sumN_le (l : List Jx) (h : ∀ x ∈ l, x.1.length ≤ 256) : -(256 * (l.length : Int)) ≤ sumN l ∧ sumN l ≤ 256 * (l.length : Int) := by
  induction l with
  | nil => simp [sumN]
  | cons x l ih =>
    have h1 := h x List.mem_cons_self
    have h2 := jl_len x
    have h3 := ih fun y hy => h y (List.mem_cons_of_mem _ hy)
    simp only [sumN, List.map_cons, List.sum_cons, List.length_cons] at *
    omega
theorem setV_all {gs : List Lg} (hl : gs.length = 4) : subE (setV gs) 0 4 = some (setV gs) := by
  exact subE_all (by rw [setV, List.length_map, hl])
theorem set_mid {α : Type} {A : List α} {n i : Nat} {z y : α} (h : A.length = i) : (A ++ List.replicate (n + 1) z).set i y = (A ++ [y]) ++ List.replicate n z := by
  subst h
  rw [List.set_append_right _ _ (Nat.le_refl _), Nat.sub_self, List.replicate_succ, List.set_cons_zero, List.append_assoc]
  rfl
theorem apply_ok (bs : Nat) (gs : List Lg) (hg : GOk gs) (d : Dl) (hd : d.length = 4) (hdb : ∀ x ∈ d, x.2.xs.length ≤ 1000000 ∧ x.2.xs.length ≤ x.2.cap) (w : World) (hr : ∀ x ∈ d, RdSl w x.2.p iV x.2.xs) (hoff : ∀ x ∈ d, x.2.xs ≠ [] → Off x.2.p (blks (SetL bs gs))) :
    CallM Try.prog 17 [.pointer (some ⟨bs, 0, none⟩), .agg ⟨dlV d⟩] (SetL bs gs) w fun v L => ∃ gs', v = .tuple #[.int .i64 (appN (lgs gs) (d.map fun x => (x.1, x.2.xs))), .int .i64 (appX (lgs gs) (d.map fun x => (x.1, x.2.xs)))] ∧ lgs gs' = appL (lgs gs) (d.map fun x => (x.1, x.2.xs)) ∧ GOk gs' ∧ L = SetL bs gs' := by
  have hrd := fun x hx w1 (hc : Chg (blks (SetL bs gs)) w w1) => (hr x hx).chg' hc (hoff x hx)
  have hchk := fun w1 (hc : Chg (blks (SetL bs gs)) w w1) => rcheck_ok d hd (fun x hx => (hdb x hx).1) w1 (fun x hx => hrd x hx w1 hc)
  have hdr : DOk d ↔ DR (d.map fun x => (x.1, x.2.xs)) := by
    unfold DOk DR
    rw [List.forall_mem_map]
    exact Iff.rfl
  have hdl : (dlV d).length = 8 := by simp [dlV, fl_pi, iis_len, hd]
  have hfr := dl_froms hd
  by_cases hok : DOk d
  · rw [if_pos hok] at hchk
    have hX : appX (lgs gs) (d.map fun x => (x.1, x.2.xs)) = appE (zz gs d) := if_pos (hdr.1 hok)
    have hN : appN (lgs gs) (d.map fun x => (x.1, x.2.xs)) = if appE (zz gs d) = 0 then sumN (zz gs d) else 0 := by rw [appN, hX]; rfl
    have hLL : appL (lgs gs) (d.map fun x => (x.1, x.2.xs)) = if appE (zz gs d) = 0 then (zz gs d).map JL else lgs gs := by rw [appL, hX]; rfl
    rw [hX, hN, hLL]
    clear hX hN hLL
    have hcov := covers_list (gs.map fun g => (g.xs.length : Int)) (d.map (·.1)) (by rw [List.length_map, hg.len]) (by rw [List.length_map, hd])
    rw [← lens_eq] at hcov
    have hver : ∀ L w1, (∀ x ∈ SetL bs gs, x ∈ L) → Hp w (blks (SetL bs gs)) L w1 → CallW Try.prog 14 [.pointer (some ⟨bs, 0, none⟩)] w1 fun v _ => v = .agg ⟨lens gs⟩ := fun L w1 hin hw1 => versions_ok bs gs hg w1 (SetR.of hg hw1 hin)
    have hall9 : (∀ x ∈ (gs.map fun g => (g.xs.length : Int)).zip (d.map (·.1)), x.2 ≤ x.1) ↔ ¬ ∃ x ∈ zz gs d, (x.1.length : Int) < x.2.1 := by
      unfold zz lgs
      rw [List.zip_map, List.zip_map, List.forall_mem_map]
      constructor
      · rintro h ⟨y, hy, hq⟩
        obtain ⟨z, hz, rfl⟩ := List.mem_map.1 hy
        have h5 := h z hz
        simp only [Prod.map] at h5 hq
        omega
      · intro h z hz
        refine Classical.byContradiction fun hc => h ⟨_, List.mem_map.2 ⟨z, hz, rfl⟩, ?_⟩
        simp only [Prod.map] at hc ⊢
        omega
    by_cases h9 : ∃ x ∈ zz gs d, (x.1.length : Int) < x.2.1
    · have hE : appE (zz gs d) = 9 := if_pos h9
      rw [hE, if_neg (by decide), if_neg (by decide)]
      rw [decide_eq_false (fun h => (hall9.1 h) h9)] at hcov
      refine enterK (tb := tb) Try.func17 rfl Try.ntmps17 rfl ?_
      simp only [SetL]
      repeat' (first | (apply R.is1; first | (apply R.isBin; (apply R.pure; exact rfl; first | (apply Ok1.neq_f; exact rfl; exact rfl; omega) | (apply Ok1.eqlP; (iterate 5 exact rfl)))) | (apply R.isCall; (apply R.callV (vs := [.agg ⟨dlV d⟩]); (iterate 3 exact rfl); intro w1 hw1; exact hchk w1 hw1.chg)) | (apply R.pure; exact rfl; first | (apply Ok1.load; exact rfl; (apply Ld.ownk; exact rfl; exact rfl; exact At.head; exact subE_all hdl)) | (apply Ok1.move; exact rfl) | (apply Ok1.assign; exact rfl)) | (apply R.box; (iterate 3 exact rfl); intro)) | apply R.nil | (apply T.is; first | (apply T.drawC (id := 6) [0] (by decide); ((apply A.take 0; exact rfl; exact rfl; kernel_rfl; kernel_rfl; kernel_rfl; (apply Ok1.move; exact rfl)) <;> (apply A.take 2; exact rfl; exact rfl; kernel_rfl; kernel_rfl; kernel_rfl; (apply Ok1.fieldAddr; (iterate 5 exact rfl))) <;> (apply A.take 3; exact rfl; exact rfl; kernel_rfl; kernel_rfl; kernel_rfl; (apply Ok1.load; exact rfl; (apply Ld.ownk; exact rfl; exact rfl; exact At.head; exact hfr))) <;> (apply A.one 1; kernel_rfl; exact rfl; (((apply R.callV (vs := [.pointer (some ⟨bs, 0, none⟩)]); (iterate 3 exact rfl); intro w1 hw1; exact hver _ w1 (fun x hx => List.mem_cons_of_mem _ hx) hw1))); apply R.nil; refine ⟨?_, ?_⟩; (focus ((repeat' (first | exact trivial | (refine ⟨?_, ?_⟩; exact At.head)))))) <;> (apply A.one 4; kernel_rfl; exact rfl; ((apply R.callP rfl rfl rfl hcov)); apply R.nil; refine ⟨?_, ?_⟩; (focus ((repeat' (first | exact trivial | (refine ⟨?_, ?_⟩; exact At.head)))))) <;> (apply A.take 5; exact rfl; exact rfl; kernel_rfl; kernel_rfl; kernel_rfl; (apply Ok1.not_f; exact rfl)) <;> (apply A.done; kernel_rfl))) | apply T.seq | apply T.region | apply T.skip | apply T.ret | (apply T.cond_t; exact rfl) | (apply T.cond_f; exact rfl)))
      (apply RetOk.tt; exact rfl; exact rfl)
      exact ⟨_, by (focus ((repeat' (first | exact Ext.one _ _ | exact Ext.all _ | apply Keep.cons | apply Keep.last | apply Ext.cons)); done)), gs, rfl, rfl, hg, rfl⟩
    · have hE : appE (zz gs d) = if ∃ x ∈ zz gs d, JE x = 3 then 3 else if ∃ x ∈ zz gs d, JE x = 6 then 6 else 0 := if_neg h9
      rw [decide_eq_true (hall9.2 h9)] at hcov
      have hzl := zz_len hg.len hd
      have hz256 : ∀ x ∈ zz gs d, x.1.length ≤ 256 := by
        intro x hx
        unfold zz lgs at hx
        obtain ⟨g, hgm, he⟩ := List.mem_map.1 (List.of_mem_zip hx).1
        rw [← he]
        exact hg.le g hgm
      refine enterK (tb := tb) Try.func17 rfl Try.ntmps17 rfl ?_
      simp only [SetL]
      repeat' (first | (apply R.is1; first | (apply R.isBin; (apply R.pure; exact rfl; first | (apply Ok1.neq_f; exact rfl; exact rfl; omega) | (apply Ok1.eqlP; (iterate 5 exact rfl)))) | (apply R.isCall; first | (apply R.callV (vs := [.agg ⟨dlV d⟩]); (iterate 3 exact rfl); intro w1 hw1; exact hchk w1 hw1.chg) | (apply R.callE (vs := []); (iterate 3 exact rfl); exact Ext.none _; intro w1 hw1; exact rnew_ok w1; rintro v Lo ⟨bc, rfl, rfl⟩)) | (apply R.pure; exact rfl; first | (apply Ok1.load; exact rfl; (apply Ld.ownk; exact rfl; exact rfl; exact At.head; exact subE_all hdl)) | (apply Ok1.move; exact rfl) | (apply Ok1.assign; exact rfl)) | (apply R.box; (iterate 3 exact rfl); intro)) | apply R.nil | (apply T.is; first | (apply T.drawC (id := 6) [0] (by decide); ((apply A.take 0; exact rfl; exact rfl; kernel_rfl; kernel_rfl; kernel_rfl; (apply Ok1.move; exact rfl)) <;> (apply A.take 2; exact rfl; exact rfl; kernel_rfl; kernel_rfl; kernel_rfl; (apply Ok1.fieldAddr; (iterate 5 exact rfl))) <;> (apply A.take 3; exact rfl; exact rfl; kernel_rfl; kernel_rfl; kernel_rfl; (apply Ok1.load; exact rfl; (apply Ld.ownk; exact rfl; exact rfl; exact At.head; exact hfr))) <;> (apply A.one 1; kernel_rfl; exact rfl; (((apply R.callV (vs := [.pointer (some ⟨bs, 0, none⟩)]); (iterate 3 exact rfl); intro w1 hw1; exact hver _ w1 (fun x hx => List.mem_cons_of_mem _ hx) hw1))); apply R.nil; refine ⟨?_, ?_⟩; (focus ((repeat' (first | exact trivial | (refine ⟨?_, ?_⟩; exact At.head)))))) <;> (apply A.one 4; kernel_rfl; exact rfl; ((apply R.callP rfl rfl rfl hcov)); apply R.nil; refine ⟨?_, ?_⟩; (focus ((repeat' (first | exact trivial | (refine ⟨?_, ?_⟩; exact At.head)))))) <;> (apply A.take 5; exact rfl; exact rfl; kernel_rfl; kernel_rfl; kernel_rfl; (apply Ok1.not_t; exact rfl)) <;> (apply A.done; kernel_rfl))) | apply T.seq | apply T.region | apply T.block | apply T.skip | (apply T.cond_f; exact rfl)))
      rename_i bd
      apply T.loopK (α := Nat × List Lg) (I := fun y => y.1 ≤ 4 ∧ GOk y.2 ∧ lgs y.2 = ((zz gs d).take y.1).map JL ++ List.replicate (4 - y.1) [] ∧ ∀ x ∈ (zz gs d).take y.1, JE x ≠ 3)
        (σi := fun y => [(0, .pointer (some ⟨bs, 0, none⟩)), (3, .pointer (some ⟨bd, 0, none⟩)), (7, .pointer (some ⟨bc, 0, none⟩)), (8, .int .i64 (sumN ((zz gs d).take y.1))), (9, .bool (fullB ((zz gs d).take y.1))), (27, .int .i64 y.1)])
        (Li := fun y => (bd, .cells ⟨dlV d⟩ 41 (0, 0)) :: (bs, .cells ⟨setV gs⟩ 103 (0, 0)) :: (bc, .cells ⟨setV y.2⟩ 103 (0, 0)) :: (LsL gs ++ LsL y.2)) (μ := fun y => 4 - y.1) (i0 := (0, [lg0, lg0, lg0, lg0]))
      · exact ⟨Nat.zero_le _, GOk.new, rfl, by simp⟩
      · exact ⟨rfl, rfl, rfl, rfl, rfl, rfl, trivial⟩
      · simp only [SetL, List.cons_append]
        (focus ((repeat' (first | exact Keep.nil _ | exact Ext.one _ _ | exact Ext.all _ | apply Keep.cons | apply Keep.app | apply Ext.cons)); done))
      · rintro ⟨i, gs2⟩ ⟨hi, hg2, hlg2, hn3⟩
        simp only at hi hg2 hlg2 hn3 ⊢
        rcases Nat.lt_or_ge i 4 with hlt | hge
        · obtain ⟨g, hx1⟩ : ∃ g, gs[i]? = some g := ⟨_, List.getElem?_eq_getElem (by rw [hg.len]; omega)⟩
          obtain ⟨x, hx2⟩ : ∃ x, d[i]? = some x := ⟨_, List.getElem?_eq_getElem (by rw [hd]; omega)⟩
          obtain ⟨g2, hx3⟩ : ∃ g2, gs2[i]? = some g2 := ⟨_, List.getElem?_eq_getElem (by rw [hg2.len]; omega)⟩
          have hm := List.mem_of_getElem? hx1
          have hgo := hg.ok g hm
          have hgl := hg.le g hm
          have hxm := List.mem_of_getElem? hx2
          obtain ⟨hx0, hx256, hxl, _⟩ := hok x hxm
          have hxc := (hdb x hxm).2
          have hz := zz_get hx1 hx2
          have hzm := List.mem_of_getElem? hz
          obtain ⟨k, hk⟩ : ∃ k : Nat, x.1 = k := ⟨x.1.toNat, by omega⟩
          have hle : k ≤ g.xs.length := by
            have hnl : ¬ ((g.xs.length : Int) < x.1) := fun h => h9 ⟨_, hzm, h⟩
            omega
          have hcell := setV_get hx1 hgo
          have hf : (dlV d)[0 + i * 1]? = some (.int .i64 k) := by
            have := dl_from hx2
            rw [Nat.zero_add, dlV, List.getElem?_append_left (by rw [iis_len, List.length_map]; omega), this, hk]
          have hl4 := dl_log hd hx2
          have hJE : JE (g.xs, x.1, x.2.xs) = jE g.xs x.2.xs k := by rw [JE, hk, Int.toNat_natCast]
          have hJL : JL (g.xs, x.1, x.2.xs) = jL g.xs x.2.xs k := by rw [JL, hk, Int.toNat_natCast]
          have hjl := jl_len (g.xs, x.1, x.2.xs)
          have hjc := je_cases (g.xs, x.1, x.2.xs)
          have hsn := sumN_snoc hz
          have hfn := fullB_snoc hz
          rw [hJL] at hjl hsn
          rw [hJE] at hjc hfn
          have hsb := sumN_le ((zz gs d).take i) fun y hy => hz256 y (List.mem_of_mem_take hy)
          have htl : ((zz gs d).take i).length = i := by rw [List.length_take]; omega
          rw [htl] at hsb
          have hset := fun g' => setV_set (gs := gs2) (i := i) g' (by rw [hg2.len]; omega)
          have hjo : ∀ w1 L, Hp w (blks (SetL bs gs)) L w1 → (∃ L1, Ext L (LsL gs) L1) → CallM Try.prog 60 [.slice (ovp g.ov) g.xs.length (ovc g.ov g.xs.length), .int .i64 k, .slice x.2.p x.2.xs.length x.2.cap] [] w1 fun v L => ∃ ov, v = .tuple #[slV ov (jL g.xs x.2.xs k).length, .int .i64 (jE g.xs x.2.xs k)] ∧ OvOk 1 ov (jL g.xs x.2.xs k).length (iis (jL g.xs x.2.xs k)) ∧ L = blkL 3 ov (iis (jL g.xs x.2.xs k)) := by
            rintro w1 L hw1 ⟨L1, hL1⟩
            have hcc : g.xs.length ≤ ovc g.ov g.xs.length := by
              unfold ovc
              cases hov : g.ov with
              | none => have := hgo.2; rw [hov] at this; simp only at this ⊢; omega
              | some q => simp only; omega
            exact joined_ok _ _ _ g.xs rfl hcc hgl k hle _ _ _ x.2.xs rfl hxc hxl w1 (Lg.rd hgo hw1 fun z hz => Ext.mem hL1 z (mem_LsL hm hz)) (hrd x hxm w1 hw1.chg)
          have hmem3 : (g.xs, x.1, x.2.xs) ∈ (zz gs d).take (i + 1) := by
            rw [List.take_add_one, hz]
            exact List.mem_append_right _ (List.mem_singleton.2 rfl)
          have hnext : ∀ ov, OvOk 1 ov (jL g.xs x.2.xs k).length (iis (jL g.xs x.2.xs k)) → jE g.xs x.2.xs k ≠ 3 → (i + 1 ≤ 4 ∧ GOk (gs2.set i ⟨ov, jL g.xs x.2.xs k⟩) ∧ lgs (gs2.set i ⟨ov, jL g.xs x.2.xs k⟩) = ((zz gs d).take (i + 1)).map JL ++ List.replicate (4 - (i + 1)) [] ∧ ∀ x ∈ (zz gs d).take (i + 1), JE x ≠ 3) := by
            intro ov hov hne
            refine ⟨by omega, hg2.set i hov hjl, ?_, ?_⟩
            · rw [lgs, List.map_set, ← lgs, hlg2, show 4 - i = (4 - (i + 1)) + 1 by omega, set_mid (by rw [List.length_map, htl]), List.take_add_one, hz]
              simp [hJL]
            · intro y hy
              rw [List.take_add_one, hz, List.mem_append] at hy
              rcases hy with hy | hy
              · exact hn3 y hy
              · simp only [Option.toList_some, List.mem_singleton] at hy
                rw [hy, hJE]
                exact hne
          rcases hjc with hj | hj | hj
          · simp only [hj] at hjo hfn
            repeat' (first | (apply R.is1; first | (apply R.isBin; (apply R.pure; exact rfl; first | (apply Ok1.add64; exact rfl; exact rfl; omega; omega) | (apply Ok1.sub64; exact rfl; exact rfl; omega; omega) | (apply Ok1.lss_t; exact rfl; exact rfl; omega) | (apply Ok1.eql_f; exact rfl; exact rfl; omega))) | (apply R.isCall; (apply R.pure; exact rfl; (apply Ok1.lenS; (iterate 3 exact rfl)))) | (apply R.pure; exact rfl; first | (apply Ok1.load; exact rfl; (apply Ld.own1; exact rfl; exact rfl; (focus ((repeat' (first | exact At.head | apply At.tail | apply At.right)); done)); exact hcell)) | (apply Ok1.move; exact rfl) | (apply Ok1.fieldAddr; (iterate 5 exact rfl)) | (apply Ok1.assign; exact rfl) | (apply Ok1.indexAddrA; (iterate 5 exact rfl); omega; omega) | (apply Ok1.nilCheck; exact rfl))) | (apply R.is0; (apply R.store; (iterate 6 exact rfl); (focus ((repeat' (first | exact Upd.head | apply Upd.tail | apply Upd.right)); done)); have h9 := hset ⟨ov, jL g.xs x.2.xs k⟩; rw [Lg.v_eq (g := ⟨ov, jL g.xs x.2.xs k⟩) hov] at h9; exact h9)) | apply R.nil | (apply T.is; first | (apply T.drawC (id := 12) [0,1] (by decide); ((apply A.take 0; exact rfl; exact rfl; kernel_rfl; kernel_rfl; kernel_rfl; (apply Ok1.move; exact rfl)) <;> (apply A.take 1; exact rfl; exact rfl; kernel_rfl; kernel_rfl; kernel_rfl; (apply Ok1.move; exact rfl)) <;> (apply A.take 2; exact rfl; exact rfl; kernel_rfl; kernel_rfl; kernel_rfl; (apply Ok1.nilCheck; exact rfl)) <;> (apply A.take 3; exact rfl; exact rfl; kernel_rfl; kernel_rfl; kernel_rfl; (apply Ok1.fieldAddr; (iterate 5 exact rfl))) <;> (apply A.take 4; exact rfl; exact rfl; kernel_rfl; kernel_rfl; kernel_rfl; (apply Ok1.indexAddrA; (iterate 5 exact rfl); omega; omega)) <;> (apply A.take 5; exact rfl; exact rfl; kernel_rfl; kernel_rfl; kernel_rfl; (apply Ok1.load; exact rfl; (apply Ld.own1; exact rfl; exact rfl; (focus ((repeat' (first | exact At.head | apply At.tail)); done)); exact hcell))) <;> (apply A.take 6; exact rfl; exact rfl; kernel_rfl; kernel_rfl; kernel_rfl; (apply Ok1.move; exact rfl)) <;> (apply A.take 7; exact rfl; exact rfl; kernel_rfl; kernel_rfl; kernel_rfl; (apply Ok1.fieldAddr; (iterate 5 exact rfl))) <;> (apply A.take 8; exact rfl; exact rfl; kernel_rfl; kernel_rfl; kernel_rfl; (apply Ok1.indexAddrA; (iterate 5 exact rfl); omega; omega)) <;> (apply A.take 9; exact rfl; exact rfl; kernel_rfl; kernel_rfl; kernel_rfl; (apply Ok1.load; exact rfl; (apply Ld.own1; exact rfl; exact rfl; exact At.head; exact hf))) <;> (apply A.take 10; exact rfl; exact rfl; kernel_rfl; kernel_rfl; kernel_rfl; (apply Ok1.move; exact rfl)) <;> (apply A.take 11; exact rfl; exact rfl; kernel_rfl; kernel_rfl; kernel_rfl; (apply Ok1.fieldAddr; (iterate 5 exact rfl))) <;> (apply A.take 12; exact rfl; exact rfl; kernel_rfl; kernel_rfl; kernel_rfl; (apply Ok1.indexAddrA; (iterate 5 exact rfl); omega; omega)) <;> (apply A.take 13; exact rfl; exact rfl; kernel_rfl; kernel_rfl; kernel_rfl; (apply Ok1.load; exact rfl; (apply Ld.own1; exact rfl; exact rfl; exact At.head; exact hl4))) <;> (apply A.one 14; kernel_rfl; exact rfl; (((apply R.callE (vs := [.slice (ovp g.ov) g.xs.length (ovc g.ov g.xs.length), .int .i64 k, .slice x.2.p x.2.xs.length x.2.cap]); (iterate 3 exact rfl); exact Ext.none _; intro w1 hw1; exact hjo w1 _ hw1 ⟨_, by (focus ((repeat' (first | exact Ext.here _ _ | apply Ext.cons)); done))⟩; rintro v Lo ⟨ov, rfl, hov, rfl⟩; rw [slV_eq hov]))); apply R.nil; refine ⟨?_, ?_⟩; (focus ((repeat' (first | exact trivial | (refine ⟨?_, ?_⟩; (focus ((repeat' (first | exact At.head | apply At.tail | apply At.right)); done)))))))) <;> (apply A.take 15; exact rfl; exact rfl; kernel_rfl; kernel_rfl; kernel_rfl; (apply Ok1.move; exact rfl)) <;> (apply A.take 16; exact rfl; exact rfl; kernel_rfl; kernel_rfl; kernel_rfl; (apply Ok1.extract; exact rfl; exact rfl)) <;> (apply A.take 17; exact rfl; exact rfl; kernel_rfl; kernel_rfl; kernel_rfl; (apply Ok1.extract; exact rfl; exact rfl)) <;> (apply A.take 18; exact rfl; exact rfl; kernel_rfl; kernel_rfl; kernel_rfl; (apply Ok1.assign; exact rfl)) <;> (apply A.take 19; exact rfl; exact rfl; kernel_rfl; kernel_rfl; kernel_rfl; (apply Ok1.assign; exact rfl)) <;> (apply A.done; kernel_rfl))) | apply T.seq | apply T.region | apply T.block | apply T.skip | (apply T.cond_t; exact rfl) | (apply T.cond_f; exact rfl)))
            refine ⟨(i + 1, gs2.set i ⟨ov, jL g.xs x.2.xs k⟩), hnext ov hov (by rw [hj]; decide), by simp only; omega, ⟨rfl, rfl, rfl, ?_, ?_, rfl, trivial⟩, ?_⟩
            · simp only [hsn]; rfl
            · simp only [hfn]; simp; rfl
            · simp only
              rw [LsL_set _ (by rw [hg2.len]; omega), LsL_at hx3]
              simp only [Lg.L]
              (focus ((repeat' (first | exact Ext.one _ _ | exact Ext.here _ _ | exact Ext.all _ | apply Keep.cons | apply Keep.app | apply Keep.last | apply Ext.app)); done))
          · simp only [hj] at hjo hfn
            have h3 : ∃ x ∈ zz gs d, JE x = 3 := ⟨_, hzm, by rw [hJE, hj]⟩
            rw [hE, if_pos h3, if_neg (by decide), if_neg (by decide)]
            repeat' (first | (apply R.is1; first | (apply R.isBin; (apply R.pure; exact rfl; first | (apply Ok1.lss_t; exact rfl; exact rfl; omega) | (apply Ok1.eql_t; exact rfl; exact rfl; omega))) | (apply R.pure; exact rfl; first | (apply Ok1.move; exact rfl) | (apply Ok1.assign; exact rfl))) | apply R.nil | (apply T.is; first | (apply T.drawC (id := 12) [0,1] (by decide); ((apply A.take 0; exact rfl; exact rfl; kernel_rfl; kernel_rfl; kernel_rfl; (apply Ok1.move; exact rfl)) <;> (apply A.take 1; exact rfl; exact rfl; kernel_rfl; kernel_rfl; kernel_rfl; (apply Ok1.move; exact rfl)) <;> (apply A.take 2; exact rfl; exact rfl; kernel_rfl; kernel_rfl; kernel_rfl; (apply Ok1.nilCheck; exact rfl)) <;> (apply A.take 3; exact rfl; exact rfl; kernel_rfl; kernel_rfl; kernel_rfl; (apply Ok1.fieldAddr; (iterate 5 exact rfl))) <;> (apply A.take 4; exact rfl; exact rfl; kernel_rfl; kernel_rfl; kernel_rfl; (apply Ok1.indexAddrA; (iterate 5 exact rfl); omega; omega)) <;> (apply A.take 5; exact rfl; exact rfl; kernel_rfl; kernel_rfl; kernel_rfl; (apply Ok1.load; exact rfl; (apply Ld.own1; exact rfl; exact rfl; (focus ((repeat' (first | exact At.head | apply At.tail)); done)); exact hcell))) <;> (apply A.take 6; exact rfl; exact rfl; kernel_rfl; kernel_rfl; kernel_rfl; (apply Ok1.move; exact rfl)) <;> (apply A.take 7; exact rfl; exact rfl; kernel_rfl; kernel_rfl; kernel_rfl; (apply Ok1.fieldAddr; (iterate 5 exact rfl))) <;> (apply A.take 8; exact rfl; exact rfl; kernel_rfl; kernel_rfl; kernel_rfl; (apply Ok1.indexAddrA; (iterate 5 exact rfl); omega; omega)) <;> (apply A.take 9; exact rfl; exact rfl; kernel_rfl; kernel_rfl; kernel_rfl; (apply Ok1.load; exact rfl; (apply Ld.own1; exact rfl; exact rfl; exact At.head; exact hf))) <;> (apply A.take 10; exact rfl; exact rfl; kernel_rfl; kernel_rfl; kernel_rfl; (apply Ok1.move; exact rfl)) <;> (apply A.take 11; exact rfl; exact rfl; kernel_rfl; kernel_rfl; kernel_rfl; (apply Ok1.fieldAddr; (iterate 5 exact rfl))) <;> (apply A.take 12; exact rfl; exact rfl; kernel_rfl; kernel_rfl; kernel_rfl; (apply Ok1.indexAddrA; (iterate 5 exact rfl); omega; omega)) <;> (apply A.take 13; exact rfl; exact rfl; kernel_rfl; kernel_rfl; kernel_rfl; (apply Ok1.load; exact rfl; (apply Ld.own1; exact rfl; exact rfl; exact At.head; exact hl4))) <;> (apply A.one 14; kernel_rfl; exact rfl; (((apply R.callE (vs := [.slice (ovp g.ov) g.xs.length (ovc g.ov g.xs.length), .int .i64 k, .slice x.2.p x.2.xs.length x.2.cap]); (iterate 3 exact rfl); exact Ext.none _; intro w1 hw1; exact hjo w1 _ hw1 ⟨_, by (focus ((repeat' (first | exact Ext.here _ _ | apply Ext.cons)); done))⟩; rintro v Lo ⟨ov, rfl, hov, rfl⟩; rw [slV_eq hov]))); apply R.nil; refine ⟨?_, ?_⟩; (focus ((repeat' (first | exact trivial | (refine ⟨?_, ?_⟩; (focus ((repeat' (first | exact At.head | apply At.tail | apply At.right)); done)))))))) <;> (apply A.take 15; exact rfl; exact rfl; kernel_rfl; kernel_rfl; kernel_rfl; (apply Ok1.move; exact rfl)) <;> (apply A.take 16; exact rfl; exact rfl; kernel_rfl; kernel_rfl; kernel_rfl; (apply Ok1.extract; exact rfl; exact rfl)) <;> (apply A.take 17; exact rfl; exact rfl; kernel_rfl; kernel_rfl; kernel_rfl; (apply Ok1.extract; exact rfl; exact rfl)) <;> (apply A.take 18; exact rfl; exact rfl; kernel_rfl; kernel_rfl; kernel_rfl; (apply Ok1.assign; exact rfl)) <;> (apply A.take 19; exact rfl; exact rfl; kernel_rfl; kernel_rfl; kernel_rfl; (apply Ok1.assign; exact rfl)) <;> (apply A.done; kernel_rfl))) | apply T.seq | apply T.region | apply T.block | apply T.skip | apply T.ret | (apply T.cond_t; exact rfl)))
            (apply RetOk.tt; exact rfl; exact rfl)
            exact ⟨_, by (focus ((repeat' (first | exact Ext.one _ _ | exact Ext.here _ _ | apply Keep.cons | apply Keep.last | apply Ext.cons | apply Ext.app)); done)), gs, rfl, rfl, hg, rfl⟩
          · simp only [hj] at hjo hfn
            repeat' (first | (apply R.is1; first | (apply R.isBin; (apply R.pure; exact rfl; first | (apply Ok1.add64; exact rfl; exact rfl; omega; omega) | (apply Ok1.sub64; exact rfl; exact rfl; omega; omega) | (apply Ok1.lss_t; exact rfl; exact rfl; omega) | (apply Ok1.eql_t; exact rfl; exact rfl; omega) | (apply Ok1.eql_f; exact rfl; exact rfl; omega))) | (apply R.isCall; (apply R.pure; exact rfl; (apply Ok1.lenS; (iterate 3 exact rfl)))) | (apply R.pure; exact rfl; first | (apply Ok1.load; exact rfl; (apply Ld.own1; exact rfl; exact rfl; (focus ((repeat' (first | exact At.head | apply At.tail | apply At.right)); done)); exact hcell)) | (apply Ok1.move; exact rfl) | (apply Ok1.fieldAddr; (iterate 5 exact rfl)) | (apply Ok1.assign; exact rfl) | (apply Ok1.indexAddrA; (iterate 5 exact rfl); omega; omega) | (apply Ok1.nilCheck; exact rfl))) | (apply R.is0; (apply R.store; (iterate 6 exact rfl); (focus ((repeat' (first | exact Upd.head | apply Upd.tail | apply Upd.right)); done)); have h9 := hset ⟨ov, jL g.xs x.2.xs k⟩; rw [Lg.v_eq (g := ⟨ov, jL g.xs x.2.xs k⟩) hov] at h9; exact h9)) | apply R.nil | (apply T.is; first | (apply T.drawC (id := 12) [0,1] (by decide); ((apply A.take 0; exact rfl; exact rfl; kernel_rfl; kernel_rfl; kernel_rfl; (apply Ok1.move; exact rfl)) <;> (apply A.take 1; exact rfl; exact rfl; kernel_rfl; kernel_rfl; kernel_rfl; (apply Ok1.move; exact rfl)) <;> (apply A.take 2; exact rfl; exact rfl; kernel_rfl; kernel_rfl; kernel_rfl; (apply Ok1.nilCheck; exact rfl)) <;> (apply A.take 3; exact rfl; exact rfl; kernel_rfl; kernel_rfl; kernel_rfl; (apply Ok1.fieldAddr; (iterate 5 exact rfl))) <;> (apply A.take 4; exact rfl; exact rfl; kernel_rfl; kernel_rfl; kernel_rfl; (apply Ok1.indexAddrA; (iterate 5 exact rfl); omega; omega)) <;> (apply A.take 5; exact rfl; exact rfl; kernel_rfl; kernel_rfl; kernel_rfl; (apply Ok1.load; exact rfl; (apply Ld.own1; exact rfl; exact rfl; (focus ((repeat' (first | exact At.head | apply At.tail)); done)); exact hcell))) <;> (apply A.take 6; exact rfl; exact rfl; kernel_rfl; kernel_rfl; kernel_rfl; (apply Ok1.move; exact rfl)) <;> (apply A.take 7; exact rfl; exact rfl; kernel_rfl; kernel_rfl; kernel_rfl; (apply Ok1.fieldAddr; (iterate 5 exact rfl))) <;> (apply A.take 8; exact rfl; exact rfl; kernel_rfl; kernel_rfl; kernel_rfl; (apply Ok1.indexAddrA; (iterate 5 exact rfl); omega; omega)) <;> (apply A.take 9; exact rfl; exact rfl; kernel_rfl; kernel_rfl; kernel_rfl; (apply Ok1.load; exact rfl; (apply Ld.own1; exact rfl; exact rfl; exact At.head; exact hf))) <;> (apply A.take 10; exact rfl; exact rfl; kernel_rfl; kernel_rfl; kernel_rfl; (apply Ok1.move; exact rfl)) <;> (apply A.take 11; exact rfl; exact rfl; kernel_rfl; kernel_rfl; kernel_rfl; (apply Ok1.fieldAddr; (iterate 5 exact rfl))) <;> (apply A.take 12; exact rfl; exact rfl; kernel_rfl; kernel_rfl; kernel_rfl; (apply Ok1.indexAddrA; (iterate 5 exact rfl); omega; omega)) <;> (apply A.take 13; exact rfl; exact rfl; kernel_rfl; kernel_rfl; kernel_rfl; (apply Ok1.load; exact rfl; (apply Ld.own1; exact rfl; exact rfl; exact At.head; exact hl4))) <;> (apply A.one 14; kernel_rfl; exact rfl; (((apply R.callE (vs := [.slice (ovp g.ov) g.xs.length (ovc g.ov g.xs.length), .int .i64 k, .slice x.2.p x.2.xs.length x.2.cap]); (iterate 3 exact rfl); exact Ext.none _; intro w1 hw1; exact hjo w1 _ hw1 ⟨_, by (focus ((repeat' (first | exact Ext.here _ _ | apply Ext.cons)); done))⟩; rintro v Lo ⟨ov, rfl, hov, rfl⟩; rw [slV_eq hov]))); apply R.nil; refine ⟨?_, ?_⟩; (focus ((repeat' (first | exact trivial | (refine ⟨?_, ?_⟩; (focus ((repeat' (first | exact At.head | apply At.tail | apply At.right)); done)))))))) <;> (apply A.take 15; exact rfl; exact rfl; kernel_rfl; kernel_rfl; kernel_rfl; (apply Ok1.move; exact rfl)) <;> (apply A.take 16; exact rfl; exact rfl; kernel_rfl; kernel_rfl; kernel_rfl; (apply Ok1.extract; exact rfl; exact rfl)) <;> (apply A.take 17; exact rfl; exact rfl; kernel_rfl; kernel_rfl; kernel_rfl; (apply Ok1.extract; exact rfl; exact rfl)) <;> (apply A.take 18; exact rfl; exact rfl; kernel_rfl; kernel_rfl; kernel_rfl; (apply Ok1.assign; exact rfl)) <;> (apply A.take 19; exact rfl; exact rfl; kernel_rfl; kernel_rfl; kernel_rfl; (apply Ok1.assign; exact rfl)) <;> (apply A.done; kernel_rfl))) | apply T.seq | apply T.region | apply T.block | apply T.skip | (apply T.cond_t; exact rfl) | (apply T.cond_f; exact rfl)))
            refine ⟨(i + 1, gs2.set i ⟨ov, jL g.xs x.2.xs k⟩), hnext ov hov (by rw [hj]; decide), by simp only; omega, ⟨rfl, rfl, rfl, ?_, ?_, rfl, trivial⟩, ?_⟩
            · simp only [hsn]; rfl
            · simp only [hfn]; simp; rfl
            · simp only
              rw [LsL_set _ (by rw [hg2.len]; omega), LsL_at hx3]
              simp only [Lg.L]
              (focus ((repeat' (first | exact Ext.one _ _ | exact Ext.here _ _ | exact Ext.all _ | apply Keep.cons | apply Keep.app | apply Keep.last | apply Ext.app)); done))
        · have him : i = 4 := by omega
          subst him
          have htk : (zz gs d).take 4 = zz gs d := List.take_of_length_le (by omega)
          rw [htk] at hlg2 hn3 ⊢
          rw [if_neg (fun ⟨x, hx, he⟩ => hn3 x hx he)] at hE
          rw [Nat.sub_self, List.replicate_zero, List.append_nil] at hlg2
          by_cases h6 : ∃ x ∈ zz gs d, JE x = 6
          · have hfb : fullB (zz gs d) = true := by
              obtain ⟨x, hx, he⟩ := h6
              exact List.any_eq_true.2 ⟨x, hx, decide_eq_true he⟩
            rw [if_pos h6] at hE
            rw [hfb, hE, if_neg (by decide), if_neg (by decide)]
            repeat' (first | (apply R.is1; first | (apply R.isBin; (apply R.pure; exact rfl; (apply Ok1.lss_f; exact rfl; exact rfl; omega))) | (apply R.pure; exact rfl; first | (apply Ok1.move; exact rfl) | (apply Ok1.assign; exact rfl))) | apply R.nil | (apply T.is; first | apply T.seq | apply T.region | apply T.exit | apply T.ret | (apply T.cond_t; exact rfl) | (apply T.cond_f; exact rfl)))
            (apply RetOk.tt; exact rfl; exact rfl)
            exact ⟨_, by (focus ((repeat' (first | exact Ext.one _ _ | exact Ext.here _ _ | apply Keep.cons | apply Keep.last | apply Ext.cons)); done)), gs, rfl, rfl, hg, rfl⟩
          · have hfb : fullB (zz gs d) = false := by
              cases h : fullB (zz gs d) with
              | false => rfl
              | true =>
                obtain ⟨x, hx, he⟩ := List.any_eq_true.1 h
                exact absurd ⟨x, hx, of_decide_eq_true he⟩ h6
            have hv1 : (setV gs2).length = 4 := by rw [setV, List.length_map, hg2.len]
            have hv0 : (setV gs).length = 4 := by rw [setV, List.length_map, hg.len]
            have hone : (setV gs2).all Value.oneCell' = true := by
              rw [List.all_eq_true]
              intro v hv
              obtain ⟨q, hq, rfl⟩ := List.mem_map.1 hv
              rw [Lg.v_eq (hg2.ok q hq)]
              rfl
            rw [if_neg h6] at hE
            rw [hfb, hE, if_pos rfl, if_pos rfl]
            repeat' (first | (apply R.is1; first | (apply R.isBin; (apply R.pure; exact rfl; (apply Ok1.lss_f; exact rfl; exact rfl; omega))) | (apply R.pure; exact rfl; first | (apply Ok1.load; exact rfl; apply Ld.ownk; exact rfl; exact rfl; (focus ((repeat' (first | exact At.head | apply At.tail)); done)); exact setV_all hg2.len) | (apply Ok1.move; exact rfl) | (apply Ok1.fieldAddr; (iterate 5 exact rfl)) | (apply Ok1.assign; exact rfl) | (apply Ok1.nilCheck; exact rfl))) | (apply R.is0; (apply R.store; (iterate 4 exact rfl); exact hv1; exact hone; (focus ((repeat' (first | exact Upd.head | apply Upd.tail)); done)); exact setE_all (by rw [hv0, hv1]))) | apply R.nil | (apply T.is; first | apply T.seq | apply T.region | apply T.skip | apply T.exit | apply T.ret | (apply T.cond_f; exact rfl)))
            (apply RetOk.tt; exact rfl; exact rfl)
            exact ⟨_, by (focus ((repeat' (first | exact Ext.one _ _ | exact Ext.all _ | apply Keep.cons | apply Keep.last | apply Ext.cons | apply Ext.app)); done)), gs2, rfl, hlg2, hg2, rfl⟩
  · rw [if_neg hok] at hchk
    have hX : appX (lgs gs) (d.map fun x => (x.1, x.2.xs)) = 10 := if_neg fun h => hok (hdr.2 h)
    have hN : appN (lgs gs) (d.map fun x => (x.1, x.2.xs)) = 0 := by rw [appN, hX]; rfl
    have hLL : appL (lgs gs) (d.map fun x => (x.1, x.2.xs)) = lgs gs := by rw [appL, hX]; rfl
    rw [hX, hN, hLL]
    refine enterK (tb := tb) Try.func17 rfl Try.ntmps17 rfl ?_
    simp only [SetL]
    repeat' (first | (apply R.is1; first | (apply R.isBin; (apply R.pure; exact rfl; first | (apply Ok1.neq_t; exact rfl; exact rfl; omega) | (apply Ok1.eqlP; (iterate 5 exact rfl)))) | (apply R.isCall; (apply R.callV (vs := [.agg ⟨dlV d⟩]); (iterate 3 exact rfl); intro w1 hw1; exact hchk w1 hw1.chg)) | (apply R.pure; exact rfl; first | (apply Ok1.load; exact rfl; apply Ld.ownk; exact rfl; exact rfl; exact At.head; exact subE_all hdl) | (apply Ok1.move; exact rfl) | (apply Ok1.assign; exact rfl)) | (apply R.box; (iterate 3 exact rfl); intro)) | apply R.nil | (apply T.is; first | apply T.seq | apply T.region | apply T.skip | apply T.ret | (apply T.cond_t; exact rfl) | (apply T.cond_f; exact rfl)))
    (apply RetOk.tt; exact rfl; exact rfl)
    exact ⟨_, by (focus ((repeat' (first | exact Ext.one _ _ | exact Ext.all _ | apply Keep.cons | apply Keep.last | apply Ext.cons)); done)), gs, rfl, rfl, hg, rfl⟩
end Go.Proofs.Ytligpachgcmkcaa
