/- Texts of the proof: Rv4, Rv5, Rv6, Rv7, Rv8, Rv9, Rb3, Dn1, Rd6, Rr1, Rb5, Da2, Rg0, Rg1, Dn2, Rf1, Rf6, Dd1, Dd2, Eng17, So1, Tk1, L08x, Sy1, Sy2, Sy4, Sy3, Sy8, Sy9, Sy10, Sy5, Sy7. -/
import Derived.Test.YtplhnkmmhndkjaaGreatL25cb3
import Derived.Shelf.SlSortCmp.WholeK
set_option linter.unusedSimpArgs false
set_option linter.unusedVariables false
namespace Go.Proofs.YtplhnkmmhndkjaaGreat
open Go.RowKit Go.Shelf
set_option maxRecDepth 100000
def revE (ls : List (List Int)) (seed : Int) (xs : List Int) : Int :=
  if seed < 0 ∨ 4 ≤ seed ∨ ¬ SR xs then 10 else if ¬ (ls.getD seed.toNat [] ++ xs).Nodup then 8 else if 256 < (ls.getD seed.toNat [] ++ xs).length then 6 else 0
def revL (ls : List (List Int)) (seed : Int) (xs : List Int) : List (List Int) := if revE ls seed xs = 0 then ls.set seed.toNat (ls.getD seed.toNat [] ++ xs) else ls
theorem LsL_at {gs : List Lg} {i : Nat} {g : Lg} (h : gs[i]? = some g) : LsL gs = LsL (gs.take i) ++ (g.L ++ LsL (gs.drop (i + 1))) := by
  obtain ⟨hi, rfl⟩ := List.getElem?_eq_some_iff.1 h
  have e := List.take_append_drop i gs
  rw [List.drop_eq_getElem_cons hi] at e
  conv => lhs; rw [← e]
  simp only [LsL, List.flatMap_append, List.flatMap_cons]
theorem LsL_set {gs : List Lg} {i : Nat} (g' : Lg) (hi : i < gs.length) : LsL (gs.set i g') = LsL (gs.take i) ++ (g'.L ++ LsL (gs.drop (i + 1))) := by
  rw [List.set_eq_take_append_cons_drop, if_pos hi]
  simp only [LsL, List.flatMap_append, List.flatMap_cons]
theorem setV_set {gs : List Lg} {i : Nat} (g' : Lg) (hi : i < gs.length) : setE (setV gs) (0 + i * 1) [g'.v] = some (setV (gs.set i g')) := by
  have := setE_one (cs := setV gs) (o := 0 + i * 1) (v := g'.v) (by simp [setV]; omega)
  rw [this]
  simp [setV, List.map_set]
theorem GOk.set {gs : List Lg} (hg : GOk gs) (i : Nat) {g' : Lg} (h : g'.ok) (hl : g'.xs.length ≤ 256) : GOk (gs.set i g') :=
  ⟨by rw [List.length_set]; exact hg.len, fun g hm => by rcases List.mem_or_eq_of_mem_set hm with h1 | rfl; exact hg.ok g h1; exact h, fun g hm => by rcases List.mem_or_eq_of_mem_set hm with h1 | rfl; exact hg.le g h1; exact hl⟩
theorem revoke_ok (bs : Nat) (gs : List Lg) (hg : GOk gs) (seed : Int) (p : Option Addr) (n cap : Nat) (xs : List Int) (hn : n = xs.length) (hbig : n ≤ 1000) (w : World) (hp : RdSl w p iV xs) (hoff : xs ≠ [] → Off p (blks (SetL bs gs))) :
    CallM Tryz.prog 27 [.pointer (some ⟨bs, 0, none⟩), .int .i64 seed, .slice p n cap] (SetL bs gs) w fun v L => ∃ gs', v = .int .i64 (revE (lgs gs) seed xs) ∧ lgs gs' = revL (lgs gs) seed xs ∧ GOk gs' ∧ L = SetL bs gs' := by
  subst hn
  have hse := fun w1 (hc : Chg (blks (SetL bs gs)) w w1) => serials_ok p xs.length cap xs rfl (by omega) w1 (hp.chg' hc hoff)
  by_cases hr : seed < 0 ∨ 4 ≤ seed ∨ ¬ SR xs
  · have he : revE (lgs gs) seed xs = 10 := by rw [revE, if_pos hr]
    have hl : revL (lgs gs) seed xs = lgs gs := by rw [revL, he, if_neg (by decide)]
    rw [he, hl]
    by_cases h0 : seed < 0
    · refine enterK (tb := tb) Tryz.func27 rfl Tryz.ntmps27 rfl ?_
      repeat' (first | (apply R.is1; first | (apply R.isBin; first | (apply R.pure; exact rfl; first | (apply Ok1.lss_t; exact rfl; exact rfl; omega) | (apply Ok1.lss_f; exact rfl; exact rfl; omega) | (apply Ok1.gtr_t; exact rfl; exact rfl; omega) | (apply Ok1.gtr_f; exact rfl; exact rfl; omega) | (apply Ok1.geq_t; exact rfl; exact rfl; omega) | (apply Ok1.geq_f; exact rfl; exact rfl; omega) | (apply Ok1.eql_t; exact rfl; exact rfl; omega) | (apply Ok1.eql_f; exact rfl; exact rfl; omega) | (apply Ok1.eqlP; (iterate 5 exact rfl)) | (apply Ok1.eqlM; (iterate 5 exact rfl)) | (apply Ok1.eqlS; (iterate 5 exact rfl))) | (apply R.lss rfl rfl rfl <;> intro) | (apply R.gtr rfl rfl rfl <;> intro) | (apply R.geq rfl rfl rfl <;> intro) | (apply R.eql rfl rfl rfl <;> intro) | (apply R.eqlF; (iterate 8 exact rfl); all_goals intro)) | (apply R.isCall; first | (apply R.pure; exact rfl; first | (apply Ok1.lenS; (iterate 3 exact rfl)) | (apply Ok1.lenStr; (iterate 3 exact rfl)) | (apply Ok1.lenMm; (iterate 3 exact rfl); (focus ((repeat' (first | exact At.head | apply At.tail | apply At.right)); done))) | (apply Ok1.lenM_nil; (iterate 3 exact rfl)))) | (apply R.pure; exact rfl; first | (apply Ok1.move; exact rfl) | (apply Ok1.fieldAddr; (iterate 5 exact rfl)) | (apply Ok1.load; exact rfl; first | (apply Ld.own1; exact rfl; exact rfl; (focus ((repeat' (first | exact At.head | apply At.tail | apply At.right)); done)); exact rfl) | (apply Ld.ownk; exact rfl; exact rfl; (focus ((repeat' (first | exact At.head | apply At.tail | apply At.right)); done)); exact rfl) | (apply Ld.old1; exact rfl; exact rfl; assumption; (first | exact List.not_mem_nil | assumption)) | (apply Ld.blk1; exact rfl; exact rfl; assumption; (first | exact List.not_mem_nil | assumption); exact rfl) | (apply Ld.blkk; exact rfl; exact rfl; assumption; (first | exact List.not_mem_nil | assumption); exact rfl)) | (apply Ok1.assign; exact rfl) | (apply Ok1.indexAddr; (iterate 5 exact rfl); omega; omega) | (apply Ok1.indexAddrA; (iterate 5 exact rfl); omega; omega) | (apply Ok1.pick_t; exact rfl; exact rfl) | (apply Ok1.pick_f; exact rfl; exact rfl) | (apply Ok1.pick_h; exact rfl; assumption; exact rfl) | (apply Ok1.pick_n; exact rfl; assumption; exact rfl) | (apply Ok1.not_t; exact rfl) | (apply Ok1.not_f; exact rfl) | (apply Ok1.not; exact rfl) | (apply Ok1.nilCheck; exact rfl) | (apply Ok1.nilCheckF; exact rfl) | (apply Ok1.neg; exact rfl)) | (apply R.buildSlice; (iterate 12 exact rfl); intro)) | (apply R.is0; first | (apply R.store; (iterate 6 exact rfl); (focus ((repeat' (first | exact Upd.head | apply Upd.tail | apply Upd.right)); done)); exact rfl) | fail) | (apply R.isG; first | (apply R.guard_run; exact rfl; exact rfl) | (apply R.guard_not; (iterate 3 exact rfl)) | (apply R.guard_not0; exact rfl; exact rfl) | (apply R.guard_un; (iterate 3 exact rfl)) | (apply R.guard_un0; exact rfl; exact rfl) | (apply R.guard rfl rfl ?_ (fun h => ⟨rfl, ?_⟩) <;> try intro)) | apply R.nil | (apply T.is; first | apply T.seq | apply T.region | apply T.block | apply T.scope | apply T.label | apply T.skip | apply T.exit | apply T.ret | (apply T.cond_t; exact rfl) | (apply T.cond_f; exact rfl) | (apply T.cond_h; exact rfl; assumption) | (apply T.cond_n; exact rfl; assumption) | (apply T.cond rfl <;> intro)) | apply Rnd.step)
      (apply RetOk.t; exact rfl)
      exact ⟨_, Keep.last (.all _), gs, rfl, rfl, hg, rfl⟩
    · by_cases h4 : 4 ≤ seed
      · refine enterK (tb := tb) Tryz.func27 rfl Tryz.ntmps27 rfl ?_
        repeat' (first | (apply R.is1; first | (apply R.isBin; first | (apply R.pure; exact rfl; first | (apply Ok1.lss_t; exact rfl; exact rfl; omega) | (apply Ok1.lss_f; exact rfl; exact rfl; omega) | (apply Ok1.gtr_t; exact rfl; exact rfl; omega) | (apply Ok1.gtr_f; exact rfl; exact rfl; omega) | (apply Ok1.geq_t; exact rfl; exact rfl; omega) | (apply Ok1.geq_f; exact rfl; exact rfl; omega) | (apply Ok1.eql_t; exact rfl; exact rfl; omega) | (apply Ok1.eql_f; exact rfl; exact rfl; omega) | (apply Ok1.eqlP; (iterate 5 exact rfl)) | (apply Ok1.eqlM; (iterate 5 exact rfl)) | (apply Ok1.eqlS; (iterate 5 exact rfl))) | (apply R.lss rfl rfl rfl <;> intro) | (apply R.gtr rfl rfl rfl <;> intro) | (apply R.geq rfl rfl rfl <;> intro) | (apply R.eql rfl rfl rfl <;> intro) | (apply R.eqlF; (iterate 8 exact rfl); all_goals intro)) | (apply R.isCall; first | (apply R.pure; exact rfl; first | (apply Ok1.lenS; (iterate 3 exact rfl)) | (apply Ok1.lenStr; (iterate 3 exact rfl)) | (apply Ok1.lenMm; (iterate 3 exact rfl); (focus ((repeat' (first | exact At.head | apply At.tail | apply At.right)); done))) | (apply Ok1.lenM_nil; (iterate 3 exact rfl)))) | (apply R.pure; exact rfl; first | (apply Ok1.move; exact rfl) | (apply Ok1.fieldAddr; (iterate 5 exact rfl)) | (apply Ok1.load; exact rfl; first | (apply Ld.own1; exact rfl; exact rfl; (focus ((repeat' (first | exact At.head | apply At.tail | apply At.right)); done)); exact rfl) | (apply Ld.ownk; exact rfl; exact rfl; (focus ((repeat' (first | exact At.head | apply At.tail | apply At.right)); done)); exact rfl) | (apply Ld.old1; exact rfl; exact rfl; assumption; (first | exact List.not_mem_nil | assumption)) | (apply Ld.blk1; exact rfl; exact rfl; assumption; (first | exact List.not_mem_nil | assumption); exact rfl) | (apply Ld.blkk; exact rfl; exact rfl; assumption; (first | exact List.not_mem_nil | assumption); exact rfl)) | (apply Ok1.assign; exact rfl) | (apply Ok1.indexAddr; (iterate 5 exact rfl); omega; omega) | (apply Ok1.indexAddrA; (iterate 5 exact rfl); omega; omega) | (apply Ok1.pick_t; exact rfl; exact rfl) | (apply Ok1.pick_f; exact rfl; exact rfl) | (apply Ok1.pick_h; exact rfl; assumption; exact rfl) | (apply Ok1.pick_n; exact rfl; assumption; exact rfl) | (apply Ok1.not_t; exact rfl) | (apply Ok1.not_f; exact rfl) | (apply Ok1.not; exact rfl) | (apply Ok1.nilCheck; exact rfl) | (apply Ok1.nilCheckF; exact rfl) | (apply Ok1.neg; exact rfl)) | (apply R.buildSlice; (iterate 12 exact rfl); intro)) | (apply R.is0; first | (apply R.store; (iterate 6 exact rfl); (focus ((repeat' (first | exact Upd.head | apply Upd.tail | apply Upd.right)); done)); exact rfl) | fail) | (apply R.isG; first | (apply R.guard_run; exact rfl; exact rfl) | (apply R.guard_not; (iterate 3 exact rfl)) | (apply R.guard_not0; exact rfl; exact rfl) | (apply R.guard_un; (iterate 3 exact rfl)) | (apply R.guard_un0; exact rfl; exact rfl) | (apply R.guard rfl rfl ?_ (fun h => ⟨rfl, ?_⟩) <;> try intro)) | apply R.nil | (apply T.is; first | apply T.seq | apply T.region | apply T.block | apply T.scope | apply T.label | apply T.skip | apply T.exit | apply T.ret | (apply T.cond_t; exact rfl) | (apply T.cond_f; exact rfl) | (apply T.cond_h; exact rfl; assumption) | (apply T.cond_n; exact rfl; assumption) | (apply T.cond rfl <;> intro)) | apply Rnd.step)
        (apply RetOk.t; exact rfl)
        exact ⟨_, Keep.last (.all _), gs, rfl, rfl, hg, rfl⟩
      · have hs : ¬ SR xs := by rcases hr with h | h | h; exact absurd h h0; exact absurd h h4; exact h
        rw [decide_eq_false hs] at hse
        refine enterK (tb := tb) Tryz.func27 rfl Tryz.ntmps27 rfl ?_
        repeat' (first | (apply R.is1; first | (apply R.isBin; first | (apply R.pure; exact rfl; first | (apply Ok1.lss_t; exact rfl; exact rfl; omega) | (apply Ok1.lss_f; exact rfl; exact rfl; omega) | (apply Ok1.gtr_t; exact rfl; exact rfl; omega) | (apply Ok1.gtr_f; exact rfl; exact rfl; omega) | (apply Ok1.geq_t; exact rfl; exact rfl; omega) | (apply Ok1.geq_f; exact rfl; exact rfl; omega) | (apply Ok1.eql_t; exact rfl; exact rfl; omega) | (apply Ok1.eql_f; exact rfl; exact rfl; omega) | (apply Ok1.eqlP; (iterate 5 exact rfl)) | (apply Ok1.eqlM; (iterate 5 exact rfl)) | (apply Ok1.eqlS; (iterate 5 exact rfl))) | (apply R.lss rfl rfl rfl <;> intro) | (apply R.gtr rfl rfl rfl <;> intro) | (apply R.geq rfl rfl rfl <;> intro) | (apply R.eql rfl rfl rfl <;> intro) | (apply R.eqlF; (iterate 8 exact rfl); all_goals intro)) | (apply R.isCall; first | (apply R.callV (vs := [.slice p xs.length cap]); (iterate 3 exact rfl); intro w1 hw1; exact hse w1 hw1.chg) | (apply R.pure; exact rfl; first | (apply Ok1.lenS; (iterate 3 exact rfl)) | (apply Ok1.lenStr; (iterate 3 exact rfl)) | (apply Ok1.lenMm; (iterate 3 exact rfl); (focus ((repeat' (first | exact At.head | apply At.tail | apply At.right)); done))) | (apply Ok1.lenM_nil; (iterate 3 exact rfl)))) | (apply R.pure; exact rfl; first | (apply Ok1.move; exact rfl) | (apply Ok1.fieldAddr; (iterate 5 exact rfl)) | (apply Ok1.load; exact rfl; first | (apply Ld.own1; exact rfl; exact rfl; (focus ((repeat' (first | exact At.head | apply At.tail | apply At.right)); done)); exact rfl) | (apply Ld.ownk; exact rfl; exact rfl; (focus ((repeat' (first | exact At.head | apply At.tail | apply At.right)); done)); exact rfl) | (apply Ld.old1; exact rfl; exact rfl; assumption; (first | exact List.not_mem_nil | assumption)) | (apply Ld.blk1; exact rfl; exact rfl; assumption; (first | exact List.not_mem_nil | assumption); exact rfl) | (apply Ld.blkk; exact rfl; exact rfl; assumption; (first | exact List.not_mem_nil | assumption); exact rfl)) | (apply Ok1.assign; exact rfl) | (apply Ok1.indexAddr; (iterate 5 exact rfl); omega; omega) | (apply Ok1.indexAddrA; (iterate 5 exact rfl); omega; omega) | (apply Ok1.pick_t; exact rfl; exact rfl) | (apply Ok1.pick_f; exact rfl; exact rfl) | (apply Ok1.pick_h; exact rfl; assumption; exact rfl) | (apply Ok1.pick_n; exact rfl; assumption; exact rfl) | (apply Ok1.not_t; exact rfl) | (apply Ok1.not_f; exact rfl) | (apply Ok1.not; exact rfl) | (apply Ok1.nilCheck; exact rfl) | (apply Ok1.nilCheckF; exact rfl) | (apply Ok1.neg; exact rfl)) | (apply R.buildSlice; (iterate 12 exact rfl); intro)) | (apply R.is0; first | (apply R.store; (iterate 6 exact rfl); (focus ((repeat' (first | exact Upd.head | apply Upd.tail | apply Upd.right)); done)); exact rfl) | fail) | (apply R.isG; first | (apply R.guard_run; exact rfl; exact rfl) | (apply R.guard_not; (iterate 3 exact rfl)) | (apply R.guard_not0; exact rfl; exact rfl) | (apply R.guard_un; (iterate 3 exact rfl)) | (apply R.guard_un0; exact rfl; exact rfl) | (apply R.guard rfl rfl ?_ (fun h => ⟨rfl, ?_⟩) <;> try intro)) | apply R.nil | (apply T.is; first | apply T.seq | apply T.region | apply T.block | apply T.scope | apply T.label | apply T.skip | apply T.exit | apply T.ret | (apply T.cond_t; exact rfl) | (apply T.cond_f; exact rfl) | (apply T.cond_h; exact rfl; assumption) | (apply T.cond_n; exact rfl; assumption) | (apply T.cond rfl <;> intro)) | apply Rnd.step)
        (apply RetOk.t; exact rfl)
        exact ⟨_, Keep.last (.all _), gs, rfl, rfl, hg, rfl⟩
  · have h0 : ¬ seed < 0 := fun h => hr (.inl h)
    have h4 : ¬ 4 ≤ seed := fun h => hr (.inr (.inl h))
    have hs : SR xs := Classical.not_not.1 fun h => hr (.inr (.inr h))
    rw [decide_eq_true hs] at hse
    obtain ⟨i, rfl⟩ : ∃ i : Nat, seed = i := ⟨seed.toNat, by omega⟩
    have hi4 : i < 4 := by omega
    obtain ⟨g, hx⟩ : ∃ g, gs[i]? = some g := ⟨_, List.getElem?_eq_getElem (by rw [hg.len]; omega)⟩
    have hm := List.mem_of_getElem? hx
    have hgo := hg.ok g hm
    have hgl := hg.le g hm
    have hcell := setV_get hx hgo
    have hgd : (lgs gs).getD (i : Int).toNat [] = g.xs := by
      rw [Int.toNat_natCast, List.getD_eq_getElem?_getD, lgs, List.getElem?_map, hx]
      rfl
    have hcat : icat [⟨ovp g.ov, ovc g.ov g.xs.length, g.xs⟩, ⟨p, cap, xs⟩] = g.xs ++ xs := by simp [icat]
    have hcon := fun b w1 h1 h2 => iconcat_ok (some ⟨b, 0, none⟩) 2 2 [⟨ovp g.ov, ovc g.ov g.xs.length, g.xs⟩, ⟨p, cap, xs⟩] rfl (by rw [hcat, List.length_append]; omega) (by decide) w1 h1 h2
    rw [hcat] at hcon
    have hrev : revE (lgs gs) i xs = if ¬ (g.xs ++ xs).Nodup then 8 else if 256 < (g.xs ++ xs).length then 6 else 0 := by rw [revE, if_neg hr, hgd]
    have hal : (g.xs ++ xs).length ≤ 1256 := by rw [List.length_append]; omega
    have htw := fun p cap w1 h1 => twice_ok p (g.xs ++ xs).length cap (g.xs ++ xs) rfl (by omega) w1 h1
    have hset := fun g' => setV_set (gs := gs) (i := i) g' (by rw [hg.len]; exact hi4)
    have hrl : revL (lgs gs) i xs = if revE (lgs gs) i xs = 0 then (lgs gs).set i (g.xs ++ xs) else lgs gs := by rw [revL, hgd, Int.toNat_natCast]
    rw [hrl, hrev]
    clear hrl hrev hgd hcat
    generalize hall : g.xs ++ xs = all at *
    have hrd := fun w1 (hc : Chg (blks (SetL bs gs)) w w1) => hp.chg' hc hoff
    have hall2 : ∀ b w1, Hp w (blks (SetL bs gs)) ((b, .cells ⟨[.slice (ovp g.ov) g.xs.length (ovc g.ov g.xs.length), .slice p xs.length cap]⟩ 66 (0, 0)) :: SetL bs gs) w1 → CallM Tryz.prog 62 [.slice (some ⟨b, 0, none⟩) 2 2] [] w1 fun v L => ∃ ov, OvOk 1 ov all.length (iis all) ∧ v = slV ov all.length ∧ L = blkL 3 ov (iis all) := by
      intro b w1 hw1
      refine hcon b w1 (RdSl.of (junk := []) hw1 .head rfl) ?_
      intro z hz
      simp only [List.mem_cons, List.not_mem_nil, or_false] at hz
      rcases hz with rfl | rfl
      · exact Lg.rd hgo hw1 fun x hx => List.mem_cons_of_mem _ (List.mem_cons_of_mem _ (mem_LsL hm hx))
      · exact hrd w1 hw1.chg
    by_cases hnd : all.Nodup
    · rw [decide_eq_false (fun h => h hnd)] at htw
      rw [if_neg (fun h => h hnd)]
      by_cases hf : 256 < all.length
      · rw [if_pos hf, if_neg (by decide)]
        refine enterK (tb := tb) Tryz.func27 rfl Tryz.ntmps27 rfl ?_
        simp only [SetL]
        repeat' (first | (apply R.is1; first | (apply R.isBin; first | (apply R.pure; exact rfl; first | (apply Ok1.lss_t; exact rfl; exact rfl; omega) | (apply Ok1.lss_f; exact rfl; exact rfl; omega) | (apply Ok1.gtr_t; exact rfl; exact rfl; omega) | (apply Ok1.gtr_f; exact rfl; exact rfl; omega) | (apply Ok1.geq_t; exact rfl; exact rfl; omega) | (apply Ok1.geq_f; exact rfl; exact rfl; omega) | (apply Ok1.eql_t; exact rfl; exact rfl; omega) | (apply Ok1.eql_f; exact rfl; exact rfl; omega) | (apply Ok1.eqlP; (iterate 5 exact rfl)) | (apply Ok1.eqlM; (iterate 5 exact rfl)) | (apply Ok1.eqlS; (iterate 5 exact rfl))) | (apply R.lss rfl rfl rfl <;> intro) | (apply R.gtr rfl rfl rfl <;> intro) | (apply R.geq rfl rfl rfl <;> intro) | (apply R.eql rfl rfl rfl <;> intro) | (apply R.eqlF; (iterate 8 exact rfl); all_goals intro)) | (apply R.isCall; first | (apply R.callV (vs := [.slice p xs.length cap]); (iterate 3 exact rfl); intro w1 hw1; exact hse w1 hw1.chg) | (apply R.callE (vs := [.slice (some ⟨_, 0, none⟩) 2 2]); (iterate 3 exact rfl); exact Ext.none _; intro w1 hw1; exact hall2 _ w1 hw1; rintro v Lo ⟨ov, hov, rfl, rfl⟩; rw [slV_eq hov]) | (apply R.callE (vs := [.slice (ovp ov) all.length (ovc ov all.length)]); (iterate 3 exact rfl); exact Ext.none _; intro w1 hw1; exact htw (ovp ov) (ovc ov all.length) w1 (irdown hov hw1 (Ext.mem (by (focus ((repeat' (first | exact Ext.none _ | exact Ext.one _ _ | exact Ext.here _ _ | exact Ext.all _ | apply Ext.cons | apply Ext.app | apply Ext.two)); done))))); rintro v Lo ⟨rfl, rfl⟩) | (apply R.pure; exact rfl; first | (apply Ok1.lenS; (iterate 3 exact rfl)) | (apply Ok1.lenStr; (iterate 3 exact rfl)) | (apply Ok1.lenMm; (iterate 3 exact rfl); (focus ((repeat' (first | exact At.head | apply At.tail | apply At.right)); done))) | (apply Ok1.lenM_nil; (iterate 3 exact rfl)))) | (apply R.pure; exact rfl; first | (apply Ok1.load; exact rfl; apply Ld.own1; exact rfl; exact rfl; (focus ((repeat' (first | exact At.head | apply At.tail | apply At.right)); done)); exact hcell) | (apply Ok1.move; exact rfl) | (apply Ok1.fieldAddr; (iterate 5 exact rfl)) | (apply Ok1.load; exact rfl; first | (apply Ld.own1; exact rfl; exact rfl; (focus ((repeat' (first | exact At.head | apply At.tail | apply At.right)); done)); exact rfl) | (apply Ld.ownk; exact rfl; exact rfl; (focus ((repeat' (first | exact At.head | apply At.tail | apply At.right)); done)); exact rfl) | (apply Ld.old1; exact rfl; exact rfl; assumption; (first | exact List.not_mem_nil | assumption)) | (apply Ld.blk1; exact rfl; exact rfl; assumption; (first | exact List.not_mem_nil | assumption); exact rfl) | (apply Ld.blkk; exact rfl; exact rfl; assumption; (first | exact List.not_mem_nil | assumption); exact rfl)) | (apply Ok1.assign; exact rfl) | (apply Ok1.indexAddr; (iterate 5 exact rfl); omega; omega) | (apply Ok1.indexAddrA; (iterate 5 exact rfl); omega; omega) | (apply Ok1.pick_t; exact rfl; exact rfl) | (apply Ok1.pick_f; exact rfl; exact rfl) | (apply Ok1.pick_h; exact rfl; assumption; exact rfl) | (apply Ok1.pick_n; exact rfl; assumption; exact rfl) | (apply Ok1.not_t; exact rfl) | (apply Ok1.not_f; exact rfl) | (apply Ok1.not; exact rfl) | (apply Ok1.nilCheck; exact rfl) | (apply Ok1.nilCheckF; exact rfl) | (apply Ok1.neg; exact rfl)) | (apply R.buildSlice; (iterate 12 exact rfl); intro)) | (apply R.is0; first | (apply R.store; (iterate 6 exact rfl); (focus ((repeat' (first | exact Upd.head | apply Upd.tail | apply Upd.right)); done)); exact rfl) | fail) | (apply R.isG; first | (apply R.guard_run; exact rfl; exact rfl) | (apply R.guard_not; (iterate 3 exact rfl)) | (apply R.guard_not0; exact rfl; exact rfl) | (apply R.guard_un; (iterate 3 exact rfl)) | (apply R.guard_un0; exact rfl; exact rfl) | (apply R.guard rfl rfl ?_ (fun h => ⟨rfl, ?_⟩) <;> try intro)) | apply R.nil | (apply T.is; first | apply T.seq | apply T.region | apply T.block | apply T.scope | apply T.label | apply T.skip | apply T.exit | apply T.ret | (apply T.cond_t; exact rfl) | (apply T.cond_f; exact rfl) | (apply T.cond_h; exact rfl; assumption) | (apply T.cond_n; exact rfl; assumption) | (apply T.cond rfl <;> intro)) | apply Rnd.step)
        (apply RetOk.t; exact rfl)
        refine ⟨_, ?_, gs, rfl, rfl, hg, rfl⟩
        (focus ((repeat' (first | exact Keep.nil _ | exact Ext.one _ _ | exact Ext.here _ _ | exact Ext.all _ | apply Keep.cons | apply Keep.app | apply Keep.last | apply Ext.cons | apply Ext.app)); done))
      · rw [if_neg hf, if_pos rfl]
        refine enterK (tb := tb) Tryz.func27 rfl Tryz.ntmps27 rfl ?_
        simp only [SetL]
        repeat' (first | (apply R.is1; first | (apply R.isBin; first | (apply R.pure; exact rfl; first | (apply Ok1.lss_t; exact rfl; exact rfl; omega) | (apply Ok1.lss_f; exact rfl; exact rfl; omega) | (apply Ok1.gtr_t; exact rfl; exact rfl; omega) | (apply Ok1.gtr_f; exact rfl; exact rfl; omega) | (apply Ok1.geq_t; exact rfl; exact rfl; omega) | (apply Ok1.geq_f; exact rfl; exact rfl; omega) | (apply Ok1.eql_t; exact rfl; exact rfl; omega) | (apply Ok1.eql_f; exact rfl; exact rfl; omega) | (apply Ok1.eqlP; (iterate 5 exact rfl)) | (apply Ok1.eqlM; (iterate 5 exact rfl)) | (apply Ok1.eqlS; (iterate 5 exact rfl))) | (apply R.lss rfl rfl rfl <;> intro) | (apply R.gtr rfl rfl rfl <;> intro) | (apply R.geq rfl rfl rfl <;> intro) | (apply R.eql rfl rfl rfl <;> intro) | (apply R.eqlF; (iterate 8 exact rfl); all_goals intro)) | (apply R.isCall; first | (apply R.callV (vs := [.slice p xs.length cap]); (iterate 3 exact rfl); intro w1 hw1; exact hse w1 hw1.chg) | (apply R.callE (vs := [.slice (some ⟨_, 0, none⟩) 2 2]); (iterate 3 exact rfl); exact Ext.none _; intro w1 hw1; exact hall2 _ w1 hw1; rintro v Lo ⟨ov, hov, rfl, rfl⟩; rw [slV_eq hov]) | (apply R.callE (vs := [.slice (ovp ov) all.length (ovc ov all.length)]); (iterate 3 exact rfl); exact Ext.none _; intro w1 hw1; exact htw (ovp ov) (ovc ov all.length) w1 (irdown hov hw1 (Ext.mem (by (focus ((repeat' (first | exact Ext.none _ | exact Ext.one _ _ | exact Ext.here _ _ | exact Ext.all _ | apply Ext.cons | apply Ext.app | apply Ext.two)); done))))); rintro v Lo ⟨rfl, rfl⟩) | (apply R.pure; exact rfl; first | (apply Ok1.lenS; (iterate 3 exact rfl)) | (apply Ok1.lenStr; (iterate 3 exact rfl)) | (apply Ok1.lenMm; (iterate 3 exact rfl); (focus ((repeat' (first | exact At.head | apply At.tail | apply At.right)); done))) | (apply Ok1.lenM_nil; (iterate 3 exact rfl)))) | (apply R.pure; exact rfl; first | (apply Ok1.load; exact rfl; apply Ld.own1; exact rfl; exact rfl; (focus ((repeat' (first | exact At.head | apply At.tail | apply At.right)); done)); exact hcell) | (apply Ok1.move; exact rfl) | (apply Ok1.fieldAddr; (iterate 5 exact rfl)) | (apply Ok1.load; exact rfl; first | (apply Ld.own1; exact rfl; exact rfl; (focus ((repeat' (first | exact At.head | apply At.tail | apply At.right)); done)); exact rfl) | (apply Ld.ownk; exact rfl; exact rfl; (focus ((repeat' (first | exact At.head | apply At.tail | apply At.right)); done)); exact rfl) | (apply Ld.old1; exact rfl; exact rfl; assumption; (first | exact List.not_mem_nil | assumption)) | (apply Ld.blk1; exact rfl; exact rfl; assumption; (first | exact List.not_mem_nil | assumption); exact rfl) | (apply Ld.blkk; exact rfl; exact rfl; assumption; (first | exact List.not_mem_nil | assumption); exact rfl)) | (apply Ok1.assign; exact rfl) | (apply Ok1.indexAddr; (iterate 5 exact rfl); omega; omega) | (apply Ok1.indexAddrA; (iterate 5 exact rfl); omega; omega) | (apply Ok1.pick_t; exact rfl; exact rfl) | (apply Ok1.pick_f; exact rfl; exact rfl) | (apply Ok1.pick_h; exact rfl; assumption; exact rfl) | (apply Ok1.pick_n; exact rfl; assumption; exact rfl) | (apply Ok1.not_t; exact rfl) | (apply Ok1.not_f; exact rfl) | (apply Ok1.not; exact rfl) | (apply Ok1.nilCheck; exact rfl) | (apply Ok1.nilCheckF; exact rfl) | (apply Ok1.neg; exact rfl)) | (apply R.buildSlice; (iterate 12 exact rfl); intro)) | (apply R.is0; first | (apply R.store; (iterate 6 exact rfl); (focus ((repeat' (first | exact Upd.head | apply Upd.tail | apply Upd.right)); done)); have h9 := hset ⟨ov, all⟩; rw [Lg.v_eq (g := ⟨ov, all⟩) hov] at h9; exact h9) | (apply R.store; (iterate 6 exact rfl); (focus ((repeat' (first | exact Upd.head | apply Upd.tail | apply Upd.right)); done)); exact rfl) | fail) | (apply R.isG; first | (apply R.guard_run; exact rfl; exact rfl) | (apply R.guard_not; (iterate 3 exact rfl)) | (apply R.guard_not0; exact rfl; exact rfl) | (apply R.guard_un; (iterate 3 exact rfl)) | (apply R.guard_un0; exact rfl; exact rfl) | (apply R.guard rfl rfl ?_ (fun h => ⟨rfl, ?_⟩) <;> try intro)) | apply R.nil | (apply T.is; first | apply T.seq | apply T.region | apply T.block | apply T.scope | apply T.label | apply T.skip | apply T.exit | apply T.ret | (apply T.cond_t; exact rfl) | (apply T.cond_f; exact rfl) | (apply T.cond_h; exact rfl; assumption) | (apply T.cond_n; exact rfl; assumption) | (apply T.cond rfl <;> intro)) | apply Rnd.step)
        (apply RetOk.t; exact rfl)
        refine ⟨_, ?_, gs.set i ⟨ov, all⟩, rfl, by rw [lgs, List.map_set]; rfl, hg.set i hov (by show all.length ≤ 256; omega), rfl⟩
        rw [LsL_at hx, LsL_set _ (by rw [hg.len]; exact hi4)]
        simp only [Lg.L]
        (focus ((repeat' (first | exact Keep.nil _ | exact Ext.one _ _ | exact Ext.here _ _ | exact Ext.all _ | apply Keep.cons | apply Keep.app | apply Keep.last | apply Ext.cons | apply Ext.app)); done))
    · rw [decide_eq_true hnd] at htw
      rw [if_pos hnd, if_neg (by decide)]
      refine enterK (tb := tb) Tryz.func27 rfl Tryz.ntmps27 rfl ?_
      simp only [SetL]
      repeat' (first | (apply R.is1; first | (apply R.isBin; first | (apply R.pure; exact rfl; first | (apply Ok1.lss_t; exact rfl; exact rfl; omega) | (apply Ok1.lss_f; exact rfl; exact rfl; omega) | (apply Ok1.gtr_t; exact rfl; exact rfl; omega) | (apply Ok1.gtr_f; exact rfl; exact rfl; omega) | (apply Ok1.geq_t; exact rfl; exact rfl; omega) | (apply Ok1.geq_f; exact rfl; exact rfl; omega) | (apply Ok1.eql_t; exact rfl; exact rfl; omega) | (apply Ok1.eql_f; exact rfl; exact rfl; omega) | (apply Ok1.eqlP; (iterate 5 exact rfl)) | (apply Ok1.eqlM; (iterate 5 exact rfl)) | (apply Ok1.eqlS; (iterate 5 exact rfl))) | (apply R.lss rfl rfl rfl <;> intro) | (apply R.gtr rfl rfl rfl <;> intro) | (apply R.geq rfl rfl rfl <;> intro) | (apply R.eql rfl rfl rfl <;> intro) | (apply R.eqlF; (iterate 8 exact rfl); all_goals intro)) | (apply R.isCall; first | (apply R.callV (vs := [.slice p xs.length cap]); (iterate 3 exact rfl); intro w1 hw1; exact hse w1 hw1.chg) | (apply R.callE (vs := [.slice (some ⟨_, 0, none⟩) 2 2]); (iterate 3 exact rfl); exact Ext.none _; intro w1 hw1; exact hall2 _ w1 hw1; rintro v Lo ⟨ov, hov, rfl, rfl⟩; rw [slV_eq hov]) | (apply R.callE (vs := [.slice (ovp ov) all.length (ovc ov all.length)]); (iterate 3 exact rfl); exact Ext.none _; intro w1 hw1; exact htw (ovp ov) (ovc ov all.length) w1 (irdown hov hw1 (Ext.mem (by (focus ((repeat' (first | exact Ext.none _ | exact Ext.one _ _ | exact Ext.here _ _ | exact Ext.all _ | apply Ext.cons | apply Ext.app | apply Ext.two)); done))))); rintro v Lo ⟨rfl, rfl⟩) | (apply R.pure; exact rfl; first | (apply Ok1.lenS; (iterate 3 exact rfl)) | (apply Ok1.lenStr; (iterate 3 exact rfl)) | (apply Ok1.lenMm; (iterate 3 exact rfl); (focus ((repeat' (first | exact At.head | apply At.tail | apply At.right)); done))) | (apply Ok1.lenM_nil; (iterate 3 exact rfl)))) | (apply R.pure; exact rfl; first | (apply Ok1.load; exact rfl; apply Ld.own1; exact rfl; exact rfl; (focus ((repeat' (first | exact At.head | apply At.tail | apply At.right)); done)); exact hcell) | (apply Ok1.move; exact rfl) | (apply Ok1.fieldAddr; (iterate 5 exact rfl)) | (apply Ok1.load; exact rfl; first | (apply Ld.own1; exact rfl; exact rfl; (focus ((repeat' (first | exact At.head | apply At.tail | apply At.right)); done)); exact rfl) | (apply Ld.ownk; exact rfl; exact rfl; (focus ((repeat' (first | exact At.head | apply At.tail | apply At.right)); done)); exact rfl) | (apply Ld.old1; exact rfl; exact rfl; assumption; (first | exact List.not_mem_nil | assumption)) | (apply Ld.blk1; exact rfl; exact rfl; assumption; (first | exact List.not_mem_nil | assumption); exact rfl) | (apply Ld.blkk; exact rfl; exact rfl; assumption; (first | exact List.not_mem_nil | assumption); exact rfl)) | (apply Ok1.assign; exact rfl) | (apply Ok1.indexAddr; (iterate 5 exact rfl); omega; omega) | (apply Ok1.indexAddrA; (iterate 5 exact rfl); omega; omega) | (apply Ok1.pick_t; exact rfl; exact rfl) | (apply Ok1.pick_f; exact rfl; exact rfl) | (apply Ok1.pick_h; exact rfl; assumption; exact rfl) | (apply Ok1.pick_n; exact rfl; assumption; exact rfl) | (apply Ok1.not_t; exact rfl) | (apply Ok1.not_f; exact rfl) | (apply Ok1.not; exact rfl) | (apply Ok1.nilCheck; exact rfl) | (apply Ok1.nilCheckF; exact rfl) | (apply Ok1.neg; exact rfl)) | (apply R.buildSlice; (iterate 12 exact rfl); intro)) | (apply R.is0; first | (apply R.store; (iterate 6 exact rfl); (focus ((repeat' (first | exact Upd.head | apply Upd.tail | apply Upd.right)); done)); exact rfl) | fail) | (apply R.isG; first | (apply R.guard_run; exact rfl; exact rfl) | (apply R.guard_not; (iterate 3 exact rfl)) | (apply R.guard_not0; exact rfl; exact rfl) | (apply R.guard_un; (iterate 3 exact rfl)) | (apply R.guard_un0; exact rfl; exact rfl) | (apply R.guard rfl rfl ?_ (fun h => ⟨rfl, ?_⟩) <;> try intro)) | apply R.nil | (apply T.is; first | apply T.seq | apply T.region | apply T.block | apply T.scope | apply T.label | apply T.skip | apply T.exit | apply T.ret | (apply T.cond_t; exact rfl) | (apply T.cond_f; exact rfl) | (apply T.cond_h; exact rfl; assumption) | (apply T.cond_n; exact rfl; assumption) | (apply T.cond rfl <;> intro)) | apply Rnd.step)
      (apply RetOk.t; exact rfl)
      refine ⟨_, ?_, gs, rfl, rfl, hg, rfl⟩
      (focus ((repeat' (first | exact Keep.nil _ | exact Ext.one _ _ | exact Ext.here _ _ | exact Ext.all _ | apply Keep.cons | apply Keep.app | apply Keep.last | apply Ext.cons | apply Ext.app)); done))
end Go.Proofs.YtplhnkmmhndkjaaGreat
set_option linter.unusedSimpArgs false
set_option linter.unusedVariables false
namespace Go.Proofs.YtplhnkmmhndkjaaGreat
open Go.RowKit Go.Shelf
set_option maxRecDepth 100000
section
variable {X : Cx} {σ : Env} {L Lr : Lst} {d : Option Nat} {ty : TypeId} {pos : String} {af : Array Edge} {g : Option (Nat × Bool)} {x : Operand} {t e : TypeId} {r re : TRow} {p : Option Addr} {n cap i j : Nat}
end
/-- A delta: from where, and a log's part, of each. -/
abbrev Dl := List (Int × Pi)
end Go.Proofs.YtplhnkmmhndkjaaGreat
set_option linter.unusedSimpArgs false
set_option linter.unusedVariables false
namespace Go.Proofs.YtplhnkmmhndkjaaGreat
open Go.RowKit Go.Shelf
set_option maxRecDepth 100000
/-- How much of it both have; the error; the log. -/
def both (xs ys : List Int) (k : Nat) : Nat := min (xs.length - k) ys.length
def jAll (xs ys : List Int) (k : Nat) : List Int := xs ++ ys.drop (both xs ys k)
def jE (xs ys : List Int) (k : Nat) : Int :=
  if (xs.drop k).take (both xs ys k) ≠ ys.take (both xs ys k) then 3 else if ¬ (jAll xs ys k).Nodup then 3 else if 256 < (jAll xs ys k).length then 6 else 0
def jL (xs ys : List Int) (k : Nat) : List Int := if jE xs ys k = 0 then jAll xs ys k else []
end Go.Proofs.YtplhnkmmhndkjaaGreat
set_option linter.unusedSimpArgs false
set_option linter.unusedVariables false
namespace Go.Proofs.YtplhnkmmhndkjaaGreat
open Go.RowKit Go.Shelf
set_option maxRecDepth 100000
/-- A log, from where, and the delta's part of it. -/
abbrev Jx := List Int × Int × List Int
def JE (x : Jx) : Int := jE x.1 x.2.2 x.2.1.toNat
def JL (x : Jx) : List Int := jL x.1 x.2.2 x.2.1.toNat
def DR (dd : List (Int × List Int)) : Prop := ∀ y ∈ dd, 0 ≤ y.1 ∧ y.1 ≤ 256 ∧ y.2.length ≤ 256 ∧ SR y.2
instance (dd : List (Int × List Int)) : Decidable (DR dd) := by unfold DR; infer_instance
def appE (zz : List Jx) : Int := if ∃ x ∈ zz, (x.1.length : Int) < x.2.1 then 9 else if ∃ x ∈ zz, JE x = 3 then 3 else if ∃ x ∈ zz, JE x = 6 then 6 else 0
def appX (ls : List (List Int)) (dd : List (Int × List Int)) : Int := if DR dd then appE (ls.zip dd) else 10
def appL (ls : List (List Int)) (dd : List (Int × List Int)) : List (List Int) := if appX ls dd = 0 then (ls.zip dd).map JL else ls
theorem je_cases (x : Jx) : JE x = 0 ∨ JE x = 3 ∨ JE x = 6 := by
  unfold JE jE
  by_cases c1 : (x.1.drop x.2.1.toNat).take (both x.1 x.2.2 x.2.1.toNat) ≠ x.2.2.take (both x.1 x.2.2 x.2.1.toNat)
  · exact .inr (.inl (if_pos c1))
  · rw [if_neg c1]
    by_cases c2 : ¬ (jAll x.1 x.2.2 x.2.1.toNat).Nodup
    · exact .inr (.inl (if_pos c2))
    · rw [if_neg c2]
      by_cases c3 : 256 < (jAll x.1 x.2.2 x.2.1.toNat).length
      · exact .inr (.inr (if_pos c3))
      · exact .inl (if_neg c3)
def zz (gs : List Lg) (d : Dl) : List Jx := (lgs gs).zip (d.map fun x => (x.1, x.2.xs))
end Go.Proofs.YtplhnkmmhndkjaaGreat
set_option linter.unusedSimpArgs false
set_option linter.unusedVariables false
namespace Go.Proofs.YtplhnkmmhndkjaaGreat
open Go.RowKit Go.Shelf
set_option maxRecDepth 100000
section
variable {X : Cx} {σ : Env} {L Lr : Lst} {d : Option Nat} {ty : TypeId} {pos : String} {af : Array Edge} {g : Option (Nat × Bool)} {x : Operand} {t e : TypeId} {r re : TRow} {p : Option Addr} {n cap i j : Nat}
end
theorem ovc_le {n : Nat} {ov : Ov} {xs : List Value} (h : OvOk 1 ov n xs) : n ≤ ovc ov n := by
  unfold ovc
  cases ov with
  | none => have := h.2; simp only at this ⊢; omega
  | some q => simp only; omega
/-- A delta whose logs lie in the blocks of L. -/
structure DlO (d : Dl) (L : Lst) : Prop where
  cap : ∀ x ∈ d, x.2.xs.length ≤ x.2.cap
  adr : ∀ x ∈ d, x.2.xs ≠ [] → ∃ b o, x.2.p = some ⟨b, o, none⟩ ∧ b ∈ blks L
  rd : ∀ (w0 w : World) (S : List Nat) (L' : Lst), Hp w0 S L' w → (∀ z ∈ L, z ∈ L') → ∀ x ∈ d, RdSl w x.2.p iV x.2.xs
theorem DlO.nil (L : Lst) : DlO [] L := ⟨by simp, by simp, by simp⟩
theorem DlO.snoc {d : Dl} {L : Lst} (h : DlO d L) {ov : Ov} {xs : List Int} (hov : OvOk 1 ov xs.length (iis xs)) (f : Int) {k c : Nat} (hk : k ≤ xs.length) (hc : xs.length ≤ c) {m : Nat} (hm : xs.length - k ≤ m) :
    DlO (d ++ [(f, ⟨sufP (ovp ov) c k 1, m, xs.drop k⟩)]) (blkL 3 ov (iis xs) ++ L) := by
  refine ⟨fun x hx => ?_, fun x hx hne => ?_, fun w0 w S L' hw hin x hx => ?_⟩
  · rcases List.mem_append.1 hx with h1 | h1
    · exact h.cap x h1
    · rw [List.mem_singleton.1 h1]
      simp only [List.length_drop]
      exact hm
  · rcases List.mem_append.1 hx with h1 | h1
    · obtain ⟨b, o, h2, h3⟩ := h.adr x h1 hne
      refine ⟨b, o, h2, ?_⟩
      rw [blks, List.map_append]
      exact List.mem_append_right _ h3
    · rw [List.mem_singleton.1 h1] at hne ⊢
      simp only at hne ⊢
      cases ov with
      | none =>
        have h0 : xs.length = 0 := hov.2
        have : xs = [] := List.eq_nil_of_length_eq_zero h0
        subst this
        simp at hne
      | some q =>
        obtain ⟨b, j, junk⟩ := q
        have hb : b ∈ blks (blkL 3 (some (b, j, junk)) (iis xs) ++ L) := by simp [blks, blkL]
        unfold sufP ovp
        by_cases hck : c = k
        · exact ⟨b, 0, by rw [if_pos hck], hb⟩
        · exact ⟨b, 0 + k * 1, by rw [if_neg hck]; simp [Addr.add]; omega, hb⟩
  · rcases List.mem_append.1 hx with h1 | h1
    · exact h.rd w0 w S L' hw (fun z hz => hin z (List.mem_append_right _ hz)) x h1
    · rw [List.mem_singleton.1 h1]
      exact (irdown hov hw fun z hz => hin z (List.mem_append_left _ hz)).suf iV_len hk hc
def pur (d : Dl) : List (Int × List Int) := d.map fun x => (x.1, x.2.xs)
end Go.Proofs.YtplhnkmmhndkjaaGreat
set_option linter.unusedSimpArgs false
set_option linter.unusedVariables false
namespace Go.Proofs.YtplhnkmmhndkjaaGreat
open Go.RowKit Go.Shelf
set_option maxRecDepth 100000
theorem d4 {d : Dl} {a0 a1 a2 a3 : Int} {x0 x1 x2 x3 : List Int} (hd : pur d = [(a0, x0), (a1, x1), (a2, x2), (a3, x3)]) : ∃ p0 c0 p1 c1 p2 c2 p3 c3, d = [(a0, ⟨p0, c0, x0⟩), (a1, ⟨p1, c1, x1⟩), (a2, ⟨p2, c2, x2⟩), (a3, ⟨p3, c3, x3⟩)] := by
  match d, hd with
  | [(b0, ⟨p0, c0, y0⟩), (b1, ⟨p1, c1, y1⟩), (b2, ⟨p2, c2, y2⟩), (b3, ⟨p3, c3, y3⟩)], hd =>
    simp only [pur, List.map_cons, List.map_nil, List.cons.injEq, Prod.mk.injEq, and_true] at hd
    obtain ⟨⟨rfl, rfl⟩, ⟨rfl, rfl⟩, ⟨rfl, rfl⟩, rfl, rfl⟩ := hd
    exact ⟨p0, c0, p1, c1, p2, c2, p3, c3, rfl⟩
end Go.Proofs.YtplhnkmmhndkjaaGreat
set_option linter.unusedSimpArgs false
set_option linter.unusedVariables false
namespace Go.Proofs.YtplhnkmmhndkjaaGreat
open Go.RowKit Go.Shelf
set_option maxRecDepth 100000
theorem nums1_len (xs : List Int) : (numsI 1 xs).length = 2 * xs.length := by
  induction xs with
  | nil => rfl
  | cons x l ih =>
    simp only [numsI, List.flatMap_cons, List.length_append, List.length_cons] at *
    simp only [numI, List.length_cons, List.length_nil]
    omega
end Go.Proofs.YtplhnkmmhndkjaaGreat
set_option linter.unusedSimpArgs false
set_option linter.unusedVariables false
namespace Go.Proofs.YtplhnkmmhndkjaaGreat
open Go.RowKit Go.Shelf
set_option maxRecDepth 100000
end Go.Proofs.YtplhnkmmhndkjaaGreat
set_option linter.unusedSimpArgs false
set_option linter.unusedVariables false
namespace Go.Proofs.YtplhnkmmhndkjaaGreat
open Go.RowKit Go.Shelf
set_option maxRecDepth 100000
end Go.Proofs.YtplhnkmmhndkjaaGreat
set_option linter.unusedSimpArgs false
set_option linter.unusedVariables false
namespace Go.Proofs.YtplhnkmmhndkjaaGreat
open Go.RowKit Go.Shelf
set_option maxRecDepth 100000
/-- A digest: versions, and eight bytes. -/
def dgV (vs p8 : List Int) : List Value := iis vs ++ u8s p8
theorem dg_len {vs p8 : List Int} (hv : vs.length = 4) (hp : p8.length = 8) : (dgV vs p8).length = 12 := by simp [dgV, iis_len, u8s_len, hv, hp]
end Go.Proofs.YtplhnkmmhndkjaaGreat
set_option linter.unusedSimpArgs false
set_option linter.unusedVariables false
namespace Go.Proofs.YtplhnkmmhndkjaaGreat
open Go.RowKit Go.Shelf
set_option maxRecDepth 100000
theorem dright_ok (p : Option Addr) (n cap : Nat) (xs : List Int) (hn : n = xs.length) (hbig : n ≤ 1000000000) (w : World) (h1 : RdSl w p iV xs) : CallW Tryz.prog 64 [.slice p n cap] w fun v _ => v = .bool (decide (SR xs)) := by
  subst hn
  refine enterW (tb := tb) Tryz.func64 rfl Tryz.ntmps64 rfl ?_
  repeat' (first | (apply R.is1; (apply R.pure; exact rfl; (apply Ok1.assign; exact rfl))) | apply R.nil | (apply T.is; first | apply T.seq | apply T.region | apply T.block))
  apply T.loopK (α := Nat) (I := fun i => i ≤ xs.length ∧ SR (xs.take i)) (σi := fun i => [(0, .slice p xs.length cap), (3, .int .i64 i)]) (Li := fun _ => []) (μ := fun i => xs.length - i) (i0 := 0)
  · exact ⟨Nat.zero_le _, fun x hx => by simp at hx⟩
  · exact ⟨rfl, rfl, trivial⟩
  · (focus ((repeat' (exact Keep.nil _)); done))
  · intro i ⟨hi, htk⟩
    rcases Nat.lt_or_ge i xs.length with hlt | hge
    · obtain ⟨x, hx⟩ : ∃ x, xs[i]? = some x := ⟨_, List.getElem?_eq_getElem (by omega)⟩
      have hm := List.mem_of_getElem? hx
      obtain ⟨b1, o1, hpe1, H1⟩ := h1.at hx
      replace H1 := H1 1 iV_len
      by_cases c1 : x < 1
      · repeat' (first | (apply R.is1; first | (apply R.isBin; (apply R.pure; exact rfl; (apply Ok1.lss_t; exact rfl; exact rfl; omega))) | (apply R.isCall; (apply R.pure; exact rfl; (apply Ok1.lenS; (iterate 3 exact rfl)))) | (apply R.pure; exact rfl; first | (apply Ok1.indexAddrP; (iterate 4 exact rfl); exact hpe1; exact rfl; omega; omega) | (apply Ok1.load; exact rfl; apply Ld.row0 H1; exact rfl; exact List.not_mem_nil; (iterate 3 exact rfl)) | (apply Ok1.move; exact rfl) | (apply Ok1.assign; exact rfl) | (apply Ok1.pick_t; exact rfl; exact rfl))) | (apply R.isG; (apply R.guard_not; (iterate 3 exact rfl))) | apply R.nil | (apply T.is; first | apply T.seq | apply T.region | apply T.block | apply T.skip | apply T.ret | (apply T.cond_t; exact rfl)))
        all_goals (apply RetOk.t; exact rfl)
        all_goals rw [decide_eq_false]
        exact fun h => by have := (h x hm).1; omega
      · by_cases c2 : 65535 < x
        · repeat' (first | (apply R.is1; first | (apply R.isBin; (apply R.pure; exact rfl; first | (apply Ok1.lss_t; exact rfl; exact rfl; omega) | (apply Ok1.lss_f; exact rfl; exact rfl; omega) | (apply Ok1.gtr_t; exact rfl; exact rfl; omega))) | (apply R.isCall; (apply R.pure; exact rfl; (apply Ok1.lenS; (iterate 3 exact rfl)))) | (apply R.pure; exact rfl; first | (apply Ok1.indexAddrP; (iterate 4 exact rfl); exact hpe1; exact rfl; omega; omega) | (apply Ok1.load; exact rfl; apply Ld.row0 H1; exact rfl; exact List.not_mem_nil; (iterate 3 exact rfl)) | (apply Ok1.move; exact rfl) | (apply Ok1.assign; exact rfl) | (apply Ok1.pick_f; exact rfl; exact rfl))) | (apply R.isG; (apply R.guard_run; exact rfl; exact rfl)) | apply R.nil | (apply T.is; first | apply T.seq | apply T.region | apply T.block | apply T.skip | apply T.ret | (apply T.cond_t; exact rfl)))
          all_goals (apply RetOk.t; exact rfl)
          all_goals rw [decide_eq_false]
          exact fun h => by have := (h x hm).2; omega
        · repeat' (first | (apply R.is1; first | (apply R.isBin; (apply R.pure; exact rfl; first | (apply Ok1.add64; exact rfl; exact rfl; omega; omega) | (apply Ok1.lss_t; exact rfl; exact rfl; omega) | (apply Ok1.lss_f; exact rfl; exact rfl; omega) | (apply Ok1.gtr_f; exact rfl; exact rfl; omega))) | (apply R.isCall; (apply R.pure; exact rfl; (apply Ok1.lenS; (iterate 3 exact rfl)))) | (apply R.pure; exact rfl; first | (apply Ok1.indexAddrP; (iterate 4 exact rfl); exact hpe1; exact rfl; omega; omega) | (apply Ok1.load; exact rfl; apply Ld.row0 H1; exact rfl; exact List.not_mem_nil; (iterate 3 exact rfl)) | (apply Ok1.move; exact rfl) | (apply Ok1.assign; exact rfl) | (apply Ok1.pick_f; exact rfl; exact rfl))) | (apply R.isG; (apply R.guard_run; exact rfl; exact rfl)) | apply R.nil | (apply T.is; first | apply T.seq | apply T.region | apply T.block | apply T.skip | (apply T.cond_t; exact rfl) | (apply T.cond_f; exact rfl)))
          refine ⟨i + 1, ⟨by omega, ?_⟩, by omega, ⟨rfl, rfl, trivial⟩, by (focus ((repeat' (exact Keep.nil _)); done))⟩
          intro y hy
          rw [List.take_add_one, hx, List.mem_append] at hy
          rcases hy with hy | hy
          · exact htk y hy
          · simp only [Option.toList_some, List.mem_singleton] at hy
            subst hy
            exact ⟨by omega, by omega⟩
    · repeat' (first | (apply R.is1; first | (apply R.isBin; (apply R.pure; exact rfl; (apply Ok1.lss_f; exact rfl; exact rfl; omega))) | (apply R.isCall; (apply R.pure; exact rfl; (apply Ok1.lenS; (iterate 3 exact rfl)))) | (apply R.pure; exact rfl; first | (apply Ok1.move; exact rfl) | (apply Ok1.assign; exact rfl))) | apply R.nil | (apply T.is; first | apply T.seq | apply T.region | apply T.exit | apply T.ret | (apply T.cond_f; exact rfl)))
      (apply RetOk.t; exact rfl)
      rw [List.take_of_length_le hge] at htk
      rw [decide_eq_true htk]
theorem nodup_snoc {xs : List Int} {i : Nat} {x : Int} (h : xs[i]? = some x) : (xs.take (i + 1)).Nodup ↔ (xs.take i).Nodup ∧ x ∉ xs.take i := by
  rw [List.take_add_one, h, Option.toList_some, List.nodup_append]
  constructor
  · intro ⟨h1, _, h3⟩
    exact ⟨h1, fun hm => h3 x hm x (List.mem_singleton.2 rfl) rfl⟩
  · intro ⟨h1, h2⟩
    refine ⟨h1, by simp, fun a ha b hb he => ?_⟩
    rw [List.mem_singleton] at hb
    subst hb he
    exact h2 ha
theorem dtwice_ok (p : Option Addr) (n cap : Nat) (xs : List Int) (hn : n = xs.length) (hbig : n ≤ 1000000000) (w : World) (h1 : RdSl w p iV xs) : CallW Tryz.prog 65 [.slice p n cap] w fun v _ => v = .bool (decide (¬ xs.Nodup)) := by
  subst hn
  refine enterW (tb := tb) Tryz.func65 rfl Tryz.ntmps65 rfl ?_
  repeat' (first | (apply R.is1; (apply R.pure; exact rfl; (apply Ok1.assign; exact rfl))) | apply R.nil | (apply T.is; first | apply T.seq | apply T.region | apply T.block))
  apply T.loopK (α := Nat) (I := fun i => i ≤ xs.length ∧ (xs.take i).Nodup) (σi := fun i => [(0, .slice p xs.length cap), (3, .int .i64 i)]) (Li := fun _ => []) (μ := fun i => xs.length - i) (i0 := 0)
  · exact ⟨Nat.zero_le _, List.nodup_nil⟩
  · exact ⟨rfl, rfl, trivial⟩
  · (focus ((repeat' (exact Keep.nil _)); done))
  · intro i ⟨hi, htk⟩
    rcases Nat.lt_or_ge i xs.length with hlt | hge
    · obtain ⟨x, hx⟩ : ∃ x, xs[i]? = some x := ⟨_, List.getElem?_eq_getElem (by omega)⟩
      obtain ⟨b1, o1, hpe1, H1⟩ := h1.at hx
      replace H1 := H1 1 iV_len
      repeat' (first | (apply R.is1; first | (apply R.isBin; (apply R.pure; exact rfl; (apply Ok1.lss_t; exact rfl; exact rfl; omega))) | (apply R.isCall; (apply R.pure; exact rfl; (apply Ok1.lenS; (iterate 3 exact rfl)))) | (apply R.pure; exact rfl; first | (apply Ok1.move; exact rfl) | (apply Ok1.assign; exact rfl))) | apply R.nil | (apply T.is; first | apply T.seq | apply T.region | apply T.block | apply T.skip | (apply T.cond_t; exact rfl)))
      apply T.loopK (α := Nat) (I := fun k => k ≤ i ∧ x ∉ xs.take k) (σi := fun k => [(0, .slice p xs.length cap), (3, .int .i64 i), (4, .int .i64 k)]) (Li := fun _ => []) (μ := fun k => i - k) (i0 := 0)
      · exact ⟨Nat.zero_le _, by simp⟩
      · exact ⟨rfl, rfl, rfl, trivial⟩
      · (focus ((repeat' (exact Keep.nil _)); done))
      · intro k ⟨hk, hnk⟩
        rcases Nat.lt_or_ge k i with hlk | hgk
        · obtain ⟨y, hy⟩ : ∃ y, xs[k]? = some y := ⟨_, List.getElem?_eq_getElem (by omega)⟩
          obtain ⟨b2, o2, hpe2, H2⟩ := h1.at hy
          replace H2 := H2 1 iV_len
          have hb2 := hpe2.symm.trans hpe1
          cases hb2
          by_cases hxy : x = y
          · repeat' (first | (apply R.is1; first | (apply R.isBin; (apply R.pure; exact rfl; (apply Ok1.lss_t; exact rfl; exact rfl; omega))) | (apply R.pure; exact rfl; first | (apply Ok1.move; exact rfl) | (apply Ok1.assign; exact rfl))) | apply R.nil | (apply T.is; first | (apply T.drawC (id := 7) [] (by decide); ((apply A.take 0; exact rfl; exact rfl; kernel_rfl; kernel_rfl; kernel_rfl; (apply Ok1.move; exact rfl)) <;> (apply A.take 1; exact rfl; exact rfl; kernel_rfl; kernel_rfl; kernel_rfl; (apply Ok1.move; exact rfl)) <;> (apply A.take 2; exact rfl; exact rfl; kernel_rfl; kernel_rfl; kernel_rfl; (apply Ok1.indexAddrP; (iterate 4 exact rfl); exact hpe1; exact rfl; omega; omega)) <;> (apply A.take 3; exact rfl; exact rfl; kernel_rfl; kernel_rfl; kernel_rfl; (apply Ok1.load; exact rfl; (apply Ld.row0 H1; exact rfl; exact List.not_mem_nil; (iterate 3 exact rfl)))) <;> (apply A.take 4; exact rfl; exact rfl; kernel_rfl; kernel_rfl; kernel_rfl; (apply Ok1.move; exact rfl)) <;> (apply A.take 5; exact rfl; exact rfl; kernel_rfl; kernel_rfl; kernel_rfl; (apply Ok1.move; exact rfl)) <;> (apply A.take 6; exact rfl; exact rfl; kernel_rfl; kernel_rfl; kernel_rfl; (apply Ok1.indexAddrP; (iterate 4 exact rfl); exact hpe1; exact rfl; omega; omega)) <;> (apply A.take 7; exact rfl; exact rfl; kernel_rfl; kernel_rfl; kernel_rfl; (apply Ok1.load; exact rfl; (apply Ld.row0 H2; exact rfl; exact List.not_mem_nil; (iterate 3 exact rfl)))) <;> ((apply A.take 8; exact rfl; exact rfl; kernel_rfl; kernel_rfl; kernel_rfl; (apply Ok1.eql_t; exact rfl; exact rfl; omega))) <;> (apply A.done; kernel_rfl))) | apply T.seq | apply T.region | apply T.block | apply T.skip | apply T.ret | (apply T.cond_t; exact rfl)))
            all_goals (apply RetOk.t; exact rfl)
            all_goals rw [decide_eq_true]
            intro hnd
            have h3 := (List.getElem?_inj (l := xs) (i := k) (j := i) (by omega) hnd).1 (by rw [hy, hx, hxy])
            omega
          · repeat' (first | (apply R.is1; first | (apply R.isBin; (apply R.pure; exact rfl; first | (apply Ok1.add64; exact rfl; exact rfl; omega; omega) | (apply Ok1.lss_t; exact rfl; exact rfl; omega))) | (apply R.pure; exact rfl; first | (apply Ok1.move; exact rfl) | (apply Ok1.assign; exact rfl))) | apply R.nil | (apply T.is; first | (apply T.drawC (id := 7) [] (by decide); ((apply A.take 0; exact rfl; exact rfl; kernel_rfl; kernel_rfl; kernel_rfl; (apply Ok1.move; exact rfl)) <;> (apply A.take 1; exact rfl; exact rfl; kernel_rfl; kernel_rfl; kernel_rfl; (apply Ok1.move; exact rfl)) <;> (apply A.take 2; exact rfl; exact rfl; kernel_rfl; kernel_rfl; kernel_rfl; (apply Ok1.indexAddrP; (iterate 4 exact rfl); exact hpe1; exact rfl; omega; omega)) <;> (apply A.take 3; exact rfl; exact rfl; kernel_rfl; kernel_rfl; kernel_rfl; (apply Ok1.load; exact rfl; (apply Ld.row0 H1; exact rfl; exact List.not_mem_nil; (iterate 3 exact rfl)))) <;> (apply A.take 4; exact rfl; exact rfl; kernel_rfl; kernel_rfl; kernel_rfl; (apply Ok1.move; exact rfl)) <;> (apply A.take 5; exact rfl; exact rfl; kernel_rfl; kernel_rfl; kernel_rfl; (apply Ok1.move; exact rfl)) <;> (apply A.take 6; exact rfl; exact rfl; kernel_rfl; kernel_rfl; kernel_rfl; (apply Ok1.indexAddrP; (iterate 4 exact rfl); exact hpe1; exact rfl; omega; omega)) <;> (apply A.take 7; exact rfl; exact rfl; kernel_rfl; kernel_rfl; kernel_rfl; (apply Ok1.load; exact rfl; (apply Ld.row0 H2; exact rfl; exact List.not_mem_nil; (iterate 3 exact rfl)))) <;> ((apply A.take 8; exact rfl; exact rfl; kernel_rfl; kernel_rfl; kernel_rfl; (apply Ok1.eql_f; exact rfl; exact rfl; omega))) <;> (apply A.done; kernel_rfl))) | apply T.seq | apply T.region | apply T.block | apply T.skip | (apply T.cond_t; exact rfl) | (apply T.cond_f; exact rfl)))
            refine ⟨k + 1, ⟨by omega, ?_⟩, by omega, ⟨rfl, rfl, rfl, trivial⟩, by (focus ((repeat' (exact Keep.nil _)); done))⟩
            rw [List.take_add_one, hy, Option.toList_some, List.mem_append, List.mem_singleton]
            rintro (h | h)
            · exact hnk h
            · exact hxy h
        · have hki : k = i := by omega
          subst hki
          repeat' (first | (apply R.is1; first | (apply R.isBin; (apply R.pure; exact rfl; first | (apply Ok1.add64; exact rfl; exact rfl; omega; omega) | (apply Ok1.lss_f; exact rfl; exact rfl; omega))) | (apply R.pure; exact rfl; first | (apply Ok1.move; exact rfl) | (apply Ok1.assign; exact rfl))) | apply R.nil | (apply T.is; first | apply T.seq | apply T.region | apply T.exit | (apply T.cond_f; exact rfl)))
          exact ⟨k + 1, ⟨by omega, (nodup_snoc hx).2 ⟨htk, hnk⟩⟩, by omega, ⟨rfl, rfl, trivial⟩, by (focus ((repeat' (exact Keep.nil _)); done))⟩
    · repeat' (first | (apply R.is1; first | (apply R.isBin; (apply R.pure; exact rfl; (apply Ok1.lss_f; exact rfl; exact rfl; omega))) | (apply R.isCall; (apply R.pure; exact rfl; (apply Ok1.lenS; (iterate 3 exact rfl)))) | (apply R.pure; exact rfl; first | (apply Ok1.move; exact rfl) | (apply Ok1.assign; exact rfl))) | apply R.nil | (apply T.is; first | apply T.seq | apply T.region | apply T.exit | apply T.ret | (apply T.cond_f; exact rfl)))
      (apply RetOk.t; exact rfl)
      rw [List.take_of_length_le hge] at htk
      rw [decide_eq_false (by simp [htk])]
end Go.Proofs.YtplhnkmmhndkjaaGreat
set_option linter.unusedSimpArgs false
set_option linter.unusedVariables false
namespace Go.Proofs.YtplhnkmmhndkjaaGreat
open Go.RowKit Go.Shelf
set_option maxRecDepth 100000
/-- The document's set: four logs. -/
def DSL (bs : Nat) (gs : List Lg) : Lst := (bs, .cells ⟨setV gs⟩ 82 (0, 0)) :: LsL gs
structure DSR (w : World) (bs : Nat) (gs : List Lg) : Prop where
  b : w.heap[bs]? = some (.cells ⟨setV gs⟩ 82 (0, 0))
  rd : ∀ g ∈ gs, RdSl w (ovp g.ov) iV g.xs
theorem DSR.of {bs : Nat} {gs : List Lg} (hg : GOk gs) {w0 w : World} {S : List Nat} {L : Lst} (hw : Hp w0 S L w) (hin : ∀ x ∈ DSL bs gs, x ∈ L) : DSR w bs gs :=
  ⟨hw.get _ _ (hin _ List.mem_cons_self), fun g h => Lg.rd (hg.ok g h) hw fun x hx => hin _ (List.mem_cons_of_mem _ (mem_LsL h hx))⟩
theorem dhas_ok (bs : Nat) (gs : List Lg) (hg : GOk gs) (s : Int) (w : World) (hs : DSR w bs gs) :
    CallW Tryz.prog 72 [.pointer (some ⟨bs, 0, none⟩), .int .i64 s] w fun v _ => v = .bool (decide (s ∈ lcat gs)) := by
  have hb := hs.b
  refine enterW (tb := tb) Tryz.func72 rfl Tryz.ntmps72 rfl ?_
  repeat' (first | (apply R.is1; (apply R.pure; exact rfl; (apply Ok1.assign; exact rfl))) | apply R.nil | (apply T.is; first | apply T.seq | apply T.region | apply T.block))
  apply T.loopK (α := Nat) (I := fun i => i ≤ 4 ∧ s ∉ lcat (gs.take i)) (σi := fun i => [(0, .pointer (some ⟨bs, 0, none⟩)), (1, .int .i64 s), (5, .int .i64 i)]) (Li := fun _ => []) (μ := fun i => 4 - i) (i0 := 0)
  · exact ⟨Nat.zero_le _, by simp [lcat]⟩
  · exact ⟨rfl, rfl, rfl, trivial⟩
  · (focus ((repeat' (exact Keep.nil _)); done))
  · intro i ⟨hi, hni⟩
    rcases Nat.lt_or_ge i 4 with hlt | hge
    · obtain ⟨g, hx⟩ : ∃ g, gs[i]? = some g := ⟨_, List.getElem?_eq_getElem (by rw [hg.len]; omega)⟩
      have hm := List.mem_of_getElem? hx
      have hcell := setV_get hx (hg.ok g hm)
      have hle := hg.le g hm
      have hrd := hs.rd g hm
      have hsn := lcat_snoc hx
      repeat' (first | (apply R.is1; first | (apply R.isBin; (apply R.pure; exact rfl; (apply Ok1.lss_t; exact rfl; exact rfl; omega))) | (apply R.pure; exact rfl; first | (apply Ok1.move; exact rfl) | (apply Ok1.assign; exact rfl))) | apply R.nil | (apply T.is; first | apply T.seq | apply T.region | apply T.block | apply T.skip | (apply T.cond_t; exact rfl)))
      apply T.loopK (α := Nat) (I := fun k => k ≤ g.xs.length ∧ s ∉ g.xs.take k) (σi := fun k => [(0, .pointer (some ⟨bs, 0, none⟩)), (1, .int .i64 s), (5, .int .i64 i), (6, .int .i64 k)]) (Li := fun _ => []) (μ := fun k => g.xs.length - k) (i0 := 0)
      · exact ⟨Nat.zero_le _, by simp⟩
      · exact ⟨rfl, rfl, rfl, rfl, trivial⟩
      · (focus ((repeat' (exact Keep.nil _)); done))
      · intro k ⟨hk, hnk⟩
        rcases Nat.lt_or_ge k g.xs.length with hlk | hgk
        · obtain ⟨y, hy⟩ : ∃ y, g.xs[k]? = some y := ⟨_, List.getElem?_eq_getElem (by omega)⟩
          obtain ⟨b1, o1, hpe1, H1⟩ := hrd.at hy
          replace H1 := H1 1 iV_len
          by_cases hxy : y = s
          · repeat' (first | (apply R.is1; first | (apply R.isBin; (apply R.pure; exact rfl; first | (apply Ok1.lss_t; exact rfl; exact rfl; omega) | (apply Ok1.eql_t; exact rfl; exact rfl; omega))) | (apply R.isCall; (apply R.pure; exact rfl; (apply Ok1.lenS; (iterate 3 exact rfl)))) | (apply R.pure; exact rfl; first | (apply Ok1.load; exact rfl; first | (apply Ld.blk1; exact rfl; exact rfl; exact hb; exact List.not_mem_nil; exact hcell) | (apply Ld.row0 H1; exact rfl; exact List.not_mem_nil; (iterate 3 exact rfl))) | (apply Ok1.indexAddrP; (iterate 4 exact rfl); exact hpe1; exact rfl; omega; omega) | (apply Ok1.move; exact rfl) | (apply Ok1.fieldAddr; (iterate 5 exact rfl)) | (apply Ok1.assign; exact rfl) | (apply Ok1.indexAddrA; (iterate 5 exact rfl); omega; omega) | (apply Ok1.nilCheck; exact rfl))) | apply R.nil | (apply T.is; first | apply T.seq | apply T.region | apply T.block | apply T.skip | apply T.ret | (apply T.cond_t; exact rfl)))
            all_goals (apply RetOk.t; exact rfl)
            all_goals rw [decide_eq_true]
            refine List.mem_flatMap.2 ⟨g, hm, ?_⟩
            rw [← hxy]
            exact List.mem_of_getElem? hy
          · repeat' (first | (apply R.is1; first | (apply R.isBin; (apply R.pure; exact rfl; first | (apply Ok1.add64; exact rfl; exact rfl; omega; omega) | (apply Ok1.lss_t; exact rfl; exact rfl; omega) | (apply Ok1.eql_f; exact rfl; exact rfl; omega))) | (apply R.isCall; (apply R.pure; exact rfl; (apply Ok1.lenS; (iterate 3 exact rfl)))) | (apply R.pure; exact rfl; first | (apply Ok1.load; exact rfl; first | (apply Ld.blk1; exact rfl; exact rfl; exact hb; exact List.not_mem_nil; exact hcell) | (apply Ld.row0 H1; exact rfl; exact List.not_mem_nil; (iterate 3 exact rfl))) | (apply Ok1.indexAddrP; (iterate 4 exact rfl); exact hpe1; exact rfl; omega; omega) | (apply Ok1.move; exact rfl) | (apply Ok1.fieldAddr; (iterate 5 exact rfl)) | (apply Ok1.assign; exact rfl) | (apply Ok1.indexAddrA; (iterate 5 exact rfl); omega; omega) | (apply Ok1.nilCheck; exact rfl))) | apply R.nil | (apply T.is; first | apply T.seq | apply T.region | apply T.block | apply T.skip | (apply T.cond_t; exact rfl) | (apply T.cond_f; exact rfl)))
            refine ⟨k + 1, ⟨by omega, ?_⟩, by omega, ⟨rfl, rfl, rfl, rfl, trivial⟩, by (focus ((repeat' (exact Keep.nil _)); done))⟩
            rw [List.take_add_one, hy, Option.toList_some, List.mem_append, List.mem_singleton]
            rintro (h | h)
            · exact hnk h
            · exact hxy h.symm
        · repeat' (first | (apply R.is1; first | (apply R.isBin; (apply R.pure; exact rfl; first | (apply Ok1.add64; exact rfl; exact rfl; omega; omega) | (apply Ok1.lss_f; exact rfl; exact rfl; omega))) | (apply R.isCall; (apply R.pure; exact rfl; (apply Ok1.lenS; (iterate 3 exact rfl)))) | (apply R.pure; exact rfl; first | (apply Ok1.load; exact rfl; apply Ld.blk1; exact rfl; exact rfl; exact hb; exact List.not_mem_nil; exact hcell) | (apply Ok1.move; exact rfl) | (apply Ok1.fieldAddr; (iterate 5 exact rfl)) | (apply Ok1.assign; exact rfl) | (apply Ok1.indexAddrA; (iterate 5 exact rfl); omega; omega) | (apply Ok1.nilCheck; exact rfl))) | apply R.nil | (apply T.is; first | apply T.seq | apply T.region | apply T.exit | (apply T.cond_f; exact rfl)))
          refine ⟨i + 1, ⟨by omega, ?_⟩, by omega, ⟨rfl, rfl, rfl, trivial⟩, by (focus ((repeat' (exact Keep.nil _)); done))⟩
          rw [List.take_of_length_le hgk] at hnk
          rw [hsn, List.mem_append]
          rintro (h | h)
          · exact hni h
          · exact hnk h
    · repeat' (first | (apply R.is1; first | (apply R.isBin; (apply R.pure; exact rfl; (apply Ok1.lss_f; exact rfl; exact rfl; omega))) | (apply R.pure; exact rfl; first | (apply Ok1.move; exact rfl) | (apply Ok1.assign; exact rfl))) | apply R.nil | (apply T.is; first | apply T.seq | apply T.region | apply T.exit | apply T.ret | (apply T.cond_f; exact rfl)))
      (apply RetOk.t; exact rfl)
      rw [List.take_of_length_le (by rw [hg.len]; omega)] at hni
      rw [decide_eq_false hni]
theorem drevoke_ok (bs : Nat) (gs : List Lg) (hg : GOk gs) (seed : Int) (p : Option Addr) (n cap : Nat) (xs : List Int) (hn : n = xs.length) (hbig : n ≤ 1000) (w : World) (hp : RdSl w p iV xs) (hoff : xs ≠ [] → Off p (blks (DSL bs gs))) :
    CallM Tryz.prog 28 [.pointer (some ⟨bs, 0, none⟩), .int .i64 seed, .slice p n cap] (DSL bs gs) w fun v L => ∃ gs', v = .int .i64 (revE (lgs gs) seed xs) ∧ lgs gs' = revL (lgs gs) seed xs ∧ GOk gs' ∧ L = DSL bs gs' := by
  subst hn
  have hse := fun w1 (hc : Chg (blks (DSL bs gs)) w w1) => dright_ok p xs.length cap xs rfl (by omega) w1 (hp.chg' hc hoff)
  by_cases hr : seed < 0 ∨ 4 ≤ seed ∨ ¬ SR xs
  · have he : revE (lgs gs) seed xs = 10 := by rw [revE, if_pos hr]
    have hl : revL (lgs gs) seed xs = lgs gs := by rw [revL, he, if_neg (by decide)]
    rw [he, hl]
    by_cases h0 : seed < 0
    · refine enterK (tb := tb) Tryz.func28 rfl Tryz.ntmps28 rfl ?_
      repeat' (first | (apply R.is1; first | (apply R.isBin; (apply R.pure; exact rfl; (apply Ok1.lss_t; exact rfl; exact rfl; omega))) | (apply R.pure; exact rfl; first | (apply Ok1.move; exact rfl) | (apply Ok1.assign; exact rfl) | (apply Ok1.pick_t; exact rfl; exact rfl))) | (apply R.isG; (apply R.guard_not; (iterate 3 exact rfl))) | apply R.nil | (apply T.is; first | apply T.seq | apply T.region | apply T.ret | (apply T.cond_t; exact rfl)))
      (apply RetOk.t; exact rfl)
      exact ⟨_, Keep.last (.all _), gs, rfl, rfl, hg, rfl⟩
    · by_cases h4 : 4 ≤ seed
      · have h3 : 3 < seed := by omega
        refine enterK (tb := tb) Tryz.func28 rfl Tryz.ntmps28 rfl ?_
        repeat' (first | (apply R.is1; first | (apply R.isBin; (apply R.pure; exact rfl; first | (apply Ok1.lss_f; exact rfl; exact rfl; omega) | (apply Ok1.gtr_t; exact rfl; exact rfl; omega))) | (apply R.pure; exact rfl; first | (apply Ok1.move; exact rfl) | (apply Ok1.assign; exact rfl) | (apply Ok1.pick_t; exact rfl; exact rfl) | (apply Ok1.pick_f; exact rfl; exact rfl))) | (apply R.isG; first | (apply R.guard_run; exact rfl; exact rfl) | (apply R.guard_not; (iterate 3 exact rfl))) | apply R.nil | (apply T.is; first | apply T.seq | apply T.region | apply T.ret | (apply T.cond_t; exact rfl)))
        (apply RetOk.t; exact rfl)
        exact ⟨_, Keep.last (.all _), gs, rfl, rfl, hg, rfl⟩
      · have h3 : ¬ 3 < seed := by omega
        have hs : ¬ SR xs := by rcases hr with h | h | h; exact absurd h h0; exact absurd h h4; exact h
        rw [decide_eq_false hs] at hse
        refine enterK (tb := tb) Tryz.func28 rfl Tryz.ntmps28 rfl ?_
        repeat' (first | (apply R.is1; first | (apply R.isBin; (apply R.pure; exact rfl; first | (apply Ok1.lss_f; exact rfl; exact rfl; omega) | (apply Ok1.gtr_f; exact rfl; exact rfl; omega))) | (apply R.isCall; (apply R.callV (vs := [.slice p xs.length cap]); (iterate 3 exact rfl); intro w1 hw1; exact hse w1 hw1.chg)) | (apply R.pure; exact rfl; first | (apply Ok1.move; exact rfl) | (apply Ok1.assign; exact rfl) | (apply Ok1.pick_f; exact rfl; exact rfl) | (apply Ok1.not_f; exact rfl))) | (apply R.isG; (apply R.guard_run; exact rfl; exact rfl)) | apply R.nil | (apply T.is; first | apply T.seq | apply T.region | apply T.ret | (apply T.cond_t; exact rfl)))
        (apply RetOk.t; exact rfl)
        exact ⟨_, Keep.last (.all _), gs, rfl, rfl, hg, rfl⟩
  · have h0 : ¬ seed < 0 := fun h => hr (.inl h)
    have h4 : ¬ 4 ≤ seed := fun h => hr (.inr (.inl h))
    have h3 : ¬ 3 < seed := by omega
    have hs : SR xs := Classical.not_not.1 fun h => hr (.inr (.inr h))
    rw [decide_eq_true hs] at hse
    obtain ⟨i, rfl⟩ : ∃ i : Nat, seed = i := ⟨seed.toNat, by omega⟩
    have hi4 : i < 4 := by omega
    obtain ⟨g, hx⟩ : ∃ g, gs[i]? = some g := ⟨_, List.getElem?_eq_getElem (by rw [hg.len]; omega)⟩
    have hm := List.mem_of_getElem? hx
    have hgo := hg.ok g hm
    have hgl := hg.le g hm
    have hcell := setV_get hx hgo
    have hgd : (lgs gs).getD (i : Int).toNat [] = g.xs := by
      rw [Int.toNat_natCast, List.getD_eq_getElem?_getD, lgs, List.getElem?_map, hx]
      rfl
    have hrev : revE (lgs gs) i xs = if ¬ (g.xs ++ xs).Nodup then 8 else if 256 < (g.xs ++ xs).length then 6 else 0 := by rw [revE, if_neg hr, hgd]
    have hrl : revL (lgs gs) i xs = if revE (lgs gs) i xs = 0 then (lgs gs).set i (g.xs ++ xs) else lgs gs := by rw [revL, hgd, Int.toNat_natCast]
    have hset := fun g' => setV_set (gs := gs) (i := i) g' (by rw [hg.len]; exact hi4)
    have hrd := fun w1 (hc : Chg (blks (DSL bs gs)) w w1) => hp.chg' hc hoff
    have hall : (g.xs ++ xs).length = g.xs.length + xs.length := List.length_append
    have htw := fun p cap w1 h1 => dtwice_ok p (g.xs ++ xs).length cap (g.xs ++ xs) rfl (by omega) w1 h1
    rw [hrl, hrev]
    clear hrl hrev hgd
    by_cases hnd : (g.xs ++ xs).Nodup
    · rw [decide_eq_false (fun h => h hnd)] at htw
      rw [if_neg (fun h => h hnd)]
      by_cases hf : 256 < (g.xs ++ xs).length
      · rw [if_pos hf, if_neg (by decide)]
        refine enterK (tb := tb) Tryz.func28 rfl Tryz.ntmps28 rfl ?_
        simp only [DSL]
        repeat' (first | (apply R.is1; first | (apply R.buildSlice0; (iterate 4 exact rfl); intro b0) | (apply R.isBin; (apply R.pure; exact rfl; first | (apply Ok1.lss_f; exact rfl; exact rfl; omega) | (apply Ok1.gtr_t; exact rfl; exact rfl; omega) | (apply Ok1.gtr_f; exact rfl; exact rfl; omega))) | (apply R.isCall; first | (apply R.callV (vs := [.slice p xs.length cap]); (iterate 3 exact rfl); intro w1 hw1; exact hse w1 hw1.chg) | (focus (apply R.appendRd (xs := g.xs) (v := iV) (sz := 1) (ov := some (b0, 0, [])) (n := 0) (old := []) (m := g.xs.length); (iterate 12 exact rfl); exact ⟨rfl, rfl⟩; (focus ((repeat' (exact Ext.one _ _)); done)); exact rfl; exact iV_len; exact rfl; (intro w1 hw1; exact Lg.rd hgo hw1 fun x hx => List.mem_cons_of_mem _ (List.mem_cons_of_mem _ (mem_LsL hm hx))); (focus (rw [fl_i]; exact iis_one _)); omega; intro ov1 hov1 hsome; rw [Nat.zero_add, List.nil_append, fl_i] at hov1; rw [Nat.zero_add, List.nil_append, fl_i])) | (focus (apply R.appendRd (xs := xs) (v := iV) (sz := 1) (ov := ov1) (n := g.xs.length) (old := iis g.xs) (m := xs.length); (iterate 12 exact rfl); exact hov1; (focus ((repeat' (exact Ext.here _ _)); done)); exact rfl; exact iV_len; exact rfl; (intro w1 hw1; exact hrd w1 hw1.chg); (focus (rw [fl_i]; exact iis_one _)); omega; intro ov2 hov2 hsome2; rw [fl_i, ← iis_app, ← hall] at hov2; rw [fl_i, ← iis_app, ← hall, slV_eq hov2])) | (apply R.callV (vs := [.slice (ovp ov2) (g.xs ++ xs).length (ovc ov2 (g.xs ++ xs).length)]); (iterate 3 exact rfl); intro w1 hw1; exact htw (ovp ov2) (ovc ov2 _) w1 (irdown hov2 hw1 (Ext.mem (by (focus ((repeat' (exact Ext.here _ _)); done)))))) | (apply R.pure; exact rfl; (apply Ok1.lenS; (iterate 3 exact rfl)))) | (apply R.pure; exact rfl; first | (apply Ok1.load; exact rfl; apply Ld.own1; exact rfl; exact rfl; (focus ((repeat' (first | exact At.head | apply At.tail)); done)); exact hcell) | (apply Ok1.move; exact rfl) | (apply Ok1.fieldAddr; (iterate 5 exact rfl)) | (apply Ok1.assign; exact rfl) | (apply Ok1.indexAddrA; (iterate 5 exact rfl); omega; omega) | (apply Ok1.pick_f; exact rfl; exact rfl) | (apply Ok1.not_t; exact rfl) | (apply Ok1.nilCheck; exact rfl))) | (apply R.isG; (apply R.guard_run; exact rfl; exact rfl)) | apply R.nil | (apply T.is; first | apply T.seq | apply T.region | apply T.skip | apply T.ret | (apply T.cond_t; exact rfl) | (apply T.cond_f; exact rfl)))
        (apply RetOk.t; exact rfl)
        refine ⟨_, ?_, gs, rfl, rfl, hg, rfl⟩
        (focus ((repeat' (first | exact Ext.one _ _ | exact Ext.all _ | apply Keep.cons | apply Keep.last | apply Ext.app)); done))
      · rw [if_neg hf, if_pos rfl]
        refine enterK (tb := tb) Tryz.func28 rfl Tryz.ntmps28 rfl ?_
        simp only [DSL]
        repeat' (first | (apply R.is1; first | (apply R.buildSlice0; (iterate 4 exact rfl); intro b0) | (apply R.isBin; (apply R.pure; exact rfl; first | (apply Ok1.lss_f; exact rfl; exact rfl; omega) | (apply Ok1.gtr_f; exact rfl; exact rfl; omega))) | (apply R.isCall; first | (apply R.callV (vs := [.slice p xs.length cap]); (iterate 3 exact rfl); intro w1 hw1; exact hse w1 hw1.chg) | (focus (apply R.appendRd (xs := g.xs) (v := iV) (sz := 1) (ov := some (b0, 0, [])) (n := 0) (old := []) (m := g.xs.length); (iterate 12 exact rfl); exact ⟨rfl, rfl⟩; (focus ((repeat' (exact Ext.one _ _)); done)); exact rfl; exact iV_len; exact rfl; (intro w1 hw1; exact Lg.rd hgo hw1 fun x hx => List.mem_cons_of_mem _ (List.mem_cons_of_mem _ (mem_LsL hm hx))); (focus (rw [fl_i]; exact iis_one _)); omega; intro ov1 hov1 hsome; rw [Nat.zero_add, List.nil_append, fl_i] at hov1; rw [Nat.zero_add, List.nil_append, fl_i])) | (focus (apply R.appendRd (xs := xs) (v := iV) (sz := 1) (ov := ov1) (n := g.xs.length) (old := iis g.xs) (m := xs.length); (iterate 12 exact rfl); exact hov1; (focus ((repeat' (exact Ext.here _ _)); done)); exact rfl; exact iV_len; exact rfl; (intro w1 hw1; exact hrd w1 hw1.chg); (focus (rw [fl_i]; exact iis_one _)); omega; intro ov2 hov2 hsome2; rw [fl_i, ← iis_app, ← hall] at hov2; rw [fl_i, ← iis_app, ← hall, slV_eq hov2])) | (apply R.callV (vs := [.slice (ovp ov2) (g.xs ++ xs).length (ovc ov2 (g.xs ++ xs).length)]); (iterate 3 exact rfl); intro w1 hw1; exact htw (ovp ov2) (ovc ov2 _) w1 (irdown hov2 hw1 (Ext.mem (by (focus ((repeat' (exact Ext.here _ _)); done)))))) | (apply R.pure; exact rfl; (apply Ok1.lenS; (iterate 3 exact rfl)))) | (apply R.pure; exact rfl; first | (apply Ok1.load; exact rfl; apply Ld.own1; exact rfl; exact rfl; (focus ((repeat' (first | exact At.head | apply At.tail)); done)); exact hcell) | (apply Ok1.move; exact rfl) | (apply Ok1.fieldAddr; (iterate 5 exact rfl)) | (apply Ok1.assign; exact rfl) | (apply Ok1.indexAddrA; (iterate 5 exact rfl); omega; omega) | (apply Ok1.pick_f; exact rfl; exact rfl) | (apply Ok1.not_t; exact rfl) | (apply Ok1.nilCheck; exact rfl))) | (apply R.is0; (apply R.store; (iterate 6 exact rfl); (focus ((repeat' (first | exact Upd.head | apply Upd.right)); done)); have h9 := hset ⟨ov2, g.xs ++ xs⟩; rw [Lg.v_eq (g := ⟨ov2, g.xs ++ xs⟩) hov2] at h9; exact h9)) | (apply R.isG; (apply R.guard_run; exact rfl; exact rfl)) | apply R.nil | (apply T.is; first | apply T.seq | apply T.region | apply T.skip | apply T.ret | (apply T.cond_f; exact rfl)))
        (apply RetOk.t; exact rfl)
        refine ⟨_, ?_, gs.set i ⟨ov2, g.xs ++ xs⟩, rfl, by rw [lgs, List.map_set]; rfl, hg.set i hov2 (by show (g.xs ++ xs).length ≤ 256; omega), rfl⟩
        rw [LsL_at hx, LsL_set _ (by rw [hg.len]; exact hi4)]
        simp only [Lg.L]
        (focus ((repeat' (first | exact Ext.one _ _ | exact Ext.here _ _ | exact Ext.all _ | apply Keep.cons | apply Keep.app | apply Keep.last | apply Ext.app)); done))
    · rw [decide_eq_true hnd] at htw
      rw [if_pos hnd, if_neg (by decide)]
      refine enterK (tb := tb) Tryz.func28 rfl Tryz.ntmps28 rfl ?_
      simp only [DSL]
      repeat' (first | (apply R.is1; first | (apply R.buildSlice0; (iterate 4 exact rfl); intro b0) | (apply R.isBin; (apply R.pure; exact rfl; first | (apply Ok1.lss_f; exact rfl; exact rfl; omega) | (apply Ok1.gtr_f; exact rfl; exact rfl; omega))) | (apply R.isCall; first | (apply R.callV (vs := [.slice p xs.length cap]); (iterate 3 exact rfl); intro w1 hw1; exact hse w1 hw1.chg) | (focus (apply R.appendRd (xs := g.xs) (v := iV) (sz := 1) (ov := some (b0, 0, [])) (n := 0) (old := []) (m := g.xs.length); (iterate 12 exact rfl); exact ⟨rfl, rfl⟩; (focus ((repeat' (exact Ext.one _ _)); done)); exact rfl; exact iV_len; exact rfl; (intro w1 hw1; exact Lg.rd hgo hw1 fun x hx => List.mem_cons_of_mem _ (List.mem_cons_of_mem _ (mem_LsL hm hx))); (focus (rw [fl_i]; exact iis_one _)); omega; intro ov1 hov1 hsome; rw [Nat.zero_add, List.nil_append, fl_i] at hov1; rw [Nat.zero_add, List.nil_append, fl_i])) | (focus (apply R.appendRd (xs := xs) (v := iV) (sz := 1) (ov := ov1) (n := g.xs.length) (old := iis g.xs) (m := xs.length); (iterate 12 exact rfl); exact hov1; (focus ((repeat' (exact Ext.here _ _)); done)); exact rfl; exact iV_len; exact rfl; (intro w1 hw1; exact hrd w1 hw1.chg); (focus (rw [fl_i]; exact iis_one _)); omega; intro ov2 hov2 hsome2; rw [fl_i, ← iis_app, ← hall] at hov2; rw [fl_i, ← iis_app, ← hall, slV_eq hov2])) | (apply R.callV (vs := [.slice (ovp ov2) (g.xs ++ xs).length (ovc ov2 (g.xs ++ xs).length)]); (iterate 3 exact rfl); intro w1 hw1; exact htw (ovp ov2) (ovc ov2 _) w1 (irdown hov2 hw1 (Ext.mem (by (focus ((repeat' (exact Ext.here _ _)); done))))))) | (apply R.pure; exact rfl; first | (apply Ok1.load; exact rfl; apply Ld.own1; exact rfl; exact rfl; (focus ((repeat' (first | exact At.head | apply At.tail)); done)); exact hcell) | (apply Ok1.move; exact rfl) | (apply Ok1.fieldAddr; (iterate 5 exact rfl)) | (apply Ok1.assign; exact rfl) | (apply Ok1.indexAddrA; (iterate 5 exact rfl); omega; omega) | (apply Ok1.pick_f; exact rfl; exact rfl) | (apply Ok1.not_t; exact rfl) | (apply Ok1.nilCheck; exact rfl))) | (apply R.isG; (apply R.guard_run; exact rfl; exact rfl)) | apply R.nil | (apply T.is; first | apply T.seq | apply T.region | apply T.skip | apply T.ret | (apply T.cond_t; exact rfl) | (apply T.cond_f; exact rfl)))
      (apply RetOk.t; exact rfl)
      refine ⟨_, ?_, gs, rfl, rfl, hg, rfl⟩
      (focus ((repeat' (first | exact Ext.one _ _ | exact Ext.all _ | apply Keep.cons | apply Keep.last | apply Ext.app)); done))
end Go.Proofs.YtplhnkmmhndkjaaGreat
set_option linter.unusedSimpArgs false
set_option linter.unusedVariables false
namespace Go.Proofs.YtplhnkmmhndkjaaGreat
open Go.RowKit Go.Shelf
set_option maxRecDepth 100000
end Go.Proofs.YtplhnkmmhndkjaaGreat
set_option linter.unusedSimpArgs false
set_option linter.unusedVariables false
namespace Go.Proofs.YtplhnkmmhndkjaaGreat
open Go.RowKit Go.Shelf
end Go.Proofs.YtplhnkmmhndkjaaGreat
set_option linter.unusedSimpArgs false
set_option linter.unusedVariables false
namespace Go.Proofs.YtplhnkmmhndkjaaGreat
open Go.RowKit Go.Shelf
set_option maxRecDepth 100000
end Go.Proofs.YtplhnkmmhndkjaaGreat
set_option linter.unusedSimpArgs false
set_option linter.unusedVariables false
namespace Go.Proofs.YtplhnkmmhndkjaaGreat
open Go.RowKit Go.Shelf
set_option maxRecDepth 100000
end Go.Proofs.YtplhnkmmhndkjaaGreat
set_option linter.unusedSimpArgs false
set_option linter.unusedVariables false
namespace Go.Proofs.YtplhnkmmhndkjaaGreat
open Go.RowKit Go.Shelf
set_option maxRecDepth 100000
section
variable {X : Cx} {σ : Env} {L : Lst} {ty t : TypeId} {pos : String} {af : Array Edge} {x : Operand} {r re : TRow} {d : Option Nat} {g : Option (Nat × Bool)} {e : TypeId} {p : Option Addr} {n cap j : Nat}
end
/-- The number that bytes make, the highest first. -/
def beN (xs : List Int) : Int := xs.foldl (fun a c => a * 256 + c) 0
/-- What is left to be read, and the first error. -/
structure Rs where
  q : Option Addr
  cap : Nat
  xs : List Int
  e : Int
def Rs.L (s : Rs) (br : Nat) : Lst := [(br, .cells ⟨[.slice s.q s.xs.length s.cap, .int .i64 s.e]⟩ 173 (0, 0))]
def Rs.fail (s : Rs) (e : Int) : Rs := if s.e = 0 then ⟨none, 0, [], e⟩ else s
def Rs.drop (s : Rs) (k : Nat) : Rs := ⟨sufP s.q s.cap k 1, s.cap - k, s.xs.drop k, s.e⟩
structure Rs.ok (s : Rs) (br : Nat) (w : World) : Prop where
  rd : RdSl w s.q u8V s.xs
  cap : s.xs.length ≤ s.cap
  off : s.xs ≠ [] → Off s.q [br]
  byt : Byt s.xs
  big : s.xs.length ≤ 1000000000
/-- The next number of k bytes. -/
def Rs.num (s : Rs) (k : Nat) : Int × Bool × Rs :=
  if s.e ≠ 0 ∨ s.xs.length < k then (0, false, s.fail 4) else if beN (s.xs.take k) ≤ 9223372036854775807 then (beN (s.xs.take k), true, s.drop k) else (0, false, (s.drop k).fail 3)
/-- A field of a number. -/
def Rs.get (s : Rs) (z k : Nat) : List Value := if (s.num k).2.1 = true then fldV z (s.num k).1 else fldV 0 0
/-- A reader whose bytes lie in known blocks. -/
structure RsO (s : Rs) (M : Lst) : Prop where
  rd : ∀ (w0 w : World) (S : List Nat) (L' : Lst), Hp w0 S L' w → (∀ z ∈ M, z ∈ L') → RdSl w s.q u8V s.xs
  adr : s.xs ≠ [] → ∃ b o, s.q = some ⟨b, o, none⟩ ∧ b ∈ blks M
  cap : s.xs.length ≤ s.cap
  byt : Byt s.xs
  big : s.xs.length ≤ 1000000000
theorem RsO.ok {s : Rs} {M : Lst} (h : RsO s M) {br : Nat} {w0 w : World} {S : List Nat} {L Lr : Lst} (hw : Hp w0 S L w) (he : Ext L (s.L br) Lr) (hin : ∀ z ∈ M, z ∈ Lr) : s.ok br w := by
  refine ⟨h.rd _ _ _ _ hw fun z hz => he.perm.subset (List.mem_append_right _ (hin z hz)), h.cap, fun hne a ha => ?_, h.byt, h.big⟩
  obtain ⟨b, o, hp, hb⟩ := h.adr hne
  rw [hp] at ha
  cases ha
  obtain ⟨z, hz, hze⟩ := List.mem_map.1 hb
  obtain ⟨zb, zo⟩ := z
  simp only at hze
  subst hze
  exact RdSl.off hw he (hin _ hz)
theorem RsO.fail {s : Rs} {M : Lst} (h : RsO s M) (e : Int) : RsO (s.fail e) M := by
  unfold Rs.fail
  split
  · exact ⟨fun _ _ _ _ _ _ => .inl rfl, (fun h => absurd rfl h), Nat.zero_le _, (fun y hy => by cases hy), Nat.zero_le _⟩
  · exact h
theorem RsO.drop {s : Rs} {M : Lst} (h : RsO s M) {k : Nat} (hk : k ≤ s.xs.length) : RsO (s.drop k) M := by
  refine ⟨fun w0 w S L' hw hin => (h.rd w0 w S L' hw hin).suf u8V_len hk h.cap, fun hne => ?_, ?_, fun y hy => h.byt y (List.mem_of_mem_drop hy), ?_⟩
  · have h1 : s.xs ≠ [] := by intro h0; apply hne; simp [Rs.drop, h0]
    obtain ⟨b, o, hp, hb⟩ := h.adr h1
    by_cases hc : s.cap = k
    · exfalso; apply hne; simp only [Rs.drop]; exact List.drop_of_length_le (by have := h.cap; omega)
    · exact ⟨b, o + k * 1, by simp [Rs.drop, sufP, hc, hp, Addr.add_none], hb⟩
  · have := h.cap; simp only [Rs.drop, List.length_drop]; omega
  · have := h.big; simp only [Rs.drop, List.length_drop]; omega
theorem RsO.num {s : Rs} {M : Lst} (h : RsO s M) (k : Nat) : RsO (s.num k).2.2 M := by
  unfold Rs.num
  split
  · exact h.fail 4
  · rename_i hn
    have hk : k ≤ s.xs.length := Nat.le_of_not_lt fun h1 => hn (.inr h1)
    split
    · exact h.drop hk
    · exact (h.drop hk).fail 3
end Go.Proofs.YtplhnkmmhndkjaaGreat
set_option linter.unusedSimpArgs false
set_option linter.unusedVariables false
namespace Go.Proofs.YtplhnkmmhndkjaaGreat
open Go.RowKit Go.Shelf
set_option maxRecDepth 100000
theorem suf0 (p : Option Addr) (c : Nat) : sufP p c 0 1 = p := by
  unfold sufP
  split
  · rfl
  · cases p <;> simp [Addr.add]
theorem DlO.own {d : Dl} {L : Lst} (h : DlO d L) {ov : Ov} {xs : List Int} (hov : OvOk 1 ov xs.length (iis xs)) (f : Int) : DlO (d ++ [(f, ⟨ovp ov, ovc ov xs.length, xs⟩)]) (blkL 3 ov (iis xs) ++ L) := by
  have := h.snoc hov f (k := 0) (c := ovc ov xs.length) (m := ovc ov xs.length) (Nat.zero_le _) (ovc_le hov) (by have := ovc_le hov; omega)
  rwa [suf0, List.drop_zero] at this
theorem DlO.mono {d : Dl} {L L' : Lst} (h : DlO d L) (hs : ∀ z ∈ L, z ∈ L') : DlO d L' :=
  ⟨h.cap, fun x hx hne => by obtain ⟨b, o, h1, h2⟩ := h.adr x hx hne; obtain ⟨z, hz, e⟩ := List.mem_map.1 h2; exact ⟨b, o, h1, List.mem_map.2 ⟨z, hs z hz, e⟩⟩, fun w0 w S L' hw hin => h.rd w0 w S L' hw fun z hz => hin z (hs z hz)⟩
def nod : Dl := List.replicate 4 (0, ⟨none, 0, []⟩)
end Go.Proofs.YtplhnkmmhndkjaaGreat
set_option linter.unusedSimpArgs false
set_option linter.unusedVariables false
namespace Go.Proofs.YtplhnkmmhndkjaaGreat
open Go.RowKit Go.Shelf
structure Rs.is (s : Rs) (xs : List Int) (e : Int) : Prop where
  xs : s.xs = xs
  e : s.e = e
/-- Two readers with the same bytes. -/
def Rs.eqv (s t : Rs) : Prop := s.xs = t.xs ∧ s.e = t.e
theorem Rs.eqv.fail {s t : Rs} (h : s.eqv t) (e : Int) : (s.fail e).eqv (t.fail e) := by
  unfold Rs.fail
  rw [h.2]
  split
  · exact ⟨rfl, rfl⟩
  · exact h
theorem Rs.eqv.drop {s t : Rs} (h : s.eqv t) (k : Nat) : (s.drop k).eqv (t.drop k) := ⟨by simp only [Rs.drop]; rw [h.1], h.2⟩
theorem Rs.eqv.num {s t : Rs} (h : s.eqv t) (k : Nat) : (s.num k).1 = (t.num k).1 ∧ (s.num k).2.1 = (t.num k).2.1 ∧ (s.num k).2.2.eqv (t.num k).2.2 := by
  unfold Rs.num
  rw [h.1, h.2]
  split
  · exact ⟨rfl, rfl, h.fail 4⟩
  · split
    · exact ⟨rfl, rfl, h.drop k⟩
    · exact ⟨rfl, rfl, (h.drop k).fail 3⟩
end Go.Proofs.YtplhnkmmhndkjaaGreat
set_option linter.unusedSimpArgs false
set_option linter.unusedVariables false
namespace Go.Proofs.YtplhnkmmhndkjaaGreat
open Go.RowKit Go.Shelf
set_option maxRecDepth 100000
def VR (vs : List Int) : Prop := ∀ x ∈ vs, 0 ≤ x ∧ x ≤ 256
instance (vs : List Int) : Decidable (VR vs) := by unfold VR; infer_instance
theorem dright1_ok (x : Int) : CallP Tryz.prog 107 [.int .i64 x] (.bool (decide (x < 0 ∨ 256 < x))) := by
  refine enterP (tb := tb) Tryz.func107 rfl Tryz.ntmps107 rfl fun w => ?_
  by_cases h0 : x < 0
  · rw [decide_eq_true (.inl h0)]
    repeat' (first | (apply R.is1; first | (apply R.isBin; first | (apply R.pure; exact rfl; first | (apply Ok1.lss_t; exact rfl; exact rfl; omega) | (apply Ok1.lss_f; exact rfl; exact rfl; omega) | (apply Ok1.gtr_t; exact rfl; exact rfl; omega) | (apply Ok1.gtr_f; exact rfl; exact rfl; omega)) | (apply R.lss rfl rfl rfl <;> intro) | (apply R.gtr rfl rfl rfl <;> intro)) | (apply R.pure; exact rfl; first | (apply Ok1.move; exact rfl) | (apply Ok1.assign; exact rfl) | (apply Ok1.pick_t; exact rfl; exact rfl) | (apply Ok1.pick_f; exact rfl; exact rfl) | (apply Ok1.pick_h; exact rfl; assumption; exact rfl) | (apply Ok1.pick_n; exact rfl; assumption; exact rfl))) | (apply R.is0; first | fail) | (apply R.isG; first | (apply R.guard_run; exact rfl; exact rfl) | (apply R.guard_not; (iterate 3 exact rfl)) | (apply R.guard_not0; exact rfl; exact rfl) | (apply R.guard_un; (iterate 3 exact rfl)) | (apply R.guard_un0; exact rfl; exact rfl) | (apply R.guard rfl rfl ?_ (fun h => ⟨rfl, ?_⟩) <;> try intro)) | apply R.nil | (apply T.is; first | apply T.seq | apply T.region | apply T.block | apply T.scope | apply T.label | apply T.skip | apply T.exit | apply T.ret | (apply T.cond_t; exact rfl) | (apply T.cond_f; exact rfl) | (apply T.cond_h; exact rfl; assumption) | (apply T.cond_n; exact rfl; assumption) | (apply T.cond rfl <;> intro)) | apply Rnd.step)
    (apply RetOk.t; exact rfl)
    rfl
  · by_cases h1 : 256 < x
    · rw [decide_eq_true (.inr h1)]
      repeat' (first | (apply R.is1; first | (apply R.isBin; first | (apply R.pure; exact rfl; first | (apply Ok1.lss_t; exact rfl; exact rfl; omega) | (apply Ok1.lss_f; exact rfl; exact rfl; omega) | (apply Ok1.gtr_t; exact rfl; exact rfl; omega) | (apply Ok1.gtr_f; exact rfl; exact rfl; omega)) | (apply R.lss rfl rfl rfl <;> intro) | (apply R.gtr rfl rfl rfl <;> intro)) | (apply R.pure; exact rfl; first | (apply Ok1.move; exact rfl) | (apply Ok1.assign; exact rfl) | (apply Ok1.pick_t; exact rfl; exact rfl) | (apply Ok1.pick_f; exact rfl; exact rfl) | (apply Ok1.pick_h; exact rfl; assumption; exact rfl) | (apply Ok1.pick_n; exact rfl; assumption; exact rfl))) | (apply R.is0; first | fail) | (apply R.isG; first | (apply R.guard_run; exact rfl; exact rfl) | (apply R.guard_not; (iterate 3 exact rfl)) | (apply R.guard_not0; exact rfl; exact rfl) | (apply R.guard_un; (iterate 3 exact rfl)) | (apply R.guard_un0; exact rfl; exact rfl) | (apply R.guard rfl rfl ?_ (fun h => ⟨rfl, ?_⟩) <;> try intro)) | apply R.nil | (apply T.is; first | apply T.seq | apply T.region | apply T.block | apply T.scope | apply T.label | apply T.skip | apply T.exit | apply T.ret | (apply T.cond_t; exact rfl) | (apply T.cond_f; exact rfl) | (apply T.cond_h; exact rfl; assumption) | (apply T.cond_n; exact rfl; assumption) | (apply T.cond rfl <;> intro)) | apply Rnd.step)
      (apply RetOk.t; exact rfl)
      rfl
    · rw [decide_eq_false (by omega)]
      repeat' (first | (apply R.is1; first | (apply R.isBin; first | (apply R.pure; exact rfl; first | (apply Ok1.lss_t; exact rfl; exact rfl; omega) | (apply Ok1.lss_f; exact rfl; exact rfl; omega) | (apply Ok1.gtr_t; exact rfl; exact rfl; omega) | (apply Ok1.gtr_f; exact rfl; exact rfl; omega)) | (apply R.lss rfl rfl rfl <;> intro) | (apply R.gtr rfl rfl rfl <;> intro)) | (apply R.pure; exact rfl; first | (apply Ok1.move; exact rfl) | (apply Ok1.assign; exact rfl) | (apply Ok1.pick_t; exact rfl; exact rfl) | (apply Ok1.pick_f; exact rfl; exact rfl) | (apply Ok1.pick_h; exact rfl; assumption; exact rfl) | (apply Ok1.pick_n; exact rfl; assumption; exact rfl))) | (apply R.is0; first | fail) | (apply R.isG; first | (apply R.guard_run; exact rfl; exact rfl) | (apply R.guard_not; (iterate 3 exact rfl)) | (apply R.guard_not0; exact rfl; exact rfl) | (apply R.guard_un; (iterate 3 exact rfl)) | (apply R.guard_un0; exact rfl; exact rfl) | (apply R.guard rfl rfl ?_ (fun h => ⟨rfl, ?_⟩) <;> try intro)) | apply R.nil | (apply T.is; first | apply T.seq | apply T.region | apply T.block | apply T.scope | apply T.label | apply T.skip | apply T.exit | apply T.ret | (apply T.cond_t; exact rfl) | (apply T.cond_f; exact rfl) | (apply T.cond_h; exact rfl; assumption) | (apply T.cond_n; exact rfl; assumption) | (apply T.cond rfl <;> intro)) | apply Rnd.step)
      (apply RetOk.t; exact rfl)
      rfl
theorem vright_ok (vs : List Int) (hl : vs.length = 4) : CallP Tryz.prog 74 [.agg ⟨iis vs⟩] (.bool (decide (VR vs))) := by
  have hc := fun p w1 h => conF_ok p 4 4 vs hl.symm (by decide) 107 rfl _ dright1_ok w1 h
  have he : (vs.any fun x => decide (x < 0 ∨ 256 < x)) = !decide (VR vs) := by
    by_cases hs : VR vs
    · rw [decide_eq_true hs]
      cases h4 : vs.any fun x => decide (x < 0 ∨ 256 < x) with
      | false => rfl
      | true =>
        obtain ⟨x, hx, hb⟩ := List.any_eq_true.1 h4
        have := hs x hx
        have := of_decide_eq_true hb
        omega
    · rw [decide_eq_false hs]
      cases h4 : vs.any fun x => decide (x < 0 ∨ 256 < x) with
      | true => rfl
      | false =>
        refine absurd (fun x hx => ?_) hs
        have := List.any_eq_false.1 h4 x hx
        simp only [decide_eq_true_eq] at this
        omega
  rw [he] at hc
  generalize decide (VR vs) = q at *
  have hil : (iis vs).length = 4 := by rw [iis_len, hl]
  refine enterP (tb := tb) Tryz.func74 rfl Tryz.ntmps74 rfl fun w => ?_
  cases q
  · repeat' (first | (apply R.is1; first | (apply R.isCall; first | (apply R.callV; (iterate 3 exact rfl); intro w1 hw1; exact hc _ w1 (RdSl.of (junk := []) hw1 (by (focus ((repeat' (first | exact At.head | apply At.tail | apply At.right)); done))) (by rw [fl_i, List.append_nil])))) | (apply R.pure; exact rfl; first | (apply Ok1.sliceArr; (iterate 4 exact rfl)) | (apply Ok1.assign; exact rfl) | (apply Ok1.not_t; exact rfl) | (apply Ok1.not_f; exact rfl) | (apply Ok1.not; exact rfl) | (apply Ok1.neg; exact rfl) | (apply Ok1.slice0; (iterate 7 exact rfl); (refine ⟨?_, ?_, ?_⟩ <;> omega); (first | exact Or.inl rfl | exact Or.inr (fun e => by cases e))) | (apply Ok1.sliceTo; (iterate 6 exact rfl); omega; omega; omega; (first | exact Or.inl rfl | exact Or.inr (fun e => by cases e))) | (apply Ok1.sliceFrom; (iterate 7 exact rfl); omega; omega; omega; omega; omega; (first | exact Or.inl rfl | exact Or.inr (fun e => by cases e)))) | (apply R.box; (iterate 3 exact rfl); intro)) | (apply R.is0; first | fail) | (apply R.isG; first | (apply R.guard_run; exact rfl; exact rfl) | (apply R.guard_not; (iterate 3 exact rfl)) | (apply R.guard_not0; exact rfl; exact rfl) | (apply R.guard_un; (iterate 3 exact rfl)) | (apply R.guard_un0; exact rfl; exact rfl) | (apply R.guard rfl rfl ?_ (fun h => ⟨rfl, ?_⟩) <;> try intro)) | apply R.nil | (apply T.is; first | apply T.seq | apply T.region | apply T.block | apply T.scope | apply T.label | apply T.skip | apply T.exit | apply T.ret | (apply T.cond_t; exact rfl) | (apply T.cond_f; exact rfl) | (apply T.cond_h; exact rfl; assumption) | (apply T.cond_n; exact rfl; assumption) | (apply T.cond rfl <;> intro)) | apply Rnd.step)
    (apply RetOk.t; exact rfl)
    rfl
  · repeat' (first | (apply R.is1; first | (apply R.isCall; first | (apply R.callV; (iterate 3 exact rfl); intro w1 hw1; exact hc _ w1 (RdSl.of (junk := []) hw1 (by (focus ((repeat' (first | exact At.head | apply At.tail | apply At.right)); done))) (by rw [fl_i, List.append_nil])))) | (apply R.pure; exact rfl; first | (apply Ok1.sliceArr; (iterate 4 exact rfl)) | (apply Ok1.assign; exact rfl) | (apply Ok1.not_t; exact rfl) | (apply Ok1.not_f; exact rfl) | (apply Ok1.not; exact rfl) | (apply Ok1.neg; exact rfl) | (apply Ok1.slice0; (iterate 7 exact rfl); (refine ⟨?_, ?_, ?_⟩ <;> omega); (first | exact Or.inl rfl | exact Or.inr (fun e => by cases e))) | (apply Ok1.sliceTo; (iterate 6 exact rfl); omega; omega; omega; (first | exact Or.inl rfl | exact Or.inr (fun e => by cases e))) | (apply Ok1.sliceFrom; (iterate 7 exact rfl); omega; omega; omega; omega; omega; (first | exact Or.inl rfl | exact Or.inr (fun e => by cases e)))) | (apply R.box; (iterate 3 exact rfl); intro)) | (apply R.is0; first | fail) | (apply R.isG; first | (apply R.guard_run; exact rfl; exact rfl) | (apply R.guard_not; (iterate 3 exact rfl)) | (apply R.guard_not0; exact rfl; exact rfl) | (apply R.guard_un; (iterate 3 exact rfl)) | (apply R.guard_un0; exact rfl; exact rfl) | (apply R.guard rfl rfl ?_ (fun h => ⟨rfl, ?_⟩) <;> try intro)) | apply R.nil | (apply T.is; first | apply T.seq | apply T.region | apply T.block | apply T.scope | apply T.label | apply T.skip | apply T.exit | apply T.ret | (apply T.cond_t; exact rfl) | (apply T.cond_f; exact rfl) | (apply T.cond_h; exact rfl; assumption) | (apply T.cond_n; exact rfl; assumption) | (apply T.cond rfl <;> intro)) | apply Rnd.step)
    (apply RetOk.t; exact rfl)
    rfl
def cntL (dd : List (Int × List Int)) : Nat := (dd.map fun x => x.2.length).sum
end Go.Proofs.YtplhnkmmhndkjaaGreat
set_option linter.unusedSimpArgs false
set_option linter.unusedVariables false
namespace Go.Proofs.YtplhnkmmhndkjaaGreat
open Go.RowKit Go.Shelf
set_option maxRecDepth 100000
def ovr (room : Int) (d : Dl) : Int := (max (16 + 2 * (cntL (pur d) : Int) - room) 0 + 1) / 2
def cutN (room : Int) (d : Dl) (x : Pi) : Nat := (max ((x.xs.length : Int) - ovr room d) 0).toNat
def cutP (n : Nat) (x : Pi) : Pi := ⟨x.p, n, x.xs.take n⟩
def cutAt (room : Int) (k : Nat) (d : Dl) : Dl := match d[k]? with
  | some x => d.set k (x.1, cutP (cutN room d x.2) x.2)
  | none => d
theorem cutN_le (room : Int) (d : Dl) (x : Pi) : cutN room d x ≤ x.xs.length := by
  unfold cutN ovr
  omega
theorem cutAt_mem {room : Int} {k : Nat} {d : Dl} {y : Int × Pi} (h : y ∈ cutAt room k d) : y ∈ d ∨ ∃ x n, x ∈ d ∧ n ≤ x.2.xs.length ∧ y = (x.1, cutP n x.2) := by
  unfold cutAt at h
  split at h
  · rename_i x hx
    rcases List.mem_or_eq_of_mem_set h with h1 | h1
    · exact .inl h1
    · exact .inr ⟨x, _, List.mem_of_getElem? hx, cutN_le _ _ _, h1⟩
  · exact .inl h
theorem DlO.cut {d : Dl} {L : Lst} (h : DlO d L) (room : Int) (k : Nat) : DlO (cutAt room k d) L := by
  refine ⟨fun y hy => ?_, fun y hy hne => ?_, fun w0 w S L' hw hin y hy => ?_⟩
  · rcases cutAt_mem hy with h1 | ⟨x, n, hx, hn, rfl⟩
    · exact h.cap y h1
    · simp only [cutP, List.length_take]; omega
  · rcases cutAt_mem hy with h1 | ⟨x, n, hx, hn, rfl⟩
    · exact h.adr y h1 hne
    · refine h.adr x hx ?_
      rintro h0
      apply hne
      simp [cutP, h0]
  · rcases cutAt_mem hy with h1 | ⟨x, n, hx, hn, rfl⟩
    · exact h.rd w0 w S L' hw hin y h1
    · exact (h.rd w0 w S L' hw hin x hx).pre iV_len n
end Go.Proofs.YtplhnkmmhndkjaaGreat
set_option linter.unusedSimpArgs false
set_option linter.unusedVariables false
namespace Go.Proofs.YtplhnkmmhndkjaaGreat
open Go.RowKit Go.Shelf
def Grw (ls ls' : List (List Int)) : Prop := ls'.length = ls.length ∧ ∀ (i : Nat) (xs : List Int), ls[i]? = some xs → ∃ zs, ls'[i]? = some (xs ++ zs)
theorem Grw.refl (ls : List (List Int)) : Grw ls ls := ⟨rfl, fun i xs h => ⟨[], by rw [List.append_nil]; exact h⟩⟩
theorem app_je {l : List Jx} (h : appE l = 0) : ∀ x ∈ l, JE x = 0 := by
  intro x hx
  unfold appE at h
  split at h
  · cases h
  · split at h
    · cases h
    · rename_i h3
      split at h
      · cases h
      · rename_i h6
        rcases je_cases x with h0 | h0 | h0
        · exact h0
        · exact absurd ⟨x, hx, h0⟩ h3
        · exact absurd ⟨x, hx, h0⟩ h6
theorem Grw.app (ls : List (List Int)) (dd : List (Int × List Int)) (hl : dd.length = ls.length) : Grw ls (appL ls dd) := by
  unfold appL
  by_cases h : appX ls dd = 0
  · rw [if_pos h]
    have hE : appE (ls.zip dd) = 0 := by
      unfold appX at h
      split at h
      · exact h
      · cases h
    refine ⟨by simp [hl], fun i xs hi => ?_⟩
    have hlt := (List.getElem?_eq_some_iff.1 hi).1
    obtain ⟨y, hy⟩ : ∃ y, dd[i]? = some y := ⟨_, List.getElem?_eq_getElem (by omega)⟩
    have hz : (ls.zip dd)[i]? = some (xs, y) := by rw [List.getElem?_zip_eq_some]; exact ⟨hi, hy⟩
    have hj := app_je hE _ (List.mem_of_getElem? hz)
    refine ⟨y.2.drop (both xs y.2 y.1.toNat), ?_⟩
    rw [List.getElem?_map, hz]
    unfold JE at hj
    simp only [Option.map_some, JL, jL, hj, if_true]
    rfl
  · rw [if_neg h]; exact Grw.refl ls
theorem Grw.mem {gs gs' : List Lg} (h : Grw (lgs gs) (lgs gs')) {y : Int} (hy : y ∈ lcat gs) : y ∈ lcat gs' := by
  obtain ⟨g, hg, hyg⟩ := List.mem_flatMap.1 hy
  obtain ⟨i, hi, rfl⟩ := List.getElem_of_mem hg
  obtain ⟨zs, hz⟩ := h.2 i gs[i].xs (by rw [lgs, List.getElem?_map, List.getElem?_eq_getElem hi]; rfl)
  rw [lgs, List.getElem?_map] at hz
  cases hg' : gs'[i]? with
  | none => rw [hg'] at hz; cases hz
  | some g' =>
    rw [hg'] at hz
    simp only [Option.map_some, Option.some.injEq] at hz
    exact List.mem_flatMap.2 ⟨g', List.mem_of_getElem? hg', by rw [hz]; exact List.mem_append_left _ hyg⟩
theorem Grw.le {gs gs' : List Lg} (h : Grw (lgs gs) (lgs gs')) : ∀ x ∈ (gs'.map fun g => (g.xs.length : Int)).zip (gs.map fun g => (g.xs.length : Int)), x.2 ≤ x.1 := by
  intro x hx
  obtain ⟨i, hi, rfl⟩ := List.getElem_of_mem hx
  simp only [List.length_zip, List.length_map] at hi
  simp only [List.getElem_zip, List.getElem_map]
  obtain ⟨zs, hz⟩ := h.2 i gs[i].xs (by rw [lgs, List.getElem?_map, List.getElem?_eq_getElem (by omega)]; rfl)
  rw [lgs, List.getElem?_map, List.getElem?_eq_getElem (by omega)] at hz
  simp only [Option.map_some, Option.some.injEq] at hz
  rw [hz, List.length_append]
  omega
end Go.Proofs.YtplhnkmmhndkjaaGreat
set_option linter.unusedSimpArgs false
set_option linter.unusedVariables false
namespace Go.Proofs.YtplhnkmmhndkjaaGreat
open Go.RowKit Go.Shelf
set_option maxRecDepth 100000
structure RAct where
  kind : Int
  n : Int
  l : Pi
  f0 : Int
  f1 : Int
  f2 : Int
  f3 : Int
  l0 : Pi
  l1 : Pi
  l2 : Pi
  l3 : Pi
deriving Inhabited
def Pi.w (z : Pi) : Value := .slice z.p z.xs.length z.cap
def RAct.v (a : RAct) : List Value := [.int .i64 a.kind, .int .i64 a.n, a.l.w, .int .i64 a.f0, .int .i64 a.f1, .int .i64 a.f2, .int .i64 a.f3, a.l0.w, a.l1.w, a.l2.w, a.l3.w]
theorem RAct.v_len (a : RAct) : a.v.length = 11 := rfl
def RAct.d (a : RAct) : Dl := [(a.f0, a.l0), (a.f1, a.l1), (a.f2, a.l2), (a.f3, a.l3)]
structure RAct.ok (w : World) (a : RAct) : Prop where
  rd : RdSl w a.l.p iV a.l.xs
  cap : a.l.xs.length ≤ a.l.cap
  drd : ∀ x ∈ a.d, RdSl w x.2.p iV x.2.xs
  dcap : ∀ x ∈ a.d, x.2.xs.length ≤ x.2.cap
theorem DlO.off {d : Dl} {M : Lst} (h : DlO d M) {w0 w : World} {S : List Nat} {L Li Lr : Lst} (hw : Hp w0 S L w) (he : Ext L Li Lr) (hin : ∀ z ∈ M, z ∈ Lr) : ∀ x ∈ d, x.2.xs ≠ [] → Off x.2.p (blks Li) := by
  intro x hx hne a ha
  obtain ⟨b, o, hp, hb⟩ := h.adr x hx hne
  rw [hp] at ha
  cases ha
  obtain ⟨z, hz, hze⟩ := List.mem_map.1 hb
  obtain ⟨zb, zo⟩ := z
  simp only at hze
  subst hze
  exact RdSl.off hw he (hin _ hz)
end Go.Proofs.YtplhnkmmhndkjaaGreat
set_option linter.unusedSimpArgs false
set_option linter.unusedVariables false
namespace Go.Proofs.YtplhnkmmhndkjaaGreat
open Go.RowKit Go.Shelf
set_option maxRecDepth 100000
theorem sub_tail : ∀ {xs ys : List Value} {n m : Nat}, xs.length = n → ys.length = m → subE (xs ++ ys) n m = some ys
  | [], ys, n, m, h, h2 => by simp at h; subst h; exact subE_all h2
  | x :: xs, ys, n, m, h, h2 => by
    cases n with
    | zero => simp at h
    | succ n =>
      have := sub_tail (xs := xs) (ys := ys) (n := n) (m := m) (by simpa using h) h2
      cases m with
      | zero =>
        have : ys = [] := List.eq_nil_of_length_eq_zero h2
        subst this
        rfl
      | succ k => exact this
section
variable {X : Cx} {σ : Env} {L : Lst} {ty t : TypeId} {pos : String} {af : Array Edge} {x y : Operand} {r : TRow} {xs ys : List Value} {ks : List TK}
end
end Go.Proofs.YtplhnkmmhndkjaaGreat
set_option linter.unusedSimpArgs false
set_option linter.unusedVariables false
namespace Go.Proofs.YtplhnkmmhndkjaaGreat
open Go.RowKit Go.Shelf
set_option maxRecDepth 100000
section
variable {X : Cx} {σ : Env} {L : Lst} {d : Option Nat} {ty ty2 t : TypeId} {pos : String} {af : Array Edge} {g : Option (Nat × Bool)} {x y : Operand} {k : IntKind} {i j : Int}
end
def cR : Code → Code | .seq _ b => b | c => c
end Go.Proofs.YtplhnkmmhndkjaaGreat
set_option linter.unusedSimpArgs false
set_option linter.unusedVariables false
namespace Go.Proofs.YtplhnkmmhndkjaaGreat
open Go.RowKit Go.Shelf
set_option maxRecDepth 100000
def val : List Nat → Nat
  | [] => 0
  | d :: r => d + 65536 * val r
end Go.Proofs.YtplhnkmmhndkjaaGreat
set_option linter.unusedSimpArgs false
set_option linter.unusedVariables false
namespace Go.Proofs.YtplhnkmmhndkjaaGreat
open Go.RowKit Go.Shelf
set_option maxRecDepth 100000
end Go.Proofs.YtplhnkmmhndkjaaGreat
set_option linter.unusedSimpArgs false
set_option linter.unusedVariables false
namespace Go.Proofs.YtplhnkmmhndkjaaGreat
open Go.RowKit Go.Shelf
set_option maxRecDepth 100000
end Go.Proofs.YtplhnkmmhndkjaaGreat
set_option linter.unusedSimpArgs false
set_option linter.unusedVariables false
namespace Go.Proofs.YtplhnkmmhndkjaaGreat
open Go.RowKit Go.Shelf
set_option maxRecDepth 100000
def pl (p : Nat) : Nat → Nat → Bool → Bool
  | 0, _, b => b
  | f + 1, q, b => if q * q ≤ p then pl p f (q + 1) (b && !decide (p % q = 0)) else b
def zs (n : Nat) : List Value := List.replicate n (.int .u32 0)
end Go.Proofs.YtplhnkmmhndkjaaGreat
set_option linter.unusedSimpArgs false
set_option linter.unusedVariables false
namespace Go.Proofs.YtplhnkmmhndkjaaGreat
open Go.RowKit Go.Shelf
set_option maxRecDepth 100000
/-- A digest's bytes. -/
def encG (vs p8 : List Int) : List Int := numsI 1 vs ++ p8
theorem encG_len {vs p8 : List Int} (hv : vs.length = 4) (hp : p8.length = 8) : (encG vs p8).length = 16 := by rw [encG, List.length_append, nums1_len, hv, hp]
theorem vr_fits {vs : List Int} (h : VR vs) : ∀ x ∈ vs, Fits 1 x := fun x hx => by have := h x hx; exact ⟨this.1, .inr (.inl ⟨rfl, by omega⟩)⟩
theorem by_fits {ps : List Int} (h : Byt ps) : ∀ x ∈ ps, Fits 0 x := fun x hx => by have := h x hx; exact ⟨by omega, .inl ⟨rfl, by omega⟩⟩
theorem num0 {x : Int} (h0 : 0 ≤ x) (h1 : x ≤ 255) : numI 0 x = [x] := by show [x % 256] = [x]; congr 1; omega
theorem dbad_ok (vs p8 : List Int) (hv : vs.length = 4) (hp : p8.length = 8) (hV : ¬ VR vs) : CallP Tryz.prog 41 [.agg ⟨dgV vs p8⟩] (.tuple #[.slice none 0 0, .int .i64 10]) := by
  have hr := vright_ok vs hv
  rw [decide_eq_false hV] at hr
  have hs4 : subE (dgV vs p8) 0 4 = some (iis vs) := subE_app _ _ (by rw [iis_len, hv])
  generalize dgV vs p8 = D at *
  refine enterP (tb := tb) Tryz.func41 rfl Tryz.ntmps41 rfl fun w => ?_
  repeat' (first | (apply R.is1; first | (apply R.isBin; first | (apply R.pure; exact rfl; first | (apply Ok1.add64; exact rfl; exact rfl; omega; omega) | (apply Ok1.lss_t; exact rfl; exact rfl; omega) | (apply Ok1.lss_f; exact rfl; exact rfl; omega)) | (apply R.lss rfl rfl rfl <;> intro)) | (apply R.isCall; first | apply R.callP rfl rfl rfl hr) | (apply R.pure; exact rfl; first | (apply Ok1.load; exact rfl; (apply Ld.ownk; exact rfl; exact rfl; (focus ((repeat' (first | exact At.head | apply At.tail | apply At.right)); done)); exact hs4)) | (apply Ok1.move; exact rfl) | (apply Ok1.fieldAddr; (iterate 5 exact rfl)) | (apply Ok1.load; exact rfl; first | (apply Ld.own1; exact rfl; exact rfl; (focus ((repeat' (first | exact At.head | apply At.tail | apply At.right)); done)); exact rfl) | (apply Ld.ownk; exact rfl; exact rfl; (focus ((repeat' (first | exact At.head | apply At.tail | apply At.right)); done)); exact rfl) | (apply Ld.old1; exact rfl; exact rfl; assumption; (first | exact List.not_mem_nil | assumption)) | (apply Ld.blk1; exact rfl; exact rfl; assumption; (first | exact List.not_mem_nil | assumption); exact rfl) | (apply Ld.blkk; exact rfl; exact rfl; assumption; (first | exact List.not_mem_nil | assumption); exact rfl)) | (apply Ok1.assign; exact rfl) | (apply Ok1.extract; exact rfl; exact rfl) | (apply Ok1.not_t; exact rfl) | (apply Ok1.not_f; exact rfl) | (apply Ok1.not; exact rfl) | (apply Ok1.index1; (iterate 6 exact rfl); omega; omega; exact rfl) | (apply Ok1.indexk; (iterate 6 exact rfl); omega; omega; exact rfl) | (apply Ok1.convI64; (iterate 5 exact rfl); omega; omega) | (apply Ok1.convU64; (iterate 5 exact rfl); omega; omega) | (apply Ok1.convU32; (iterate 5 exact rfl); omega; omega) | (apply Ok1.convU8; (iterate 5 exact rfl); omega; omega) | (apply Ok1.conv; (iterate 5 exact rfl)) | (apply Ok1.neg; exact rfl) | (apply Ok1.slice0; (iterate 7 exact rfl); (refine ⟨?_, ?_, ?_⟩ <;> omega); (first | exact Or.inl rfl | exact Or.inr (fun e => by cases e))) | (apply Ok1.sliceTo; (iterate 6 exact rfl); omega; omega; omega; (first | exact Or.inl rfl | exact Or.inr (fun e => by cases e))) | (apply Ok1.sliceFrom; (iterate 7 exact rfl); omega; omega; omega; omega; omega; (first | exact Or.inl rfl | exact Or.inr (fun e => by cases e)))) | (apply R.box; (iterate 3 exact rfl); intro) | (apply R.alloc; (iterate 3 exact rfl); intro) | (apply R.buildSlice; (iterate 12 exact rfl); intro)) | (apply R.is0; first | fail) | (apply R.isG; first | (apply R.guard_run; exact rfl; exact rfl) | (apply R.guard_not; (iterate 3 exact rfl)) | (apply R.guard_not0; exact rfl; exact rfl) | (apply R.guard_un; (iterate 3 exact rfl)) | (apply R.guard_un0; exact rfl; exact rfl) | (apply R.guard rfl rfl ?_ (fun h => ⟨rfl, ?_⟩) <;> try intro)) | apply R.nil | (apply T.is; first | apply T.seq | apply T.region | apply T.block | apply T.scope | apply T.label | apply T.skip | apply T.exit | apply T.ret | (apply T.cond_t; exact rfl) | (apply T.cond_f; exact rfl) | (apply T.cond_h; exact rfl; assumption) | (apply T.cond_n; exact rfl; assumption) | (apply T.cond rfl <;> intro)) | apply Rnd.step)
  (apply RetOk.tt; exact rfl; exact rfl)
  rfl
theorem dbytes9_ok (vs p8 : List Int) (hv : vs.length = 4) (hp : p8.length = 8) (hV : VR vs) (hb : Byt p8) (w : World) :
    CallM Tryz.prog 41 [.agg ⟨dgV vs p8⟩] [] w fun v L => ∃ ov, OvOk 1 ov (encG vs p8).length (u8s (encG vs p8)) ∧ v = .tuple #[slV ov (encG vs p8).length, .int .i64 0] ∧ L = blkL 5 ov (u8s (encG vs p8)) := by
  have hr := vright_ok vs hv
  rw [decide_eq_true hV] at hr
  have hs4 : subE (dgV vs p8) 0 4 = some (iis vs) := subE_app _ _ (by rw [iis_len, hv])
  have hs8 : subE (dgV vs p8) 4 8 = some (u8s p8) := sub_tail (by rw [iis_len, hv]) (by rw [u8s_len, hp])
  have hn1 := fun bw p w1 h1 h2 => numbers_ok bw none [] (OvOk.start 1) 1 p 4 4 vs hv.symm (vr_fits hV) (by rw [hv]; decide) w1 h1 h2
  have hdr : dgV vs p8 = fl iV vs ++ u8s p8 := by rw [fl_i]; rfl
  refine enterK (tb := tb) Tryz.func41 rfl Tryz.ntmps41 rfl ?_
  repeat' (first | (apply R.is1; first | (apply R.isBin; first | (apply R.pure; exact rfl; first | (apply Ok1.add64; exact rfl; exact rfl; omega; omega) | (apply Ok1.lss_t; exact rfl; exact rfl; omega) | (apply Ok1.lss_f; exact rfl; exact rfl; omega)) | (apply R.lss rfl rfl rfl <;> intro)) | (apply R.isCall; first | apply R.callP rfl rfl rfl hr | (apply R.callE (Li := WL _ none []) (vs := [.pointer (some ⟨_, 0, none⟩), .int .i64 1, .slice (some ⟨_, 0, none⟩) 4 4]); (iterate 3 exact rfl); (focus ((repeat' (first | exact Ext.none _ | exact Ext.one _ _ | exact Ext.here _ _ | exact Ext.all _ | apply Ext.cons | apply Ext.app | apply Ext.two)); done)); intro w1 hw1; exact hn1 _ _ w1 (RdSl.of hw1 (by (focus ((repeat' (first | exact At.head | apply At.tail | apply At.right)); done))) hdr) (fun _ => Off.of hw1 (by (focus ((repeat' (first | exact Ext.none _ | exact Ext.one _ _ | exact Ext.here _ _ | exact Ext.all _ | apply Ext.cons | apply Ext.app | apply Ext.two)); done))) (by (focus ((repeat' (first | exact At.head | apply At.tail | apply At.right)); done)))); rintro v Lo ⟨ov1, rfl, hov1, rfl⟩)) | (apply R.pure; exact rfl; first | (apply Ok1.load; exact rfl; first | (apply Ld.ownk; exact rfl; exact rfl; (focus ((repeat' (first | exact At.head | apply At.tail | apply At.right)); done)); exact hs4) | (apply Ld.ownk; exact rfl; exact rfl; (focus ((repeat' (first | exact At.head | apply At.tail | apply At.right)); done)); exact hs8)) | (apply Ok1.sliceArr; (iterate 4 exact rfl)) | (apply Ok1.move; exact rfl) | (apply Ok1.fieldAddr; (iterate 5 exact rfl)) | (apply Ok1.load; exact rfl; first | (apply Ld.own1; exact rfl; exact rfl; (focus ((repeat' (first | exact At.head | apply At.tail | apply At.right)); done)); exact rfl) | (apply Ld.ownk; exact rfl; exact rfl; (focus ((repeat' (first | exact At.head | apply At.tail | apply At.right)); done)); exact rfl) | (apply Ld.old1; exact rfl; exact rfl; assumption; (first | exact List.not_mem_nil | assumption)) | (apply Ld.blk1; exact rfl; exact rfl; assumption; (first | exact List.not_mem_nil | assumption); exact rfl) | (apply Ld.blkk; exact rfl; exact rfl; assumption; (first | exact List.not_mem_nil | assumption); exact rfl)) | (apply Ok1.assign; exact rfl) | (apply Ok1.extract; exact rfl; exact rfl) | (apply Ok1.not_t; exact rfl) | (apply Ok1.not_f; exact rfl) | (apply Ok1.not; exact rfl) | (apply Ok1.index1; (iterate 6 exact rfl); omega; omega; exact rfl) | (apply Ok1.indexk; (iterate 6 exact rfl); omega; omega; exact rfl) | (apply Ok1.convI64; (iterate 5 exact rfl); omega; omega) | (apply Ok1.convU64; (iterate 5 exact rfl); omega; omega) | (apply Ok1.convU32; (iterate 5 exact rfl); omega; omega) | (apply Ok1.convU8; (iterate 5 exact rfl); omega; omega) | (apply Ok1.conv; (iterate 5 exact rfl)) | (apply Ok1.neg; exact rfl) | (apply Ok1.slice0; (iterate 7 exact rfl); (refine ⟨?_, ?_, ?_⟩ <;> omega); (first | exact Or.inl rfl | exact Or.inr (fun e => by cases e))) | (apply Ok1.sliceTo; (iterate 6 exact rfl); omega; omega; omega; (first | exact Or.inl rfl | exact Or.inr (fun e => by cases e))) | (apply Ok1.sliceFrom; (iterate 7 exact rfl); omega; omega; omega; omega; omega; (first | exact Or.inl rfl | exact Or.inr (fun e => by cases e)))) | (apply R.box; (iterate 3 exact rfl); intro) | (apply R.alloc; (iterate 3 exact rfl); intro) | (apply R.buildSlice; (iterate 12 exact rfl); intro)) | (apply R.is0; first | fail) | (apply R.isG; first | (apply R.guard_run; exact rfl; exact rfl) | (apply R.guard_not; (iterate 3 exact rfl)) | (apply R.guard_not0; exact rfl; exact rfl) | (apply R.guard_un; (iterate 3 exact rfl)) | (apply R.guard_un0; exact rfl; exact rfl) | (apply R.guard rfl rfl ?_ (fun h => ⟨rfl, ?_⟩) <;> try intro)) | apply R.nil | (apply T.is; first | apply T.seq | apply T.region | apply T.block | apply T.scope | apply T.label | apply T.skip | apply T.exit | apply T.ret | (apply T.cond_t; exact rfl) | (apply T.cond_f; exact rfl) | (apply T.cond_h; exact rfl; assumption) | (apply T.cond_n; exact rfl; assumption) | (apply T.cond rfl <;> intro)) | apply Rnd.step)
  rename_i b1 bw
  rw [List.nil_append] at hov1
  rw [List.nil_append]
  apply T.loopK (α := Nat × Ov) (I := fun y => y.1 ≤ 8 ∧ OvOk 1 y.2 (numsI 1 vs ++ p8.take y.1).length (u8s (numsI 1 vs ++ p8.take y.1))) (σi := fun y => [(4, .pointer (some ⟨bw, 0, none⟩)), (15, .agg ⟨u8s p8⟩), (16, .int .i64 y.1)]) (Li := fun y => WL bw y.2 (numsI 1 vs ++ p8.take y.1)) (μ := fun y => 8 - y.1) (i0 := (0, ov1))
  · refine ⟨Nat.zero_le _, ?_⟩
    simp only [List.take_zero, List.append_nil]
    exact hov1
  · exact ⟨rfl, rfl, rfl, trivial⟩
  · simp only [List.take_zero, List.append_nil]
    (focus ((repeat' (first | exact Keep.nil _ | exact Ext.one _ _ | exact Ext.here _ _ | exact Ext.all _ | apply Keep.cons | apply Keep.app | apply Keep.last | apply Ext.cons | apply Ext.app)); done))
  · rintro ⟨i, ov⟩ ⟨hi, hov⟩
    simp only at hi hov ⊢
    rcases Nat.lt_or_ge i 8 with hlt | hge
    · obtain ⟨x, hx⟩ : ∃ x, p8[i]? = some x := ⟨_, List.getElem?_eq_getElem (by omega)⟩
      have hxf := by_fits hb x (List.mem_of_getElem? hx)
      have hxb := hb x (List.mem_of_getElem? hx)
      have hpc : (u8s p8)[i * 1]? = some (.int .u8 x) := by rw [Nat.mul_one, u8s, List.getElem?_map, hx]; rfl
      have hnl := nums1_len vs
      have htl : (p8.take i).length = i := by rw [List.length_take]; omega
      have hn := fun bl fz e w1 => number1_ok bw ov (numsI 1 vs ++ p8.take i) hov 0 x hxf (by rw [List.length_append]; omega) bl fz e w1
      have htk : numsI 1 vs ++ p8.take (i + 1) = numsI 1 vs ++ p8.take i ++ numI 0 x := by rw [List.take_add_one, hx, num0 (by omega) (by omega), List.append_assoc]; rfl
      unfold WRes at hn
      rw [← htk] at hn
      repeat' (first | (apply R.is1; first | (apply R.isBin; first | (apply R.pure; exact rfl; first | (apply Ok1.add64; exact rfl; exact rfl; omega; omega) | (apply Ok1.lss_t; exact rfl; exact rfl; omega) | (apply Ok1.lss_f; exact rfl; exact rfl; omega)) | (apply R.lss rfl rfl rfl <;> intro)) | (apply R.isCall; first | (apply R.callE (Li := WL bw ov (numsI 1 vs ++ p8.take i)) (vs := [.pointer (some ⟨bw, 0, none⟩), .int .i64 0, .slice (some ⟨_, 0, none⟩) 1 1]); (iterate 3 exact rfl); (focus ((repeat' (first | exact Ext.none _ | exact Ext.one _ _ | exact Ext.here _ _ | exact Ext.all _ | apply Ext.cons | apply Ext.app | apply Ext.two)); done)); intro w1 hw1; exact hn _ _ _ w1 (hw1.get _ _ (At.mem (by (focus ((repeat' (first | exact At.head | apply At.tail | apply At.right)); done))))) (RdSl.off hw1 (by (focus ((repeat' (first | exact Ext.none _ | exact Ext.one _ _ | exact Ext.here _ _ | exact Ext.all _ | apply Ext.cons | apply Ext.app | apply Ext.two)); done))) (At.mem (by (focus ((repeat' (first | exact At.head | apply At.tail | apply At.right)); done))))); rintro v Lo ⟨ov2, rfl, hov2, rfl⟩)) | (apply R.pure; exact rfl; first | (apply Ok1.index1; (iterate 6 exact rfl); omega; omega; exact hpc) | (apply Ok1.move; exact rfl) | (apply Ok1.fieldAddr; (iterate 5 exact rfl)) | (apply Ok1.load; exact rfl; first | (apply Ld.own1; exact rfl; exact rfl; (focus ((repeat' (first | exact At.head | apply At.tail | apply At.right)); done)); exact rfl) | (apply Ld.ownk; exact rfl; exact rfl; (focus ((repeat' (first | exact At.head | apply At.tail | apply At.right)); done)); exact rfl) | (apply Ld.old1; exact rfl; exact rfl; assumption; (first | exact List.not_mem_nil | assumption)) | (apply Ld.blk1; exact rfl; exact rfl; assumption; (first | exact List.not_mem_nil | assumption); exact rfl) | (apply Ld.blkk; exact rfl; exact rfl; assumption; (first | exact List.not_mem_nil | assumption); exact rfl)) | (apply Ok1.assign; exact rfl) | (apply Ok1.extract; exact rfl; exact rfl) | (apply Ok1.not_t; exact rfl) | (apply Ok1.not_f; exact rfl) | (apply Ok1.not; exact rfl) | (apply Ok1.index1; (iterate 6 exact rfl); omega; omega; exact rfl) | (apply Ok1.indexk; (iterate 6 exact rfl); omega; omega; exact rfl) | (apply Ok1.convI64; (iterate 5 exact rfl); omega; omega) | (apply Ok1.convU64; (iterate 5 exact rfl); omega; omega) | (apply Ok1.convU32; (iterate 5 exact rfl); omega; omega) | (apply Ok1.convU8; (iterate 5 exact rfl); omega; omega) | (apply Ok1.conv; (iterate 5 exact rfl)) | (apply Ok1.neg; exact rfl) | (apply Ok1.slice0; (iterate 7 exact rfl); (refine ⟨?_, ?_, ?_⟩ <;> omega); (first | exact Or.inl rfl | exact Or.inr (fun e => by cases e))) | (apply Ok1.sliceTo; (iterate 6 exact rfl); omega; omega; omega; (first | exact Or.inl rfl | exact Or.inr (fun e => by cases e))) | (apply Ok1.sliceFrom; (iterate 7 exact rfl); omega; omega; omega; omega; omega; (first | exact Or.inl rfl | exact Or.inr (fun e => by cases e)))) | (apply R.box; (iterate 3 exact rfl); intro) | (apply R.alloc; (iterate 3 exact rfl); intro) | (apply R.buildSlice; (iterate 12 exact rfl); intro)) | (apply R.is0; first | fail) | (apply R.isG; first | (apply R.guard_run; exact rfl; exact rfl) | (apply R.guard_not; (iterate 3 exact rfl)) | (apply R.guard_not0; exact rfl; exact rfl) | (apply R.guard_un; (iterate 3 exact rfl)) | (apply R.guard_un0; exact rfl; exact rfl) | (apply R.guard rfl rfl ?_ (fun h => ⟨rfl, ?_⟩) <;> try intro)) | apply R.nil | (apply T.is; first | apply T.seq | apply T.region | apply T.block | apply T.scope | apply T.label | apply T.skip | apply T.exit | apply T.ret | (apply T.cond_t; exact rfl) | (apply T.cond_f; exact rfl) | (apply T.cond_h; exact rfl; assumption) | (apply T.cond_n; exact rfl; assumption) | (apply T.cond rfl <;> intro)) | apply Rnd.step)
      exact ⟨(i + 1, ov2), ⟨by simp only; omega, hov2⟩, by simp only; omega, ⟨rfl, rfl, rfl, trivial⟩, by (focus ((repeat' (first | exact Keep.nil _ | exact Ext.one _ _ | exact Ext.here _ _ | exact Ext.all _ | apply Keep.cons | apply Keep.app | apply Keep.last | apply Ext.cons | apply Ext.app)); done))⟩
    · have hi8 : i = 8 := by omega
      subst hi8
      rw [show p8.take 8 = p8 from List.take_of_length_le (by omega)] at hov ⊢
      have hle := encG_len hv hp
      unfold encG at hle ⊢
      have hwo := fun w1 h1 h2 => wout_ok bw ov (numsI 1 vs ++ p8) hov (by omega) w1 h1 h2
      generalize numsI 1 vs ++ p8 = B at *
      simp only [WL]
      repeat' (first | (apply R.is1; first | (apply R.isBin; first | (apply R.pure; exact rfl; first | (apply Ok1.add64; exact rfl; exact rfl; omega; omega) | (apply Ok1.lss_t; exact rfl; exact rfl; omega) | (apply Ok1.lss_f; exact rfl; exact rfl; omega)) | (apply R.lss rfl rfl rfl <;> intro)) | (apply R.isCall; first | (apply R.callE (vs := [.pointer (some ⟨bw, 0, none⟩)]); (iterate 3 exact rfl); exact Ext.none _; intro w1 hw1; exact hwo w1 (hw1.get _ _ (At.mem (by (focus ((repeat' (first | exact At.head | apply At.tail | apply At.right)); done))))) (rdown hov hw1 (Ext.mem (by (focus ((repeat' (first | exact Ext.none _ | exact Ext.one _ _ | exact Ext.here _ _ | exact Ext.all _ | apply Ext.cons | apply Ext.app | apply Ext.two)); done))))); rintro v Lo ⟨ov2, hov2, rfl, rfl⟩)) | (apply R.pure; exact rfl; first | (apply Ok1.move; exact rfl) | (apply Ok1.fieldAddr; (iterate 5 exact rfl)) | (apply Ok1.load; exact rfl; first | (apply Ld.own1; exact rfl; exact rfl; (focus ((repeat' (first | exact At.head | apply At.tail | apply At.right)); done)); exact rfl) | (apply Ld.ownk; exact rfl; exact rfl; (focus ((repeat' (first | exact At.head | apply At.tail | apply At.right)); done)); exact rfl) | (apply Ld.old1; exact rfl; exact rfl; assumption; (first | exact List.not_mem_nil | assumption)) | (apply Ld.blk1; exact rfl; exact rfl; assumption; (first | exact List.not_mem_nil | assumption); exact rfl) | (apply Ld.blkk; exact rfl; exact rfl; assumption; (first | exact List.not_mem_nil | assumption); exact rfl)) | (apply Ok1.assign; exact rfl) | (apply Ok1.extract; exact rfl; exact rfl) | (apply Ok1.not_t; exact rfl) | (apply Ok1.not_f; exact rfl) | (apply Ok1.not; exact rfl) | (apply Ok1.index1; (iterate 6 exact rfl); omega; omega; exact rfl) | (apply Ok1.indexk; (iterate 6 exact rfl); omega; omega; exact rfl) | (apply Ok1.convI64; (iterate 5 exact rfl); omega; omega) | (apply Ok1.convU64; (iterate 5 exact rfl); omega; omega) | (apply Ok1.convU32; (iterate 5 exact rfl); omega; omega) | (apply Ok1.convU8; (iterate 5 exact rfl); omega; omega) | (apply Ok1.conv; (iterate 5 exact rfl)) | (apply Ok1.neg; exact rfl) | (apply Ok1.slice0; (iterate 7 exact rfl); (refine ⟨?_, ?_, ?_⟩ <;> omega); (first | exact Or.inl rfl | exact Or.inr (fun e => by cases e))) | (apply Ok1.sliceTo; (iterate 6 exact rfl); omega; omega; omega; (first | exact Or.inl rfl | exact Or.inr (fun e => by cases e))) | (apply Ok1.sliceFrom; (iterate 7 exact rfl); omega; omega; omega; omega; omega; (first | exact Or.inl rfl | exact Or.inr (fun e => by cases e)))) | (apply R.box; (iterate 3 exact rfl); intro) | (apply R.alloc; (iterate 3 exact rfl); intro) | (apply R.buildSlice; (iterate 12 exact rfl); intro)) | (apply R.is0; first | fail) | (apply R.isG; first | (apply R.guard_run; exact rfl; exact rfl) | (apply R.guard_not; (iterate 3 exact rfl)) | (apply R.guard_not0; exact rfl; exact rfl) | (apply R.guard_un; (iterate 3 exact rfl)) | (apply R.guard_un0; exact rfl; exact rfl) | (apply R.guard rfl rfl ?_ (fun h => ⟨rfl, ?_⟩) <;> try intro)) | apply R.nil | (apply T.is; first | apply T.seq | apply T.region | apply T.block | apply T.scope | apply T.label | apply T.skip | apply T.exit | apply T.ret | (apply T.cond_t; exact rfl) | (apply T.cond_f; exact rfl) | (apply T.cond_h; exact rfl; assumption) | (apply T.cond_n; exact rfl; assumption) | (apply T.cond rfl <;> intro)) | apply Rnd.step)
      (apply RetOk.tt; exact rfl; exact rfl)
      exact ⟨_, by (focus ((repeat' (first | exact Keep.nil _ | exact Ext.one _ _ | exact Ext.here _ _ | exact Ext.all _ | apply Keep.cons | apply Keep.app | apply Keep.last | apply Ext.cons | apply Ext.app)); done)), ov2, hov2, rfl, rfl⟩
end Go.Proofs.YtplhnkmmhndkjaaGreat
set_option linter.unusedSimpArgs false
set_option linter.unusedVariables false
namespace Go.Proofs.YtplhnkmmhndkjaaGreat
open Go.RowKit Go.Shelf
set_option maxRecDepth 100000
theorem Rs.ok.fail {s : Rs} {br : Nat} {w : World} (h : s.ok br w) (e : Int) : (s.fail e).ok br w := by
  unfold Rs.fail
  split
  · exact ⟨.inl rfl, Nat.le_refl _, (fun h => absurd rfl h), (fun y hy => by cases hy), Nat.zero_le _⟩
  · exact h
theorem Rs.ok.drop {s : Rs} {br : Nat} {w : World} (h : s.ok br w) {k : Nat} (hk : k ≤ s.xs.length) : (s.drop k).ok br w := by
  refine ⟨h.rd.suf u8V_len hk h.cap, ?_, fun hne => ?_, fun y hy => h.byt y (List.mem_of_mem_drop hy), ?_⟩
  · have := h.cap; simp only [Rs.drop, List.length_drop]; omega
  · exact (h.off (by intro h0; apply hne; simp [Rs.drop, h0])).suf _ _ _
  · have := h.big; simp only [Rs.drop, List.length_drop]; omega
theorem Rs.ok.num {s : Rs} {br : Nat} {w : World} (h : s.ok br w) (k : Nat) : (s.num k).2.2.ok br w := by
  unfold Rs.num
  split
  · exact h.fail 4
  · rename_i hn
    have hk : k ≤ s.xs.length := Nat.le_of_not_lt fun h1 => hn (.inr h1)
    split
    · exact h.drop hk
    · exact (h.drop hk).fail 3
theorem Rs.ok.chg {s : Rs} {br : Nat} {w w1 : World} (h : s.ok br w) {S : List Nat} (hc : Chg S w w1) (hS : S = [br]) : s.ok br w1 := ⟨h.rd.chg' hc (fun h9 => hS ▸ h.off h9), h.cap, h.off, h.byt, h.big⟩
end Go.Proofs.YtplhnkmmhndkjaaGreat
set_option linter.unusedSimpArgs false
set_option linter.unusedVariables false
set_option linter.unusedSectionVars false
namespace Go.Proofs.YtplhnkmmhndkjaaGreat
open Go.RowKit Go.Shelf Go.Sort
section
variable {α : Type} [Inhabited α] {enc : α → List Value} {k : Nat}
theorem flatK_get (hk : ∀ x, (enc x).length = k) (d : Array α) {t : Nat} (ht : t < d.size * k) : (flatK enc k d)[t]? = (fl enc d.toList)[t]? := by
  have k0 : 0 < k := by rcases Nat.eq_zero_or_pos k with h | h; · subst h; simp at ht
                        · exact h
  have hdm := Nat.div_add_mod t k
  have hml := Nat.mod_lt t k0
  have hil : t / k < d.size := by rw [Nat.div_lt_iff_lt_mul k0]; exact ht
  have hg : d.toList[t / k]? = some d[t / k]! := by simp [hil]
  have h5 := fl_get hk hg hml
  rw [show t / k * k + t % k = t by rw [Nat.mul_comm]; exact hdm] at h5
  rw [h5]
  have h6 := get_flatK enc k d t ht
  rw [getElem!_pos _ t (by simpa using ht)] at h6
  rw [Array.getElem?_eq_getElem (by simpa using ht), h6, List.getElem?_eq_getElem (by rw [hk]; exact hml), getElem!_pos _ _ (by rw [hk]; exact hml)]
theorem putCells_own (hk : ∀ x, (enc x).length = k) (d : Array α) {old junk : List Value} (ho : old.length = d.size * k) :
    putCells id 0 (flatK enc k d) ⟨old ++ junk⟩ = ⟨fl enc d.toList ++ junk⟩ := by
  apply Array.ext_getElem?
  intro t
  have hl : (fl enc d.toList).length = d.size * k := by rw [fl_len hk]; simp
  simp only [putCells, Array.getElem?_mapIdx, Nat.zero_le, true_and, Nat.zero_add, Nat.sub_zero, size_flatK, id, List.getElem?_toArray]
  by_cases ht : t < d.size * k
  · rw [List.getElem?_append_left (by omega), List.getElem?_append_left (by omega), List.getElem?_eq_getElem (by omega), ← flatK_get hk d ht]
    simp [ht]
  · rw [List.getElem?_append_right (by omega), List.getElem?_append_right (by omega), ho, hl]
    cases junk[t - d.size * k]? with
    | none => rfl
    | some v => simp [ht]

theorem sortWorld_own (hk : ∀ x, (enc x).length = k) {w : World} {b m : Nat} {d : Array α} {os : Array Obj} {old junk : List Value} {e : TypeId} {fz : Nat × Nat} (hb : w.heap[b]? = some (.cells ⟨old ++ junk⟩ e fz)) (ho : old.length = d.size * k) :
    Chg [b] w (sortWorldK enc k w b 0 m d os) ∧ (sortWorldK enc k w b 0 m d os).heap[b]? = some (.cells ⟨fl enc d.toList ++ junk⟩ e fz) := by
  have hlt := (Array.getElem?_eq_some_iff.1 hb).1
  refine ⟨⟨rfl, rfl, rfl, ?_, ?_, ?_⟩, ?_⟩
  · simp [sortWorldK, grow, putRowK, putRow, mapBlock, Sort.ahead]
  · simp [sortWorldK, grow, putRowK, putRow, mapBlock, Sort.ahead]
  · intro i hi hs
    have hne : b ≠ i := fun h => hs (by simp [h])
    simp [sortWorldK, grow, putRowK, putRow, mapBlock, Sort.ahead, Array.getElem?_append, hi, Array.getElem_modify, hne]
  · simp only [sortWorldK, grow, putRowK, putRow, mapBlock, Sort.ahead]
    rw [Array.getElem?_append_left (by simpa using hlt), Array.getElem?_modify, if_pos rfl, hb]
    simp only [Option.map_some, onCells, putCells_own hk d ho]

/-- Ascending: no later one is less than an earlier one. -/
def Asc (cf : α → α → Int) (rs : List α) : Prop := rs.Pairwise fun a b => ¬ cf b a < 0

/-- What the program's slices.SortFunc does to an own slice of rows. -/
theorem sort_ok {P : Program} {ρ : Ren} (L : SlLaysF0.n6 P ρ) (aE : ∀ w, (isAgg (ρ.t 24)).run P w = .ok true w) (zE : ∀ w, (Go.sizeOf (ρ.t 24)).run P w = .ok k w) (hk : ∀ x, (enc x).length = k) (h1 : ∀ x, ∀ v ∈ enc x, v.oneCell' = true) (cf : α → α → Int) (hO : SWO (ltOf cf)) (g : Nat) (cb : List Value) {f : FuncId} (hf : ρ.f 6 = f)
    (b cap : Nat) (rs : List α) (junk : List Value) (e : TypeId) (w : World) (he : Enters P g) (hsz : rs.length ≤ 1000000)
    (hcmp : ∀ W, Chg [b] w W → ∀ x y, CallW P g ([.agg ⟨enc x⟩, .agg ⟨enc y⟩] ++ cb) W fun v _ => v = .int .i64 (cf x y)) :
    CallM P f [.slice (some ⟨b, 0, none⟩) rs.length cap, .func (.func g) #[] cb.toArray] [(b, .cells ⟨fl enc rs ++ junk⟩ e (0, 0))] w fun v L' => v = .tuple #[] ∧ ∃ rs' : List α, rs'.Perm rs ∧ Asc cf rs' ∧ L' = [(b, .cells ⟨fl enc rs' ++ junk⟩ e (0, 0))] :=
  ⟨fun hw => by
    subst hf
    have hb := hw.get b _ List.mem_cons_self
    have hlt := (Array.getElem?_eq_some_iff.1 hb).1
    have hfl : (fl enc rs).length = rs.length * k := fl_len hk rs
    have hH : HoldsK enc k w b 0 rs.toArray := by
      intro j hj
      have hj' : j < rs.length * k := by simpa using hj
      have h2 := flatK_get hk rs.toArray (t := j) (by simpa using hj')
      refine ⟨?_, ?_⟩
      · simp only [World.cell?, hb, Nat.zero_add]
        rw [getElem!_pos _ j hj]
        rw [Array.getElem?_eq_getElem hj] at h2
        simp only [id, h2]
        simp [List.getElem?_append_left, hfl, hj']
      · simp [World.frozen?, hb]
    have hcm : CmpLays P g cb.toArray enc k cf b 0 rs.toArray.size w := by
      intro m os dk hs x y
      have hc := (sortWorld_own hk (m := m) (d := dk) (os := os) hb (by rw [hfl, hs]; simp)).1
      have := (hcmp _ hc x y).run
      have e1 : (#[Value.agg (enc x).toArray, Value.agg (enc y).toArray] ++ cb.toArray : Array Value) = ([Value.agg ⟨enc x⟩, Value.agg ⟨enc y⟩] ++ cb).toArray := by simp
      rw [e1]
      refine Calls.mono this ?_
      rintro e w' ⟨v, h3, h4, h5⟩
      exact ⟨by rw [h3, h4], h5.grow⟩
    have := AnyQ.slices_SortFunc L k aE zE enc hk h1 cf hO g cb.toArray b 0 cap rs.toArray w he hcm hH hlt (by simp; omega)
    have e0 : rs.toArray.size = rs.length := by simp
    rw [e0] at this
    refine Calls.mono this ?_
    rintro e' w' ⟨h3, d', n, os, hp, hs, hw'⟩
    have hds : d'.size = rs.length := by simpa using hp.1
    obtain ⟨g1, g2⟩ := sortWorld_own hk (m := n) (d := d') (os := os) hb (by rw [hfl, hds])
    refine ⟨.tuple #[], [(b, .cells ⟨fl enc d'.toList ++ junk⟩ e (0, 0))], h3, ⟨rfl, d'.toList, ?_, ?_, rfl⟩, ?_⟩
    · have h4 := hp.2.2
      have e1 : d'.extract 0 rs.length = d' := by rw [← hds]; simp
      have e2 : rs.toArray.extract 0 rs.length = rs.toArray := by rw [← e0]; simp
      rw [e1, e2] at h4
      exact h4
    · refine List.pairwise_iff_getElem.2 fun i j hi hj hij => ?_
      have h4 := hs i j (Nat.zero_le _) hij (by simp at hj ⊢; omega)
      simp only [ltOf, decide_eq_false_iff_not] at h4
      simp only [Array.length_toList] at hi hj
      rw [getElem!_pos d' i (by omega), getElem!_pos d' j (by omega)] at h4
      exact h4
    · rw [hw']
      exact hw.upd .head g1 g2⟩
end
end Go.Proofs.YtplhnkmmhndkjaaGreat
set_option linter.unusedSimpArgs false
set_option linter.unusedVariables false
namespace Go.Proofs.YtplhnkmmhndkjaaGreat
open Go.RowKit Go.Shelf Go.Sort
set_option maxRecDepth 100000
theorem insC_nil (p : Option Addr) (cap : Nat) (f : Value) : CallP Tryz.prog 152 [.slice p 0 cap, .int .i64 0, .int .i64 0, f] (.tuple #[]) := by
  refine enterP (tb := tb) Tryz.func152 rfl Tryz.ntmps152 rfl fun w => ?_
  repeat' (first | (apply R.is1; first | (apply R.isBin; first | (apply R.pure; exact rfl; first | (apply Ok1.add64; exact rfl; exact rfl; omega; omega) | (apply Ok1.sub64; exact rfl; exact rfl; omega; omega) | (apply Ok1.lss_t; exact rfl; exact rfl; omega) | (apply Ok1.lss_f; exact rfl; exact rfl; omega) | (apply Ok1.gtr_t; exact rfl; exact rfl; omega) | (apply Ok1.gtr_f; exact rfl; exact rfl; omega)) | (apply R.lss rfl rfl rfl <;> intro) | (apply R.gtr rfl rfl rfl <;> intro)) | (apply R.pure; exact rfl; first | (apply Ok1.move; exact rfl) | (apply Ok1.load; exact rfl; first | (apply Ld.own1; exact rfl; exact rfl; (focus ((repeat' (first | exact At.head | apply At.tail | apply At.right)); done)); exact rfl) | (apply Ld.ownk; exact rfl; exact rfl; (focus ((repeat' (first | exact At.head | apply At.tail | apply At.right)); done)); exact rfl) | (apply Ld.old1; exact rfl; exact rfl; assumption; (first | exact List.not_mem_nil | assumption)) | (apply Ld.blk1; exact rfl; exact rfl; assumption; (first | exact List.not_mem_nil | assumption); exact rfl) | (apply Ld.blkk; exact rfl; exact rfl; assumption; (first | exact List.not_mem_nil | assumption); exact rfl)) | (apply Ok1.assign; exact rfl) | (apply Ok1.indexAddr; (iterate 5 exact rfl); omega; omega) | (apply Ok1.indexAddrA; (iterate 5 exact rfl); omega; omega) | (apply Ok1.pick_t; exact rfl; exact rfl) | (apply Ok1.pick_f; exact rfl; exact rfl) | (apply Ok1.pick_h; exact rfl; assumption; exact rfl) | (apply Ok1.pick_n; exact rfl; assumption; exact rfl))) | (apply R.is0; first | (apply R.store; (iterate 6 exact rfl); (focus ((repeat' (first | exact Upd.head | apply Upd.tail | apply Upd.right)); done)); exact rfl) | fail) | (apply R.isG; first | (apply R.guard_run; exact rfl; exact rfl) | (apply R.guard_not; (iterate 3 exact rfl)) | (apply R.guard_not0; exact rfl; exact rfl) | (apply R.guard_un; (iterate 3 exact rfl)) | (apply R.guard_un0; exact rfl; exact rfl) | (apply R.guard rfl rfl ?_ (fun h => ⟨rfl, ?_⟩) <;> try intro)) | apply R.nil | (apply T.is; first | apply T.rounds 2 | apply T.seq | apply T.region | apply T.block | apply T.scope | apply T.label | apply T.skip | apply T.exit | apply T.ret | (apply T.cond_t; exact rfl) | (apply T.cond_f; exact rfl) | (apply T.cond_h; exact rfl; assumption) | (apply T.cond_n; exact rfl; assumption) | (apply T.cond rfl <;> intro)) | apply Rnd.step)
  all_goals (apply RetOk.n)
  all_goals rfl
theorem pdqC_nil (p : Option Addr) (cap : Nat) (l : Int) (f : Value) : CallP Tryz.prog 146 [.slice p 0 cap, .int .i64 0, .int .i64 0, .int .i64 l, f] (.tuple #[]) := by
  refine enterP (tb := tb) Tryz.func146 rfl Tryz.ntmps146 rfl fun w => ?_
  repeat' (first | (apply R.is1; first | (apply R.isBin; first | (apply R.pure; exact rfl; first | (apply Ok1.add64; exact rfl; exact rfl; omega; omega) | (apply Ok1.sub64; exact rfl; exact rfl; omega; omega) | (apply Ok1.lss_t; exact rfl; exact rfl; omega) | (apply Ok1.lss_f; exact rfl; exact rfl; omega) | (apply Ok1.leq_t; exact rfl; exact rfl; omega) | (apply Ok1.leq_f; exact rfl; exact rfl; omega) | (apply Ok1.gtr_t; exact rfl; exact rfl; omega) | (apply Ok1.gtr_f; exact rfl; exact rfl; omega) | (apply Ok1.geq_t; exact rfl; exact rfl; omega) | (apply Ok1.geq_f; exact rfl; exact rfl; omega) | (apply Ok1.eql_t; exact rfl; exact rfl; omega) | (apply Ok1.eql_f; exact rfl; exact rfl; omega) | (apply Ok1.quo64; exact rfl; exact rfl; omega; omega; omega) | (apply Ok1.eqlP; (iterate 5 exact rfl)) | (apply Ok1.eqlM; (iterate 5 exact rfl)) | (apply Ok1.eqlS; (iterate 5 exact rfl))) | (apply R.lss rfl rfl rfl <;> intro) | (apply R.leq rfl rfl rfl <;> intro) | (apply R.gtr rfl rfl rfl <;> intro) | (apply R.geq rfl rfl rfl <;> intro) | (apply R.eql rfl rfl rfl <;> intro) | (apply R.eqlF; (iterate 8 exact rfl); all_goals intro)) | (apply R.isCall; first | apply R.callP rfl rfl rfl (insC_nil _ _ _)) | (apply R.pure; exact rfl; first | (apply Ok1.move; exact rfl) | (apply Ok1.load; exact rfl; first | (apply Ld.own1; exact rfl; exact rfl; (focus ((repeat' (first | exact At.head | apply At.tail | apply At.right)); done)); exact rfl) | (apply Ld.ownk; exact rfl; exact rfl; (focus ((repeat' (first | exact At.head | apply At.tail | apply At.right)); done)); exact rfl) | (apply Ld.old1; exact rfl; exact rfl; assumption; (first | exact List.not_mem_nil | assumption)) | (apply Ld.blk1; exact rfl; exact rfl; assumption; (first | exact List.not_mem_nil | assumption); exact rfl) | (apply Ld.blkk; exact rfl; exact rfl; assumption; (first | exact List.not_mem_nil | assumption); exact rfl)) | (apply Ok1.assign; exact rfl) | (apply Ok1.indexAddr; (iterate 5 exact rfl); omega; omega) | (apply Ok1.indexAddrA; (iterate 5 exact rfl); omega; omega) | (apply Ok1.extract; exact rfl; exact rfl) | (apply Ok1.pick_t; exact rfl; exact rfl) | (apply Ok1.pick_f; exact rfl; exact rfl) | (apply Ok1.pick_h; exact rfl; assumption; exact rfl) | (apply Ok1.pick_n; exact rfl; assumption; exact rfl) | (apply Ok1.not_t; exact rfl) | (apply Ok1.not_f; exact rfl) | (apply Ok1.not; exact rfl) | (apply Ok1.neg; exact rfl))) | (apply R.is0; first | fail) | (apply R.isG; first | (apply R.guard_run; exact rfl; exact rfl) | (apply R.guard_not; (iterate 3 exact rfl)) | (apply R.guard_not0; exact rfl; exact rfl) | (apply R.guard_un; (iterate 3 exact rfl)) | (apply R.guard_un0; exact rfl; exact rfl) | (apply R.guard rfl rfl ?_ (fun h => ⟨rfl, ?_⟩) <;> try intro)) | apply R.nil | (apply T.is; first | apply T.rounds 2 | apply T.seq | apply T.region | apply T.block | apply T.scope | apply T.label | apply T.skip | apply T.exit | apply T.ret | (apply T.cond_t; exact rfl) | (apply T.cond_f; exact rfl) | (apply T.cond_h; exact rfl; assumption) | (apply T.cond_n; exact rfl; assumption) | (apply T.cond rfl <;> intro)) | apply Rnd.step)
  all_goals (apply RetOk.n)
  all_goals rfl
theorem sortC_nil (p : Option Addr) (cap : Nat) (f : Value) : CallP Tryz.prog 126 [.slice p 0 cap, f] (.tuple #[]) := by
  refine enterP (tb := tb) Tryz.func126 rfl Tryz.ntmps126 rfl fun w => ?_
  repeat' (first | (apply R.is1; first | (apply R.isCall; first | apply R.callP rfl rfl rfl (len_ok _ (by omega) (by omega)) | apply R.callP rfl rfl rfl (pdqC_nil _ _ _ _) | (apply R.pure; exact rfl; first | (apply Ok1.lenS; (iterate 3 exact rfl)) | (apply Ok1.lenStr; (iterate 3 exact rfl)) | (apply Ok1.lenMm; (iterate 3 exact rfl); (focus ((repeat' (first | exact At.head | apply At.tail | apply At.right)); done))) | (apply Ok1.lenM_nil; (iterate 3 exact rfl)))) | (apply R.pure; exact rfl; first | (apply Ok1.move; exact rfl) | (apply Ok1.assign; exact rfl) | (apply Ok1.convI64; (iterate 5 exact rfl); omega; omega) | (apply Ok1.convU64; (iterate 5 exact rfl); omega; omega) | (apply Ok1.convU32; (iterate 5 exact rfl); omega; omega) | (apply Ok1.convU8; (iterate 5 exact rfl); omega; omega) | (apply Ok1.conv; (iterate 5 exact rfl)))) | (apply R.is0; first | fail) | (apply R.isG; first | (apply R.guard_run; exact rfl; exact rfl) | (apply R.guard_not; (iterate 3 exact rfl)) | (apply R.guard_not0; exact rfl; exact rfl) | (apply R.guard_un; (iterate 3 exact rfl)) | (apply R.guard_un0; exact rfl; exact rfl) | (apply R.guard rfl rfl ?_ (fun h => ⟨rfl, ?_⟩) <;> try intro)) | apply R.nil | (apply T.is; first | apply T.seq | apply T.region | apply T.block | apply T.scope | apply T.label | apply T.skip | apply T.exit | apply T.ret | (apply T.cond_t; exact rfl) | (apply T.cond_f; exact rfl) | (apply T.cond_h; exact rfl; assumption) | (apply T.cond_n; exact rfl; assumption) | (apply T.cond rfl <;> intro)) | apply Rnd.step)
  all_goals (apply RetOk.n)
  all_goals rfl

theorem Cl.v_len (c : Cl) : c.v.length = 4 := rfl
theorem swoC : SWO (ltOf cmpCl) where
  irrefl := fun x => by simp only [ltOf, decide_eq_false_iff_not, cmpCl_neg, ltC]; omega
  trans := fun x y z => by simp only [ltOf, decide_eq_true_eq, cmpCl_neg, ltC]; omega
  ntrans := fun x y z => by simp only [ltOf, decide_eq_false_iff_not, cmpCl_neg, ltC]; omega
theorem sortC_ok (rs : List Cl) (hlen : rs.length ≤ 1000) (ov : Ov) (hov : OvOk 4 ov rs.length (fl Cl.v rs)) (w : World) :
    CallM Tryz.prog 126 [slV ov rs.length, .func (.func 80) #[] #[]] (blkL 71 ov (fl Cl.v rs)) w fun v L => v = .tuple #[] ∧ ∃ rs', rs'.Perm rs ∧ Asc cmpCl rs' ∧ L = blkL 71 ov (fl Cl.v rs') := by
  cases ov with
  | none =>
    have h0 : rs.length = 0 := hov.2
    have : rs = [] := by cases rs; rfl; simp at h0
    subst this
    exact ⟨fun hw => ((sortC_nil none 0 _).run w).mono fun e' w' ⟨h1, h2⟩ => ⟨_, _, h1, ⟨rfl, [], .refl _, .nil, rfl⟩, hw.step h2⟩⟩
  | some x =>
    obtain ⟨b, j, junk⟩ := x
    exact sort_ok Tryz.sortC (fun w => (tb.get (t := 71) rfl).agg rfl w) (tb.get (t := 71) rfl).size Cl.v_len (fun x v hv => by
      simp only [Cl.v, List.mem_cons, List.not_mem_nil, or_false] at hv
      rcases hv with rfl | rfl | rfl | rfl <;> rfl) _ swoC 80 [] rfl b _ rs junk _ w (tb.ent rfl) (by omega)
      (fun W hW x y => (compare_ok x y).at W)
end Go.Proofs.YtplhnkmmhndkjaaGreat
set_option linter.unusedSimpArgs false
set_option linter.unusedVariables false
namespace Go.Proofs.YtplhnkmmhndkjaaGreat
open Go.RowKit Go.Shelf
set_option maxRecDepth 100000
theorem clBytes_bad (c : Cl) (hr : ¬ c.right) : CallP Tryz.prog 78 [kvC c] (.tuple #[.slice none 0 0, .int .i64 10]) := by
  have hck := check_ok c.id c.roles c.exp c.ser
  rw [if_neg hr] at hck
  refine enterP (tb := tb) Tryz.func78 rfl Tryz.ntmps78 rfl fun w0 => ?_
  simp only [kvC]
  repeat' (first | (apply R.is1; first | (apply R.isBin; first | (apply R.pure; exact rfl; first | (apply Ok1.neq_t; exact rfl; exact rfl; omega) | (apply Ok1.neq_f; exact rfl; exact rfl; omega) | (apply Ok1.neqP; (iterate 5 exact rfl)) | (apply Ok1.neqM; (iterate 5 exact rfl)) | (apply Ok1.neqS; (iterate 5 exact rfl))) | (apply R.neq rfl rfl rfl <;> intro) | (apply R.neqF; (iterate 8 exact rfl); all_goals intro)) | (apply R.isCall; first | apply R.callP rfl rfl rfl hck) | (apply R.pure; exact rfl; first | (apply Ok1.move; exact rfl) | (apply Ok1.fieldAddr; (iterate 5 exact rfl)) | (apply Ok1.load; exact rfl; first | (apply Ld.own1; exact rfl; exact rfl; (focus ((repeat' (first | exact At.head | apply At.tail | apply At.right)); done)); exact rfl) | (apply Ld.ownk; exact rfl; exact rfl; (focus ((repeat' (first | exact At.head | apply At.tail | apply At.right)); done)); exact rfl) | (apply Ld.old1; exact rfl; exact rfl; assumption; (first | exact List.not_mem_nil | assumption)) | (apply Ld.blk1; exact rfl; exact rfl; assumption; (first | exact List.not_mem_nil | assumption); exact rfl) | (apply Ld.blkk; exact rfl; exact rfl; assumption; (first | exact List.not_mem_nil | assumption); exact rfl)) | (apply Ok1.assign; exact rfl) | (apply Ok1.extract; exact rfl; exact rfl)) | (apply R.box; (iterate 3 exact rfl); intro) | (apply R.alloc; (iterate 3 exact rfl); intro) | (apply R.buildSlice; (iterate 12 exact rfl); intro)) | (apply R.is0; first | fail) | (apply R.isG; first | (apply R.guard_run; exact rfl; exact rfl) | (apply R.guard_not; (iterate 3 exact rfl)) | (apply R.guard_not0; exact rfl; exact rfl) | (apply R.guard_un; (iterate 3 exact rfl)) | (apply R.guard_un0; exact rfl; exact rfl) | (apply R.guard rfl rfl ?_ (fun h => ⟨rfl, ?_⟩) <;> try intro)) | apply R.nil | (apply T.is; first | apply T.seq | apply T.region | apply T.block | apply T.scope | apply T.label | apply T.skip | apply T.exit | apply T.ret | (apply T.cond_t; exact rfl) | (apply T.cond_f; exact rfl) | (apply T.cond_h; exact rfl; assumption) | (apply T.cond_n; exact rfl; assumption) | (apply T.cond rfl <;> intro)) | apply Rnd.step)
  all_goals (apply RetOk.tt; exact rfl; exact rfl)
  all_goals rfl
theorem RdSl.mid {w0 w : World} {S : List Nat} {L : Lst} {b : Nat} {e : TypeId} {fz : Nat × Nat} {pre junk : List Value} {xs : List Int} (hw : Hp w0 S L w) (hat : At L b (.cells ⟨pre ++ u8s xs ++ junk⟩ e fz)) {o : Nat} (ho : o = pre.length) : RdSl w (some ⟨b, o, none⟩) u8V xs := by
  subst ho
  right
  refine ⟨b, pre.length, rfl, fun k hk => ?_⟩
  have h1 := hw.get b _ hat.mem
  rw [fl_u8] at hk ⊢
  simp only [World.cell?, h1]
  simp only [List.append_assoc, List.getElem?_toArray]
  rw [List.getElem?_append_right (by omega), List.getElem?_append_left (by omega), Nat.add_sub_cancel_left]
  rfl
end Go.Proofs.YtplhnkmmhndkjaaGreat
set_option linter.unusedSimpArgs false
set_option linter.unusedVariables false
namespace Go.Proofs.YtplhnkmmhndkjaaGreat
open Go.ChangeShapes Go.WideShapes Go.ChangeAt Go.RowKit
theorem Tryz.own : ownKnob Tryz.prog.godebug = none := by kernel_rfl
section
variable {H : Type} {enc : TypeId × Value → H} {P : Program} {w : World} {base : Nat} {spare : Nat → Bool} {held : Bool}
theorem Opens.arr (tb : Tb P) {t e n : Nat} {r re : TRow} {Q : List Value → Prop} (ht : tb.row t = some r) (hk : r.k = .arr n e) (he : tb.row e = some re) (hQ : Opens enc P w base spare held e Q) :
    Opens enc P w base spare held t fun cs => cs.length = r.size ∧ ∀ i, i < n → Q ((cs.drop (i * re.size)).take re.size) := by
  intro fuel cs x hx
  have his := (tb.get ht).is
  rw [hk] at his
  obtain ⟨xs, m, rfl, _, hcl, hxl, hf⟩ := DataW.trod_array his hx
  refine ⟨by rw [hcl, cells_of w (tb.get ht).size], fun i hi => ?_⟩
  have h4 := hf i hi
  rw [cells_of w (tb.get he).size, List.getElem?_eq_getElem (by omega)] at h4
  exact hQ _ _ _ h4
end
section
variable {H : Type} {enc : TypeId × Value → H} {w : World} {base : Nat} {spare : Nat → Bool} {held : Bool}
end
open Go.ChangeShapes Go.WideShapes Go.ChangeAt Go.RowKit
section
variable {H : Type} {enc : TypeId × Value → H} {P : Program} {w : World} {base : Nat} {spare : Nat → Bool} {held : Bool}
end
end Go.Proofs.YtplhnkmmhndkjaaGreat
set_option linter.unusedSimpArgs false
set_option linter.unusedVariables false
namespace Go.Proofs.YtplhnkmmhndkjaaGreat
open Go.RowKit Go.Shelf
/-- On the way from n rumours and k claims to what there is room for: a and b are left. -/
def FitI (room : Int) (n k a b : Nat) : Prop := a ≤ n ∧ b ≤ k ∧ (a < n → b = 0 ∧ room < 18 + 14 * ((a : Int) + 1)) ∧ (b < k → room < 18 + 14 * (n : Int) + 9 * ((b : Int) + 1))
theorem FitI.start (room : Int) (n k : Nat) : FitI room n k n k := ⟨Nat.le_refl _, Nat.le_refl _, fun h => by omega, fun h => by omega⟩
end Go.Proofs.YtplhnkmmhndkjaaGreat
set_option linter.unusedSimpArgs false
set_option linter.unusedVariables false
namespace Go.Proofs.YtplhnkmmhndkjaaGreat
open Go.RowKit Go.Shelf
set_option maxRecDepth 100000
theorem Cl.v_len4 (c : Cl) : c.v.length = 4 := rfl
theorem people_ok (p : Option Addr) (cap : Nat) (rs : List Cl) (w : World) (hp : RdSl w p Cl.v rs) : CallM Tryz.prog 30 [.slice p rs.length cap] [] w fun v L => ∃ ov, OvOk 4 ov (min rs.length 18) (fl Cl.v (rs.take 18)) ∧ v = slV ov (min rs.length 18) ∧ L = blkL 71 ov (fl Cl.v (rs.take 18)) := by
  refine enterK (tb := tb) Tryz.func30 rfl Tryz.ntmps30 rfl ?_
  repeat' (first | (apply R.is1; first | (apply R.isBin; first | (apply R.pure; exact rfl; first | (apply Ok1.add64; exact rfl; exact rfl; omega; omega) | (apply Ok1.lss_t; exact rfl; exact rfl; omega) | (apply Ok1.lss_f; exact rfl; exact rfl; omega)) | (apply R.lss rfl rfl rfl <;> intro)) | (apply R.isCall; first | (apply R.pure; exact rfl; first | (apply Ok1.lenS; (iterate 3 exact rfl)) | (apply Ok1.lenStr; (iterate 3 exact rfl)) | (apply Ok1.lenMm; (iterate 3 exact rfl); (focus ((repeat' (first | exact At.head | apply At.tail | apply At.right)); done))) | (apply Ok1.lenM_nil; (iterate 3 exact rfl)))) | (apply R.pure; exact rfl; first | (apply Ok1.move; exact rfl) | (apply Ok1.load; exact rfl; first | (apply Ld.own1; exact rfl; exact rfl; (focus ((repeat' (first | exact At.head | apply At.tail | apply At.right)); done)); exact rfl) | (apply Ld.ownk; exact rfl; exact rfl; (focus ((repeat' (first | exact At.head | apply At.tail | apply At.right)); done)); exact rfl) | (apply Ld.old1; exact rfl; exact rfl; assumption; (first | exact List.not_mem_nil | assumption)) | (apply Ld.blk1; exact rfl; exact rfl; assumption; (first | exact List.not_mem_nil | assumption); exact rfl) | (apply Ld.blkk; exact rfl; exact rfl; assumption; (first | exact List.not_mem_nil | assumption); exact rfl)) | (apply Ok1.assign; exact rfl) | (apply Ok1.indexAddr; (iterate 5 exact rfl); omega; omega) | (apply Ok1.indexAddrA; (iterate 5 exact rfl); omega; omega) | (apply Ok1.pick_t; exact rfl; exact rfl) | (apply Ok1.pick_f; exact rfl; exact rfl) | (apply Ok1.pick_h; exact rfl; assumption; exact rfl) | (apply Ok1.pick_n; exact rfl; assumption; exact rfl)) | (apply R.buildSlice; (iterate 12 exact rfl); intro)) | (apply R.is0; first | fail) | (apply R.isG; first | (apply R.guard_run; exact rfl; exact rfl) | (apply R.guard_not; (iterate 3 exact rfl)) | (apply R.guard_not0; exact rfl; exact rfl) | (apply R.guard_un; (iterate 3 exact rfl)) | (apply R.guard_un0; exact rfl; exact rfl) | (apply R.guard rfl rfl ?_ (fun h => ⟨rfl, ?_⟩) <;> try intro)) | apply R.nil | (apply T.is; first | apply T.seq | apply T.region | apply T.block | apply T.scope | apply T.label | apply T.skip | apply T.exit | apply T.ret | (apply T.cond_t; exact rfl) | (apply T.cond_f; exact rfl) | (apply T.cond_h; exact rfl; assumption) | (apply T.cond_n; exact rfl; assumption) | (apply T.cond rfl <;> intro)) | apply Rnd.step)
  apply T.loopK (α := Nat × Ov) (I := fun q => q.1 ≤ min rs.length 18 ∧ OvOk 4 q.2 q.1 (fl Cl.v (rs.take q.1))) (σi := fun q => [(0, .slice p rs.length cap), (3, slV q.2 q.1), (4, .int .i64 q.1)]) (Li := fun q => blkL 71 q.2 (fl Cl.v (rs.take q.1))) (μ := fun q => 18 - q.1) (i0 := (0, none))
  · exact ⟨by omega, OvOk.start 4⟩
  · exact ⟨rfl, rfl, rfl, trivial⟩
  · exact Keep.nil _
  · rintro ⟨i, ov⟩ ⟨hi, hov⟩
    simp only at hi hov ⊢
    rcases Nat.lt_or_ge i (min rs.length 18) with hlt | hge
    · obtain ⟨r, hr⟩ : ∃ r, rs[i]? = some r := ⟨_, List.getElem?_eq_getElem (by omega)⟩
      obtain ⟨b, o, hpe, H⟩ := hp.at hr
      replace H := H 4 Cl.v_len4
      repeat' (first | (apply R.is1; first | (apply R.isBin; first | (apply R.pure; exact rfl; first | (apply Ok1.add64; exact rfl; exact rfl; omega; omega) | (apply Ok1.lss_t; exact rfl; exact rfl; omega) | (apply Ok1.lss_f; exact rfl; exact rfl; omega)) | (apply R.lss rfl rfl rfl <;> intro)) | (apply R.isCall; first | apply R.callP rfl rfl rfl (to5_ok _ _ _ _) | (apply R.append1; (iterate 12 exact rfl); (focus ((repeat' (first | exact OwnAt.mid hov | exact OwnAt.base hov | exact OwnAt.nil _ | apply OwnAt.tail | apply OwnAt.right)); done)); (focus ((repeat' (first | exact At.head | apply At.tail | apply At.right)); done)); exact rfl; exact rfl; omega; omega; intro b2 j2 k2 hj2) | (apply R.pure; exact rfl; first | (apply Ok1.lenS; (iterate 3 exact rfl)) | (apply Ok1.lenStr; (iterate 3 exact rfl)) | (apply Ok1.lenMm; (iterate 3 exact rfl); (focus ((repeat' (first | exact At.head | apply At.tail | apply At.right)); done))) | (apply Ok1.lenM_nil; (iterate 3 exact rfl)))) | (apply R.pure; exact rfl; first | (apply Ok1.indexAddrP; (iterate 4 exact rfl); exact hpe; exact rfl; omega; omega) | (apply Ok1.load; exact rfl; first | (apply Ld.rowk0 H; exact rfl; exact List.not_mem_nil; (iterate 3 exact rfl)) | (apply Ld.rowk H; exact rfl; exact List.not_mem_nil; (iterate 3 exact rfl))) | (apply Ok1.move; exact rfl) | (apply Ok1.load; exact rfl; first | (apply Ld.own1; exact rfl; exact rfl; (focus ((repeat' (first | exact At.head | apply At.tail | apply At.right)); done)); exact rfl) | (apply Ld.ownk; exact rfl; exact rfl; (focus ((repeat' (first | exact At.head | apply At.tail | apply At.right)); done)); exact rfl) | (apply Ld.old1; exact rfl; exact rfl; assumption; (first | exact List.not_mem_nil | assumption)) | (apply Ld.blk1; exact rfl; exact rfl; assumption; (first | exact List.not_mem_nil | assumption); exact rfl) | (apply Ld.blkk; exact rfl; exact rfl; assumption; (first | exact List.not_mem_nil | assumption); exact rfl)) | (apply Ok1.assign; exact rfl) | (apply Ok1.indexAddr; (iterate 5 exact rfl); omega; omega) | (apply Ok1.indexAddrA; (iterate 5 exact rfl); omega; omega) | (apply Ok1.pick_t; exact rfl; exact rfl) | (apply Ok1.pick_f; exact rfl; exact rfl) | (apply Ok1.pick_h; exact rfl; assumption; exact rfl) | (apply Ok1.pick_n; exact rfl; assumption; exact rfl)) | (apply R.buildSlice; (iterate 12 exact rfl); intro)) | (apply R.is0; first | fail) | (apply R.isG; first | (apply R.guard_run; exact rfl; exact rfl) | (apply R.guard_not; (iterate 3 exact rfl)) | (apply R.guard_not0; exact rfl; exact rfl) | (apply R.guard_un; (iterate 3 exact rfl)) | (apply R.guard_un0; exact rfl; exact rfl) | (apply R.guard rfl rfl ?_ (fun h => ⟨rfl, ?_⟩) <;> try intro)) | apply R.nil | (apply T.is; first | apply T.seq | apply T.region | apply T.block | apply T.scope | apply T.label | apply T.skip | apply T.exit | apply T.ret | (apply T.cond_t; exact rfl) | (apply T.cond_f; exact rfl) | (apply T.cond_h; exact rfl; assumption) | (apply T.cond_n; exact rfl; assumption) | (apply T.cond rfl <;> intro)) | apply Rnd.step)
      refine ⟨(i + 1, some (b2, j2, k2)), ⟨by simp only; omega, ?_⟩, by simp only; omega, ⟨rfl, rfl, rfl, trivial⟩, ?_⟩
      · simp only [fl_take hr]; exact hov.some rfl hj2
      · simp only [fl_take hr]; exact Keep.last (.one _ _)
    · repeat' (first | (apply R.is1; first | (apply R.isBin; first | (apply R.pure; exact rfl; first | (apply Ok1.add64; exact rfl; exact rfl; omega; omega) | (apply Ok1.lss_t; exact rfl; exact rfl; omega) | (apply Ok1.lss_f; exact rfl; exact rfl; omega)) | (apply R.lss rfl rfl rfl <;> intro)) | (apply R.isCall; first | (apply R.pure; exact rfl; first | (apply Ok1.lenS; (iterate 3 exact rfl)) | (apply Ok1.lenStr; (iterate 3 exact rfl)) | (apply Ok1.lenMm; (iterate 3 exact rfl); (focus ((repeat' (first | exact At.head | apply At.tail | apply At.right)); done))) | (apply Ok1.lenM_nil; (iterate 3 exact rfl)))) | (apply R.pure; exact rfl; first | (apply Ok1.move; exact rfl) | (apply Ok1.load; exact rfl; first | (apply Ld.own1; exact rfl; exact rfl; (focus ((repeat' (first | exact At.head | apply At.tail | apply At.right)); done)); exact rfl) | (apply Ld.ownk; exact rfl; exact rfl; (focus ((repeat' (first | exact At.head | apply At.tail | apply At.right)); done)); exact rfl) | (apply Ld.old1; exact rfl; exact rfl; assumption; (first | exact List.not_mem_nil | assumption)) | (apply Ld.blk1; exact rfl; exact rfl; assumption; (first | exact List.not_mem_nil | assumption); exact rfl) | (apply Ld.blkk; exact rfl; exact rfl; assumption; (first | exact List.not_mem_nil | assumption); exact rfl)) | (apply Ok1.assign; exact rfl) | (apply Ok1.indexAddr; (iterate 5 exact rfl); omega; omega) | (apply Ok1.indexAddrA; (iterate 5 exact rfl); omega; omega) | (apply Ok1.pick_t; exact rfl; exact rfl) | (apply Ok1.pick_f; exact rfl; exact rfl) | (apply Ok1.pick_h; exact rfl; assumption; exact rfl) | (apply Ok1.pick_n; exact rfl; assumption; exact rfl)) | (apply R.buildSlice; (iterate 12 exact rfl); intro)) | (apply R.is0; first | fail) | (apply R.isG; first | (apply R.guard_run; exact rfl; exact rfl) | (apply R.guard_not; (iterate 3 exact rfl)) | (apply R.guard_not0; exact rfl; exact rfl) | (apply R.guard_un; (iterate 3 exact rfl)) | (apply R.guard_un0; exact rfl; exact rfl) | (apply R.guard rfl rfl ?_ (fun h => ⟨rfl, ?_⟩) <;> try intro)) | apply R.nil | (apply T.is; first | apply T.seq | apply T.region | apply T.block | apply T.scope | apply T.label | apply T.skip | apply T.exit | apply T.ret | (apply T.cond_t; exact rfl) | (apply T.cond_f; exact rfl) | (apply T.cond_h; exact rfl; assumption) | (apply T.cond_n; exact rfl; assumption) | (apply T.cond rfl <;> intro)) | apply Rnd.step)
      all_goals (apply RetOk.t; exact rfl)
      all_goals have hm : i = min rs.length 18 := by omega
      all_goals have ht : rs.take i = rs.take 18 := by rw [hm, List.take_eq_take_iff]; omega
      all_goals rw [ht] at hov ⊢
      all_goals exact ⟨_, by (focus ((repeat' (first | exact Keep.nil _ | exact Ext.one _ _ | exact Ext.here _ _ | exact Ext.all _ | apply Keep.cons | apply Keep.app | apply Keep.last | apply Ext.cons | apply Ext.app)); done)), ov, hm ▸ hov, by rw [hm], rfl⟩
end Go.Proofs.YtplhnkmmhndkjaaGreat
set_option linter.unusedSimpArgs false
set_option linter.unusedVariables false
namespace Go.Proofs.YtplhnkmmhndkjaaGreat
open Go.RowKit Go.Shelf
set_option maxRecDepth 100000
theorem CallM.to9 {P : Program} {f : FuncId} {vs : List Value} {L : Lst} {w : World} {R R' : Value → Lst → Prop} (h : CallM P f vs L w R) (hr : ∀ v L, R v L → R' v L) : CallM P f vs L w R' :=
  ⟨fun hw => (h.run hw).mono fun e w' ⟨v, L', h1, h2, h3⟩ => ⟨v, L', h1, hr _ _ h2, h3⟩⟩
theorem cvalues_ok (p : Option Addr) (n cap : Nat) (w : World) : CallM Tryz.prog 111 [.slice p n cap] [] w fun v L => ∃ cb, v = .func (.func 127) #[] #[.pointer (some ⟨cb, 0, none⟩)] ∧ L = [(cb, .cells ⟨[.slice p n cap]⟩ 36 (0, 0))] := by
  refine enterK (tb := tb) Tryz.func111 rfl Tryz.ntmps111 rfl ?_
  repeat' (first | (apply R.is1; first | (apply R.pure; exact rfl; first | (apply Ok1.assign; exact rfl) | (apply Ok1.makeFunc; exact rfl; exact rfl)) | (apply R.box; (iterate 3 exact rfl); intro)) | (apply R.is0; first | fail) | (apply R.isG; first | (apply R.guard_run; exact rfl; exact rfl) | (apply R.guard_not; (iterate 3 exact rfl)) | (apply R.guard_not0; exact rfl; exact rfl) | (apply R.guard_un; (iterate 3 exact rfl)) | (apply R.guard_un0; exact rfl; exact rfl) | (apply R.guard rfl rfl ?_ (fun h => ⟨rfl, ?_⟩) <;> try intro)) | apply R.nil | (apply T.is; first | apply T.seq | apply T.region | apply T.block | apply T.scope | apply T.label | apply T.skip | apply T.exit | apply T.ret | (apply T.cond_t; exact rfl) | (apply T.cond_f; exact rfl) | (apply T.cond_h; exact rfl; assumption) | (apply T.cond_n; exact rfl; assumption) | (apply T.cond rfl <;> intro)) | apply Rnd.step)
  (apply RetOk.t; exact rfl)
  exact ⟨_, by (focus ((repeat' (first | exact Keep.nil _ | exact Ext.one _ _ | exact Ext.here _ _ | exact Ext.all _ | apply Keep.cons | apply Keep.app | apply Keep.last | apply Ext.cons | apply Ext.app)); done)), _, rfl, rfl⟩
theorem cvalues1_ok {β : Type} (I : Nat → β → Prop) (Li : Nat → β → Lst) (l : Nat) (o : Obj) (cb : Nat) (p : Option Addr) (n cap : Nat) (xs : List Cl) (hn : n = xs.length) (hbig : n ≤ 1000000000) (y0 : β) (h0 : I 0 y0)
    (hY : ∀ i y x w, I i y → xs[i]? = some x → YieldM Tryz.prog l [kvC x] ((l, o) :: Li i y) w fun v L => v = .bool true ∧ ∃ L5, (∃ y', I (i + 1) y' ∧ L5 = Li (i + 1) y') ∧ L = (l, o) :: L5) (w : World) (hp : RdSl w p Cl.v xs) (hoff : xs ≠ [] → Off p (blks ((l, o) :: (cb, .cells ⟨[.slice p n cap]⟩ 36 (0, 0)) :: Li 0 y0))) :
    CallM Tryz.prog 127 [.func (.yield l) #[] #[], .pointer (some ⟨cb, 0, none⟩)] ((l, o) :: (cb, .cells ⟨[.slice p n cap]⟩ 36 (0, 0)) :: Li 0 y0) w fun v L => ∃ y, I n y ∧ L = (l, o) :: (cb, .cells ⟨[.slice p n cap]⟩ 36 (0, 0)) :: Li n y := by
  subst hn
  refine enterK (tb := tb) Tryz.func127 rfl Tryz.ntmps127 rfl ?_
  repeat' (first | (apply R.is1; first | (apply R.isBin; first | (apply R.pure; exact rfl; first | (apply Ok1.add64; exact rfl; exact rfl; omega; omega) | (apply Ok1.lss_t; exact rfl; exact rfl; omega) | (apply Ok1.lss_f; exact rfl; exact rfl; omega)) | (apply R.lss rfl rfl rfl <;> intro)) | (apply R.isCall; first | (apply R.pure; exact rfl; first | (apply Ok1.lenS; (iterate 3 exact rfl)) | (apply Ok1.lenStr; (iterate 3 exact rfl)) | (apply Ok1.lenMm; (iterate 3 exact rfl); (focus ((repeat' (first | exact At.head | apply At.tail | apply At.right)); done))) | (apply Ok1.lenM_nil; (iterate 3 exact rfl)))) | (apply R.pure; exact rfl; first | (apply Ok1.move; exact rfl) | (apply Ok1.load; exact rfl; first | (apply Ld.own1; exact rfl; exact rfl; (focus ((repeat' (first | exact At.head | apply At.tail | apply At.right)); done)); exact rfl) | (apply Ld.ownk; exact rfl; exact rfl; (focus ((repeat' (first | exact At.head | apply At.tail | apply At.right)); done)); exact rfl) | (apply Ld.old1; exact rfl; exact rfl; assumption; (first | exact List.not_mem_nil | assumption)) | (apply Ld.blk1; exact rfl; exact rfl; assumption; (first | exact List.not_mem_nil | assumption); exact rfl) | (apply Ld.blkk; exact rfl; exact rfl; assumption; (first | exact List.not_mem_nil | assumption); exact rfl)) | (apply Ok1.indexAddr; (iterate 5 exact rfl); omega; omega) | (apply Ok1.indexAddrA; (iterate 5 exact rfl); omega; omega) | (apply Ok1.not_t; exact rfl) | (apply Ok1.not_f; exact rfl) | (apply Ok1.not; exact rfl) | (apply Ok1.neg; exact rfl)) | (apply R.alloc; (iterate 3 exact rfl); intro)) | (apply R.is0; first | (apply R.store; (iterate 6 exact rfl); (focus ((repeat' (first | exact Upd.head | apply Upd.tail | apply Upd.right)); done)); exact rfl) | fail) | (apply R.isG; first | (apply R.guard_run; exact rfl; exact rfl) | (apply R.guard_not; (iterate 3 exact rfl)) | (apply R.guard_not0; exact rfl; exact rfl) | (apply R.guard_un; (iterate 3 exact rfl)) | (apply R.guard_un0; exact rfl; exact rfl) | (apply R.guard rfl rfl ?_ (fun h => ⟨rfl, ?_⟩) <;> try intro)) | apply R.nil | (apply T.is; first | apply T.seq | apply T.region | apply T.block | apply T.scope | apply T.label | apply T.skip | apply T.exit | apply T.ret | (apply T.cond_t; exact rfl) | (apply T.cond_f; exact rfl) | (apply T.cond_h; exact rfl; assumption) | (apply T.cond_n; exact rfl; assumption) | (apply T.cond rfl <;> intro)) | apply Rnd.step)
  apply T.loopK (α := Nat × β) (I := fun x => x.1 ≤ xs.length ∧ I x.1 x.2) (σi := fun x => [(0, .func (.yield l) #[] #[]), (5, .slice p xs.length cap), (6, .int .i64 xs.length), (7, .int .i64 x.1)])
    (Li := fun x => (l, o) :: (cb, .cells ⟨[.slice p xs.length cap]⟩ 36 (0, 0)) :: (Li x.1 x.2 ++ [])) (μ := fun x => xs.length - x.1) (i0 := (0, y0))
  · exact ⟨Nat.zero_le _, h0⟩
  · exact ⟨rfl, rfl, rfl, rfl, trivial⟩
  · simp only [List.append_nil]
    (focus ((repeat' (first | exact Keep.nil _ | exact Ext.one _ _ | exact Ext.here _ _ | exact Ext.all _ | apply Keep.cons | apply Keep.app | apply Keep.last | apply Ext.cons | apply Ext.app)); done))
  · rintro ⟨i, y⟩ ⟨hi, hI⟩
    simp only at hi hI ⊢
    rcases Nat.lt_or_ge i xs.length with hlt | hge
    · obtain ⟨x, hx⟩ : ∃ x, xs[i]? = some x := ⟨_, List.getElem?_eq_getElem (by omega)⟩
      have hne : xs ≠ [] := by intro e; rw [e] at hlt; simp at hlt
      obtain ⟨b, ob, hpe, H⟩ := hp.at hx
      replace H := H 4 Cl.v_len4
      have hnb : b ∉ blks ((l, o) :: (cb, .cells ⟨[.slice p xs.length cap]⟩ 36 (0, 0)) :: Li 0 y0) := by
        have := hoff hne
        rw [hpe] at this
        exact this _ rfl
      repeat' (first | (apply RI.yield; (iterate 3 exact rfl); (focus (exact Ext.two _ (Ext.cons _ (Ext.one _ _)) (Ext.cons _ (Ext.cons _ (Ext.here _ _))))); intro w1 hw1; exact hY i y x w1 hI hx; rintro v Lo ⟨rfl, L5, ⟨y', hI', rfl⟩, rfl⟩) | (apply R.is1; first | (apply R.isBin; first | (apply R.pure; exact rfl; first | (apply Ok1.add64; exact rfl; exact rfl; omega; omega) | (apply Ok1.lss_t; exact rfl; exact rfl; omega) | (apply Ok1.lss_f; exact rfl; exact rfl; omega)) | (apply R.lss rfl rfl rfl <;> intro)) | (apply R.isCall; first | (apply R.pure; exact rfl; first | (apply Ok1.lenS; (iterate 3 exact rfl)) | (apply Ok1.lenStr; (iterate 3 exact rfl)) | (apply Ok1.lenMm; (iterate 3 exact rfl); (focus ((repeat' (first | exact At.head | apply At.tail | apply At.right)); done))) | (apply Ok1.lenM_nil; (iterate 3 exact rfl)))) | (apply R.pure; exact rfl; first | (apply Ok1.indexAddrP; (iterate 4 exact rfl); exact hpe; exact rfl; omega; omega) | (apply Ok1.load; exact rfl; apply Ld.rowk0 H; exact rfl; exact hnb; (iterate 3 exact rfl)) | (apply Ok1.move; exact rfl) | (apply Ok1.load; exact rfl; first | (apply Ld.own1; exact rfl; exact rfl; (focus ((repeat' (first | exact At.head | apply At.tail | apply At.right)); done)); exact rfl) | (apply Ld.ownk; exact rfl; exact rfl; (focus ((repeat' (first | exact At.head | apply At.tail | apply At.right)); done)); exact rfl) | (apply Ld.old1; exact rfl; exact rfl; assumption; (first | exact List.not_mem_nil | assumption)) | (apply Ld.blk1; exact rfl; exact rfl; assumption; (first | exact List.not_mem_nil | assumption); exact rfl) | (apply Ld.blkk; exact rfl; exact rfl; assumption; (first | exact List.not_mem_nil | assumption); exact rfl)) | (apply Ok1.indexAddr; (iterate 5 exact rfl); omega; omega) | (apply Ok1.indexAddrA; (iterate 5 exact rfl); omega; omega) | (apply Ok1.not_t; exact rfl) | (apply Ok1.not_f; exact rfl) | (apply Ok1.not; exact rfl) | (apply Ok1.neg; exact rfl)) | (apply R.alloc; (iterate 3 exact rfl); intro)) | (apply R.is0; first | (apply R.store; (iterate 6 exact rfl); (focus ((repeat' (first | exact Upd.head | apply Upd.tail | apply Upd.right)); done)); exact rfl) | fail) | (apply R.isG; first | (apply R.guard_run; exact rfl; exact rfl) | (apply R.guard_not; (iterate 3 exact rfl)) | (apply R.guard_not0; exact rfl; exact rfl) | (apply R.guard_un; (iterate 3 exact rfl)) | (apply R.guard_un0; exact rfl; exact rfl) | (apply R.guard rfl rfl ?_ (fun h => ⟨rfl, ?_⟩) <;> try intro)) | apply R.nil | (apply T.is; first | apply T.regionIn (id := 3) | apply T.seq | apply T.region | apply T.block | apply T.scope | apply T.label | apply T.skip | apply T.exit | apply T.ret | (apply T.cond_t; exact rfl) | (apply T.cond_f; exact rfl) | (apply T.cond_h; exact rfl; assumption) | (apply T.cond_n; exact rfl; assumption) | (apply T.cond rfl <;> intro)) | apply Rnd.step | (apply RI.step; exact rfl) | apply RI.nil)
      refine ⟨(i + 1, y'), ⟨by simp only; omega, hI'⟩, by simp only; omega, ⟨rfl, rfl, rfl, rfl, trivial⟩, ?_⟩
      simp only [List.append_nil, List.cons_append]
      (focus ((repeat' (first | exact Keep.nil _ | exact Ext.one _ _ | exact Ext.here _ _ | exact Ext.all _ | apply Keep.cons | apply Keep.app | apply Keep.last | apply Ext.cons | apply Ext.app)); done))
    · have him : i = xs.length := by omega
      subst him
      repeat' (first | (apply R.is1; first | (apply R.isBin; first | (apply R.pure; exact rfl; first | (apply Ok1.add64; exact rfl; exact rfl; omega; omega) | (apply Ok1.lss_t; exact rfl; exact rfl; omega) | (apply Ok1.lss_f; exact rfl; exact rfl; omega)) | (apply R.lss rfl rfl rfl <;> intro)) | (apply R.isCall; first | (apply R.pure; exact rfl; first | (apply Ok1.lenS; (iterate 3 exact rfl)) | (apply Ok1.lenStr; (iterate 3 exact rfl)) | (apply Ok1.lenMm; (iterate 3 exact rfl); (focus ((repeat' (first | exact At.head | apply At.tail | apply At.right)); done))) | (apply Ok1.lenM_nil; (iterate 3 exact rfl)))) | (apply R.pure; exact rfl; first | (apply Ok1.move; exact rfl) | (apply Ok1.load; exact rfl; first | (apply Ld.own1; exact rfl; exact rfl; (focus ((repeat' (first | exact At.head | apply At.tail | apply At.right)); done)); exact rfl) | (apply Ld.ownk; exact rfl; exact rfl; (focus ((repeat' (first | exact At.head | apply At.tail | apply At.right)); done)); exact rfl) | (apply Ld.old1; exact rfl; exact rfl; assumption; (first | exact List.not_mem_nil | assumption)) | (apply Ld.blk1; exact rfl; exact rfl; assumption; (first | exact List.not_mem_nil | assumption); exact rfl) | (apply Ld.blkk; exact rfl; exact rfl; assumption; (first | exact List.not_mem_nil | assumption); exact rfl)) | (apply Ok1.indexAddr; (iterate 5 exact rfl); omega; omega) | (apply Ok1.indexAddrA; (iterate 5 exact rfl); omega; omega) | (apply Ok1.not_t; exact rfl) | (apply Ok1.not_f; exact rfl) | (apply Ok1.not; exact rfl) | (apply Ok1.neg; exact rfl)) | (apply R.alloc; (iterate 3 exact rfl); intro)) | (apply R.is0; first | (apply R.store; (iterate 6 exact rfl); (focus ((repeat' (first | exact Upd.head | apply Upd.tail | apply Upd.right)); done)); exact rfl) | fail) | (apply R.isG; first | (apply R.guard_run; exact rfl; exact rfl) | (apply R.guard_not; (iterate 3 exact rfl)) | (apply R.guard_not0; exact rfl; exact rfl) | (apply R.guard_un; (iterate 3 exact rfl)) | (apply R.guard_un0; exact rfl; exact rfl) | (apply R.guard rfl rfl ?_ (fun h => ⟨rfl, ?_⟩) <;> try intro)) | apply R.nil | (apply T.is; first | apply T.seq | apply T.region | apply T.block | apply T.scope | apply T.label | apply T.skip | apply T.exit | apply T.ret | (apply T.cond_t; exact rfl) | (apply T.cond_f; exact rfl) | (apply T.cond_h; exact rfl; assumption) | (apply T.cond_n; exact rfl; assumption) | (apply T.cond rfl <;> intro)) | apply Rnd.step)
      (apply RetOk.n)
      exact ⟨_, by simp only [List.append_nil]; (focus ((repeat' (first | exact Keep.nil _ | exact Ext.one _ _ | exact Ext.here _ _ | exact Ext.all _ | apply Keep.cons | apply Keep.app | apply Keep.last | apply Ext.cons | apply Ext.app)); done)), y, hI, rfl⟩
theorem cappendSeq_ok (cb : Nat) (p : Option Addr) (n cap : Nat) (xs : List Cl) (hn : n = xs.length) (hbig : n ≤ 1000000) (w : World) (hp : RdSl w p Cl.v xs) (hoff : xs ≠ [] → Off p [cb]) :
    CallM Tryz.prog 145 [.slice none 0 0, .func (.func 127) #[] #[.pointer (some ⟨cb, 0, none⟩)]] [(cb, .cells ⟨[.slice p n cap]⟩ 36 (0, 0))] w fun v L => ∃ ov, OvOk 4 ov n (fl Cl.v xs) ∧ v = slV ov n ∧ L = (cb, .cells ⟨[.slice p n cap]⟩ 36 (0, 0)) :: blkL 71 ov (fl Cl.v xs) := by
  subst hn
  refine enterF (tb := tb) Tryz.func145 rfl Tryz.ntmps145 rfl ?_
  repeat' (first | (apply TF.range (gf := 127); exact rfl; exact rfl) | apply TF.seq | (apply R.is1; first | (apply R.pure; exact rfl; first | (apply Ok1.move; exact rfl) | (apply Ok1.load; exact rfl; first | (apply Ld.own1; exact rfl; exact rfl; (focus ((repeat' (first | exact At.head | apply At.tail | apply At.right)); done)); exact rfl) | (apply Ld.ownk; exact rfl; exact rfl; (focus ((repeat' (first | exact At.head | apply At.tail | apply At.right)); done)); exact rfl) | (apply Ld.old1; exact rfl; exact rfl; assumption; (first | exact List.not_mem_nil | assumption)) | (apply Ld.blk1; exact rfl; exact rfl; assumption; (first | exact List.not_mem_nil | assumption); exact rfl) | (apply Ld.blkk; exact rfl; exact rfl; assumption; (first | exact List.not_mem_nil | assumption); exact rfl)) | (apply Ok1.assign; exact rfl)) | (apply R.box; (iterate 3 exact rfl); intro) | (apply R.alloc; (iterate 3 exact rfl); intro) | (apply R.buildSlice; (iterate 12 exact rfl); intro)) | (apply R.is0; first | (apply R.store; (iterate 6 exact rfl); (focus ((repeat' (first | exact Upd.head | apply Upd.tail | apply Upd.right)); done)); exact rfl) | fail) | (apply R.isG; first | (apply R.guard_run; exact rfl; exact rfl) | (apply R.guard_not; (iterate 3 exact rfl)) | (apply R.guard_not0; exact rfl; exact rfl) | (apply R.guard_un; (iterate 3 exact rfl)) | (apply R.guard_un0; exact rfl; exact rfl) | (apply R.guard rfl rfl ?_ (fun h => ⟨rfl, ?_⟩) <;> try intro)) | apply R.nil | (apply T.is; first | apply T.seq | apply T.region | apply T.block | apply T.scope | apply T.label | apply T.skip | apply T.exit | apply T.ret | (apply T.cond_t; exact rfl) | (apply T.cond_f; exact rfl) | (apply T.cond_h; exact rfl; assumption) | (apply T.cond_n; exact rfl; assumption) | (apply T.cond rfl <;> intro)) | apply Rnd.step | (apply RI.step; exact rfl) | apply RI.nil)
  rename_i out
  obtain ⟨Li, hLi⟩ : ∃ Li : Nat → Ov → Lst, Li = fun i ov => (out, .cells ⟨[slV ov i]⟩ 36 (0, 0)) :: blkL 71 ov (fl Cl.v (xs.take i)) := ⟨_, rfl⟩
  refine ⟨⟨_, (cb, .cells ⟨[.slice p xs.length cap]⟩ 36 (0, 0)) :: Li 0 none, [], fun Lb => ∃ ov, OvOk 4 ov xs.length (fl Cl.v xs) ∧ Lb = (cb, .cells ⟨[.slice p xs.length cap]⟩ 36 (0, 0)) :: Li xs.length ov, ?_, rfl, ?_, ?_⟩⟩
  · subst hLi
    rw [List.append_nil]
    change Keep _ [_, _]
    (focus ((repeat' (first | exact Keep.nil _ | exact Ext.one _ _ | exact Ext.here _ _ | exact Ext.all _ | apply Keep.cons | apply Keep.app | apply Keep.last | apply Ext.cons | apply Ext.app)); done))
  · rintro l rec w1 hok ⟨L2, hw1⟩
    have hrd := hp.chg' hw1.chg hoff
    have hof2 := RdSl.old Cl.v_len4 (by decide) hp hoff hw1 (Ext.here _ _)
    refine (cvalues1_ok (fun i ov => i ≤ xs.length ∧ OvOk 4 ov i (fl Cl.v (xs.take i))) Li l _ cb p xs.length cap xs rfl (by omega) none ⟨Nat.zero_le _, OvOk.start 4⟩ ?_ w1 hrd hof2).to9 ?_
    · intro i ov x w2 ⟨hi, hI⟩ hx
      have hlt : i < xs.length := (List.getElem?_eq_some_iff.1 hx).1
      subst hLi
      apply YieldM.of (tb := tb) hok.mod hok.params (blt_lt rfl) hok.assign hok.body hok.state hok.pending
      repeat' (first | fail | (apply R.is1; first | (apply R.pure; exact rfl; first | (apply Ok1.move; exact rfl) | (apply Ok1.load; exact rfl; first | (apply Ld.own1; exact rfl; exact rfl; (focus ((repeat' (first | exact At.head | apply At.tail | apply At.right)); done)); exact rfl) | (apply Ld.ownk; exact rfl; exact rfl; (focus ((repeat' (first | exact At.head | apply At.tail | apply At.right)); done)); exact rfl) | (apply Ld.old1; exact rfl; exact rfl; assumption; (first | exact List.not_mem_nil | assumption)) | (apply Ld.blk1; exact rfl; exact rfl; assumption; (first | exact List.not_mem_nil | assumption); exact rfl) | (apply Ld.blkk; exact rfl; exact rfl; assumption; (first | exact List.not_mem_nil | assumption); exact rfl)) | (apply Ok1.assign; exact rfl)) | (apply R.box; (iterate 3 exact rfl); intro) | (apply R.alloc; (iterate 3 exact rfl); intro) | (apply R.buildSlice; (iterate 12 exact rfl); intro)) | (apply R.is0; first | (apply R.store; (iterate 6 exact rfl); (focus ((repeat' (first | exact Upd.head | apply Upd.tail | apply Upd.right)); done)); exact rfl) | fail) | (apply R.isG; first | (apply R.guard_run; exact rfl; exact rfl) | (apply R.guard_not; (iterate 3 exact rfl)) | (apply R.guard_not0; exact rfl; exact rfl) | (apply R.guard_un; (iterate 3 exact rfl)) | (apply R.guard_un0; exact rfl; exact rfl) | (apply R.guard rfl rfl ?_ (fun h => ⟨rfl, ?_⟩) <;> try intro)) | apply R.nil | (apply T.is; first | apply T.seq | apply T.region | apply T.block | apply T.scope | apply T.label | apply T.skip | apply T.exit | apply T.ret | (apply T.cond_t; exact rfl) | (apply T.cond_f; exact rfl) | (apply T.cond_h; exact rfl; assumption) | (apply T.cond_n; exact rfl; assumption) | (apply T.cond rfl <;> intro)) | apply Rnd.step | (apply RI.step; exact rfl) | apply RI.nil)
      refine ⟨_, .cons (Ext.cons _ (Ext.one _ _)) (.last (.all _)), ?_⟩
      repeat' (first | fail | (apply R.is1; first | (apply R.isCall; first | (apply R.append1; (iterate 12 exact rfl); (focus ((repeat' (first | exact OwnAt.mid hI | exact OwnAt.base hI | exact OwnAt.nil _ | apply OwnAt.tail | apply OwnAt.right)); done)); (focus ((repeat' (first | exact At.head | apply At.tail | apply At.right)); done)); exact rfl; exact rfl; omega; omega; intro b2 j2 k2 hj2)) | (apply R.pure; exact rfl; first | (apply Ok1.move; exact rfl) | (apply Ok1.load; exact rfl; first | (apply Ld.own1; exact rfl; exact rfl; (focus ((repeat' (first | exact At.head | apply At.tail | apply At.right)); done)); exact rfl) | (apply Ld.ownk; exact rfl; exact rfl; (focus ((repeat' (first | exact At.head | apply At.tail | apply At.right)); done)); exact rfl) | (apply Ld.old1; exact rfl; exact rfl; assumption; (first | exact List.not_mem_nil | assumption)) | (apply Ld.blk1; exact rfl; exact rfl; assumption; (first | exact List.not_mem_nil | assumption); exact rfl) | (apply Ld.blkk; exact rfl; exact rfl; assumption; (first | exact List.not_mem_nil | assumption); exact rfl)) | (apply Ok1.assign; exact rfl)) | (apply R.box; (iterate 3 exact rfl); intro) | (apply R.alloc; (iterate 3 exact rfl); intro) | (apply R.buildSlice; (iterate 12 exact rfl); intro)) | (apply R.is0; first | (apply R.store; (iterate 6 exact rfl); (focus ((repeat' (first | exact Upd.head | apply Upd.tail | apply Upd.right)); done)); exact rfl) | fail) | (apply R.isG; first | (apply R.guard_run; exact rfl; exact rfl) | (apply R.guard_not; (iterate 3 exact rfl)) | (apply R.guard_not0; exact rfl; exact rfl) | (apply R.guard_un; (iterate 3 exact rfl)) | (apply R.guard_un0; exact rfl; exact rfl) | (apply R.guard rfl rfl ?_ (fun h => ⟨rfl, ?_⟩) <;> try intro)) | apply R.nil | (apply T.is; first | apply T.seq | apply T.region | apply T.block | apply T.scope | apply T.label | apply T.skip | apply T.exit | apply T.ret | (apply T.cond_t; exact rfl) | (apply T.cond_f; exact rfl) | (apply T.cond_h; exact rfl; assumption) | (apply T.cond_n; exact rfl; assumption) | (apply T.cond rfl <;> intro)) | apply Rnd.step | (apply RI.step; exact rfl) | apply RI.nil)
      have hs : fl Cl.v (xs.take (i + 1)) = fl Cl.v (xs.take i) ++ x.v := fl_take hx
      refine ⟨(out, .cells ⟨[slV (some (b2, j2, k2)) (i + 1)]⟩ 36 (0, 0)) :: blkL 71 (some (b2, j2, k2)) (fl Cl.v (xs.take (i + 1))), ?_, some (b2, j2, k2), ⟨by omega, ?_⟩, rfl⟩
      · rw [hs]
        (focus ((repeat' (first | exact Keep.nil _ | exact Ext.one _ _ | exact Ext.here _ _ | exact Ext.all _ | apply Keep.cons | apply Keep.app | apply Keep.last | apply Ext.cons | apply Ext.app)); done))
      · rw [hs]
        exact hI.some (b := b2) (ys := x.v) (m := 1) rfl hj2
    · rintro v L ⟨ov, ⟨_, h2⟩, rfl⟩
      rw [List.take_length] at h2
      exact ⟨_, ⟨ov, h2, rfl⟩, rfl⟩
  · rintro D Lb ⟨ov, h2, rfl⟩
    subst hLi
    simp only [List.cons_append, List.append_nil, List.take_length]
    repeat' (first | apply TD.seq | apply TD.region | apply TD.ret | (apply R.is1; first | (apply R.pure; exact rfl; first | (apply Ok1.move; exact rfl) | (apply Ok1.load; exact rfl; first | (apply Ld.own1; exact rfl; exact rfl; (focus ((repeat' (first | exact At.head | apply At.tail | apply At.right)); done)); exact rfl) | (apply Ld.ownk; exact rfl; exact rfl; (focus ((repeat' (first | exact At.head | apply At.tail | apply At.right)); done)); exact rfl) | (apply Ld.old1; exact rfl; exact rfl; assumption; (first | exact List.not_mem_nil | assumption)) | (apply Ld.blk1; exact rfl; exact rfl; assumption; (first | exact List.not_mem_nil | assumption); exact rfl) | (apply Ld.blkk; exact rfl; exact rfl; assumption; (first | exact List.not_mem_nil | assumption); exact rfl)) | (apply Ok1.assign; exact rfl)) | (apply R.box; (iterate 3 exact rfl); intro) | (apply R.alloc; (iterate 3 exact rfl); intro) | (apply R.buildSlice; (iterate 12 exact rfl); intro)) | (apply R.is0; first | (apply R.store; (iterate 6 exact rfl); (focus ((repeat' (first | exact Upd.head | apply Upd.tail | apply Upd.right)); done)); exact rfl) | fail) | (apply R.isG; first | (apply R.guard_run; exact rfl; exact rfl) | (apply R.guard_not; (iterate 3 exact rfl)) | (apply R.guard_not0; exact rfl; exact rfl) | (apply R.guard_un; (iterate 3 exact rfl)) | (apply R.guard_un0; exact rfl; exact rfl) | (apply R.guard rfl rfl ?_ (fun h => ⟨rfl, ?_⟩) <;> try intro)) | apply R.nil | (apply T.is; first | apply T.seq | apply T.region | apply T.block | apply T.scope | apply T.label | apply T.skip | apply T.exit | apply T.ret | (apply T.cond_t; exact rfl) | (apply T.cond_f; exact rfl) | (apply T.cond_h; exact rfl; assumption) | (apply T.cond_n; exact rfl; assumption) | (apply T.cond rfl <;> intro)) | apply Rnd.step | (apply RI.step; exact rfl) | apply RI.nil)
    refine ⟨rfl, _, _, rfl, ?_, ov, h2, rfl, rfl⟩
    (focus ((repeat' (first | exact Keep.nil _ | exact Ext.one _ _ | exact Ext.here _ _ | exact Ext.all _ | apply Keep.cons | apply Keep.app | apply Keep.last | apply Ext.cons | apply Ext.app)); done))
theorem ccollect_ok (cb : Nat) (p : Option Addr) (n cap : Nat) (xs : List Cl) (hn : n = xs.length) (hbig : n ≤ 1000000) (w : World) (hp : RdSl w p Cl.v xs) (hoff : xs ≠ [] → Off p [cb]) :
    CallM Tryz.prog 125 [.func (.func 127) #[] #[.pointer (some ⟨cb, 0, none⟩)]] [(cb, .cells ⟨[.slice p n cap]⟩ 36 (0, 0))] w fun v L => ∃ ov, OvOk 4 ov n (fl Cl.v xs) ∧ v = slV ov n ∧ L = (cb, .cells ⟨[.slice p n cap]⟩ 36 (0, 0)) :: blkL 71 ov (fl Cl.v xs) := by
  have h := fun w1 (hc : Chg [cb] w w1) => cappendSeq_ok cb p n cap xs hn hbig w1 (hp.chg' hc hoff) hoff
  refine enterK (tb := tb) Tryz.func125 rfl Tryz.ntmps125 rfl ?_
  repeat' (first | (apply R.is1; first | (apply R.isCall; first | (apply R.callE (vs := [.slice none 0 0, .func (.func 127) #[] #[.pointer (some ⟨cb, 0, none⟩)]]); (iterate 3 exact rfl); exact Ext.all _; intro w1 hw1; exact h w1 hw1.chg; rintro v Lo ⟨ov, hov, rfl, rfl⟩)) | (apply R.pure; exact rfl; first | (apply Ok1.move; exact rfl) | (apply Ok1.assign; exact rfl))) | (apply R.is0; first | fail) | (apply R.isG; first | (apply R.guard_run; exact rfl; exact rfl) | (apply R.guard_not; (iterate 3 exact rfl)) | (apply R.guard_not0; exact rfl; exact rfl) | (apply R.guard_un; (iterate 3 exact rfl)) | (apply R.guard_un0; exact rfl; exact rfl) | (apply R.guard rfl rfl ?_ (fun h => ⟨rfl, ?_⟩) <;> try intro)) | apply R.nil | (apply T.is; first | apply T.seq | apply T.region | apply T.block | apply T.scope | apply T.label | apply T.skip | apply T.exit | apply T.ret | (apply T.cond_t; exact rfl) | (apply T.cond_f; exact rfl) | (apply T.cond_h; exact rfl; assumption) | (apply T.cond_n; exact rfl; assumption) | (apply T.cond rfl <;> intro)) | apply Rnd.step)
  (apply RetOk.t; exact rfl)
  exact ⟨_, by (focus ((repeat' (first | exact Keep.nil _ | exact Ext.one _ _ | exact Ext.here _ _ | exact Ext.all _ | apply Keep.cons | apply Keep.app | apply Keep.last | apply Ext.cons | apply Ext.app)); done)), ov, hov, rfl, rfl⟩
end Go.Proofs.YtplhnkmmhndkjaaGreat
set_option linter.unusedSimpArgs false
set_option linter.unusedVariables false
namespace Go.Proofs.YtplhnkmmhndkjaaGreat
open Go.RowKit Go.Shelf Go.Sort
def adj : List Cl → Bool
  | a :: b :: l => decide (a = b) || adj (b :: l)
  | _ => false
theorem cmpCl_tri {a b : Cl} (h1 : ¬ cmpCl a b < 0) (h2 : ¬ cmpCl b a < 0) : a = b := by
  rw [cmpCl_neg] at h1 h2
  unfold ltC at h1 h2
  cases a; cases b
  simp only [Cl.mk.injEq] at *
  omega
theorem adj_nodup : ∀ {l : List Cl}, (l.Pairwise fun x y => ¬ cmpCl y x < 0) → (adj l = false ↔ l.Nodup)
  | [], _ => by simp [adj]
  | [a], _ => by simp [adj]
  | a :: b :: l, h => by
    obtain ⟨h1, h2⟩ := List.pairwise_cons.1 h
    have ih := adj_nodup (l := b :: l) h2
    obtain ⟨h3, h4⟩ := List.pairwise_cons.1 h2
    simp only [adj, Bool.or_eq_false_iff, decide_eq_false_iff_not]
    rw [ih, List.nodup_cons (a := a)]
    refine ⟨fun ⟨hne, hnd⟩ => ⟨fun hm => ?_, hnd⟩, fun ⟨hm, hnd⟩ => ⟨fun e => hm (e ▸ List.mem_cons_self), hnd⟩⟩
    rcases List.mem_cons.1 hm with e | hm
    · exact hne e
    · exact hne (cmpCl_tri (h3 a hm) (h1 b List.mem_cons_self))
/-- Position by position. -/
theorem adj_iff : ∀ {l : List Cl}, adj l = false ↔ ∀ i, i + 1 < l.length → l[i]? ≠ l[i + 1]?
  | [] => by simp [adj]
  | [a] => by simp [adj]
  | a :: b :: l => by
    have ih := adj_iff (l := b :: l)
    simp only [adj, Bool.or_eq_false_iff, decide_eq_false_iff_not]
    rw [ih]
    constructor
    · rintro ⟨hne, h⟩ i hi
      cases i with
      | zero => simpa using hne
      | succ i => exact h i (by simpa using hi)
    · intro h
      refine ⟨fun e => h 0 (by simp) (by simp [e]), fun i hi => ?_⟩
      have := h (i + 1) (by simpa using hi)
      simpa using this
end Go.Proofs.YtplhnkmmhndkjaaGreat
set_option linter.unusedSimpArgs false
set_option linter.unusedVariables false
namespace Go.Proofs.YtplhnkmmhndkjaaGreat
open Go.RowKit Go.Shelf Go.Sort
set_option maxRecDepth 100000
theorem csorted_ok (cb : Nat) (p : Option Addr) (n cap : Nat) (xs : List Cl) (hn : n = xs.length) (hbig : n ≤ 1000) (w : World) (hp : RdSl w p Cl.v xs) (hoff : xs ≠ [] → Off p [cb]) :
    CallM Tryz.prog 110 [.func (.func 127) #[] #[.pointer (some ⟨cb, 0, none⟩)], .func (.func 80) #[] #[]] [(cb, .cells ⟨[.slice p n cap]⟩ 36 (0, 0))] w fun v L => ∃ ov ys, ys.Perm xs ∧ Asc cmpCl ys ∧ OvOk 4 ov n (fl Cl.v ys) ∧ v = slV ov n ∧ L = (cb, .cells ⟨[.slice p n cap]⟩ 36 (0, 0)) :: blkL 71 ov (fl Cl.v ys) := by
  subst hn
  have h := fun w1 (hc : Chg [cb] w w1) => ccollect_ok cb p xs.length cap xs rfl (by omega) w1 (hp.chg' hc hoff) hoff
  have hs := fun ov hov w1 => sortC_ok xs hbig ov hov w1
  refine enterK (tb := tb) Tryz.func110 rfl Tryz.ntmps110 rfl ?_
  repeat' (first | (apply R.is1; first | (apply R.isCall; first | (apply R.callE (vs := [.func (.func 127) #[] #[.pointer (some ⟨cb, 0, none⟩)]]); (iterate 3 exact rfl); exact Ext.all _; intro w1 hw1; exact h w1 hw1.chg; rintro v Lo ⟨ov, hov, rfl, rfl⟩) | (apply R.callE (vs := [slV ov xs.length, .func (.func 80) #[] #[]]); (iterate 3 exact rfl); exact Ext.cons _ (Ext.here _ _); intro w1 hw1; exact hs ov hov w1; rintro v Lo ⟨rfl, ys, hpm, hasc, rfl⟩)) | (apply R.pure; exact rfl; first | (apply Ok1.move; exact rfl) | (apply Ok1.assign; exact rfl))) | (apply R.is0; first | fail) | (apply R.isG; first | (apply R.guard_run; exact rfl; exact rfl) | (apply R.guard_not; (iterate 3 exact rfl)) | (apply R.guard_not0; exact rfl; exact rfl) | (apply R.guard_un; (iterate 3 exact rfl)) | (apply R.guard_un0; exact rfl; exact rfl) | (apply R.guard rfl rfl ?_ (fun h => ⟨rfl, ?_⟩) <;> try intro)) | apply R.nil | (apply T.is; first | apply T.seq | apply T.region | apply T.block | apply T.scope | apply T.label | apply T.skip | apply T.exit | apply T.ret | (apply T.cond_t; exact rfl) | (apply T.cond_f; exact rfl) | (apply T.cond_h; exact rfl; assumption) | (apply T.cond_n; exact rfl; assumption) | (apply T.cond rfl <;> intro)) | apply Rnd.step)
  (apply RetOk.t; exact rfl)
  have hl : (fl Cl.v ys).length = (fl Cl.v xs).length := by rw [fl_len Cl.v_len4, fl_len Cl.v_len4, hpm.length_eq]
  refine ⟨_, ?_, ov, ys, hpm, hasc, ⟨by rw [hl]; exact hov.1, hov.2⟩, rfl, rfl⟩
  (focus ((repeat' (first | exact Keep.nil _ | exact Ext.one _ _ | exact Ext.here _ _ | exact Ext.all _ | apply Keep.cons | apply Keep.app | apply Keep.last | apply Ext.cons | apply Ext.app)); done))
end Go.Proofs.YtplhnkmmhndkjaaGreat
set_option linter.unusedSimpArgs false
set_option linter.unusedVariables false
namespace Go.Proofs.YtplhnkmmhndkjaaGreat
open Go.RowKit Go.Shelf Go.Sort
set_option maxRecDepth 100000
theorem adj_short {ys : List Cl} (h : ys.length < 2) : adj ys = false := by
  match ys, h with
  | [], _ => rfl
  | [a], _ => rfl
theorem clv_inj9 {a b : Cl} : ([.int .i64 a.id, .int .i64 a.roles, .int .i64 a.exp, .int .i64 a.ser] : List Value) = [.int .i64 b.id, .int .i64 b.roles, .int .i64 b.exp, .int .i64 b.ser] ↔ a = b := by
  simp only [List.cons.injEq, Value.int.injEq, true_and, and_true]
  constructor
  · rintro ⟨h1, h2, h3, h4⟩
    cases a; cases b; simp_all
  · rintro h; simp [h]
theorem ccompact_ok (ys : List Cl) (hlen : ys.length ≤ 1000) (ov : Ov) (hov : OvOk 4 ov ys.length (fl Cl.v ys)) (w : World) :
    CallM Tryz.prog 109 [slV ov ys.length] (blkL 71 ov (fl Cl.v ys)) w fun v L => ∃ p m c, v = .slice p m c ∧ (m = ys.length ↔ adj ys = false) := by
  refine enterK (tb := tb) Tryz.func109 rfl Tryz.ntmps109 rfl ?_
  rw [slV_eq hov]
  rcases Nat.lt_or_ge ys.length 2 with h2 | h2
  · repeat' (first | (apply R.is1; first | (apply R.isBin; (apply R.pure; exact rfl; (apply Ok1.lss_t; exact rfl; exact rfl; omega))) | (apply R.isCall; (apply R.pure; exact rfl; (apply Ok1.lenS; (iterate 3 exact rfl)))) | (apply R.pure; exact rfl; first | (apply Ok1.move; exact rfl) | (apply Ok1.assign; exact rfl))) | apply R.nil | (apply T.is; first | apply T.seq | apply T.region | apply T.ret | (apply T.cond_t; exact rfl)))
    all_goals (apply RetOk.t; exact rfl)
    all_goals exact ⟨_, Keep.nil _, _, _, _, rfl, ⟨fun _ => adj_short h2, fun _ => rfl⟩⟩
  · obtain ⟨b, j, junk, rfl⟩ : ∃ b j junk, ov = some (b, j, junk) := by
      cases ov with
      | none => have := hov.2; omega
      | some x => exact ⟨_, _, _, rfl⟩
    repeat' (first | (apply R.is1; first | (apply R.isBin; (apply R.pure; exact rfl; (apply Ok1.lss_f; exact rfl; exact rfl; omega))) | (apply R.isCall; (apply R.pure; exact rfl; (apply Ok1.lenS; (iterate 3 exact rfl)))) | (apply R.pure; exact rfl; first | (apply Ok1.move; exact rfl) | (apply Ok1.assign; exact rfl))) | apply R.nil | (apply T.is; first | apply T.seq | apply T.region | apply T.block | apply T.skip | (apply T.cond_f; exact rfl)))
    apply T.loopK (α := Nat) (I := fun k => 1 ≤ k ∧ k ≤ ys.length ∧ ∀ i, i + 1 < k → ys[i]? ≠ ys[i + 1]?) (σi := fun k => [(0, .slice (some ⟨b, 0, none⟩) ys.length (ys.length + j)), (3, .int .i64 k)]) (Li := fun k => [(b, .cells ⟨fl Cl.v ys ++ junk⟩ 71 (0, 0))]) (μ := fun k => ys.length - k) (i0 := 1)
    · exact ⟨Nat.le_refl _, by omega, fun i hi => by omega⟩
    · exact ⟨rfl, rfl, trivial⟩
    · (focus ((repeat' (first | exact Keep.nil _ | exact Ext.one _ _ | apply Keep.cons)); done))
    · rintro k ⟨h1, hk, hne⟩
      rcases Nat.lt_or_ge k ys.length with hlt | hge
      · obtain ⟨r, hr⟩ : ∃ r, ys[k]? = some r := ⟨_, List.getElem?_eq_getElem (by omega)⟩
        obtain ⟨s, hs⟩ : ∃ s, ys[k - 1]? = some s := ⟨_, List.getElem?_eq_getElem (by omega)⟩
        have hk1 : (k : Int) - 1 = ((k - 1 : Nat) : Int) := by omega
        repeat' (first | (apply R.is1; first | (apply R.isBin; (apply R.pure; exact rfl; first | (apply Ok1.add64; exact rfl; exact rfl; omega; omega) | (apply Ok1.lss_t; exact rfl; exact rfl; omega))) | (apply R.isCall; (apply R.pure; exact rfl; (apply Ok1.lenS; (iterate 3 exact rfl)))) | (apply R.pure; exact rfl; first | (apply Ok1.move; exact rfl) | (apply Ok1.assign; exact rfl) | (apply Ok1.sliceFrom; (iterate 7 exact rfl); omega; omega; omega; omega; omega; (exact Or.inl rfl)))) | apply R.nil | (apply T.is; first | (apply T.drawC (id := 6) [0] (by decide); ((apply A.take 0; exact rfl; exact rfl; kernel_rfl; kernel_rfl; kernel_rfl; (apply Ok1.move; exact rfl)) <;> (apply A.take 1; exact rfl; exact rfl; kernel_rfl; kernel_rfl; kernel_rfl; (apply Ok1.move; exact rfl)) <;> (apply A.take 2; exact rfl; exact rfl; kernel_rfl; kernel_rfl; kernel_rfl; (apply Ok1.indexAddr; (iterate 5 exact rfl); omega; omega)) <;> (apply A.take 3; exact rfl; exact rfl; kernel_rfl; kernel_rfl; kernel_rfl; (apply Ok1.load; exact rfl; (apply Ld.ownrowk (f := 0); exact At.head; exact Cl.v_len4; exact hr; (focus ((simp; done))); (iterate 3 exact rfl)))) <;> (apply A.take 4; exact rfl; exact rfl; kernel_rfl; kernel_rfl; kernel_rfl; (apply Ok1.move; exact rfl)) <;> (apply A.take 5; exact rfl; exact rfl; kernel_rfl; kernel_rfl; kernel_rfl; (apply Ok1.move; exact rfl)) <;> (apply A.take 6; exact rfl; exact rfl; kernel_rfl; kernel_rfl; kernel_rfl; (apply Ok1.sub64; exact rfl; exact rfl; omega; omega)) <;> (apply A.take 7; exact rfl; exact rfl; kernel_rfl; kernel_rfl; kernel_rfl; (apply Ok1.indexAddr; (iterate 5 exact rfl); omega; omega)) <;> (apply A.take 8; exact rfl; exact rfl; kernel_rfl; kernel_rfl; kernel_rfl; (apply Ok1.load; exact rfl; (apply Ld.ownrowk (f := 0); exact At.head; exact Cl.v_len4; exact hs; (focus ((simp; done))); (iterate 3 exact rfl)))) <;> ((apply A.take 9; exact rfl; exact rfl; kernel_rfl; kernel_rfl; kernel_rfl; ((apply Ok1.eqlF; (iterate 7 exact rfl))); apply A.dec (t := 25); exact rfl; all_goals intro)) <;> (apply A.done; kernel_rfl))) | apply T.seq | apply T.region | apply T.block | apply T.skip | (apply T.cond_t; exact rfl) | (apply T.cond_f; exact rfl)))
        all_goals rename_i heq
        rotate_left
        · have hrs : ¬ r = s := fun e => heq (clv_inj9.2 e)
          refine ⟨k + 1, ⟨by omega, by omega, fun i hi => ?_⟩, by omega, ⟨rfl, rfl, trivial⟩, by (focus ((repeat' (first | exact Keep.nil _ | exact Ext.one _ _ | apply Keep.cons)); done))⟩
          rcases Nat.lt_or_ge (i + 1) k with h | h
          · exact hne i h
          · have hik : i = k - 1 := by omega
            have hik1 : i + 1 = k := by omega
            rw [hik1, hr, hik, hs]
            exact fun e => hrs (Option.some.inj e).symm
        · apply T.loopK (α := Nat × Nat × List Cl) (I := fun y => k ≤ y.1 ∧ y.1 ≤ k + y.2.1 - 1 ∧ 1 ≤ y.2.1 ∧ y.2.1 ≤ ys.length - k ∧ y.2.2.length = ys.length) (σi := fun y => [(0, .slice (some ⟨b, 0, none⟩) ys.length (ys.length + j)), (3, .int .i64 y.1), (4, .slice (some ⟨b, 0 + k * 4, none⟩) (ys.length - k) (ys.length + j - k)), (5, .int .i64 y.2.1)]) (Li := fun y => [(b, .cells ⟨fl Cl.v y.2.2 ++ junk⟩ 71 (0, 0))]) (μ := fun y => ys.length - k - y.2.1) (i0 := (k, 1, ys))
          · exact ⟨Nat.le_refl _, by simp only; omega, Nat.le_refl _, by simp only; omega, rfl⟩
          · exact ⟨rfl, rfl, rfl, rfl, trivial⟩
          · (focus ((repeat' (first | exact Keep.nil _ | exact Ext.one _ _ | apply Keep.cons)); done))
          · rintro ⟨k', k2, zs⟩ ⟨g1, g2, g3, g4, gz⟩
            simp only at g1 g2 g3 g4 gz ⊢
            rcases Nat.lt_or_ge k2 (ys.length - k) with glt | gge
            · obtain ⟨r2, hr2⟩ : ∃ r, zs[k + k2]? = some r := ⟨_, List.getElem?_eq_getElem (by omega)⟩
              obtain ⟨s2, hs2⟩ : ∃ r, zs[k + (k2 - 1)]? = some r := ⟨_, List.getElem?_eq_getElem (by omega)⟩
              repeat' (first | (apply R.is1; first | (apply R.isBin; (apply R.pure; exact rfl; first | (apply Ok1.add64; exact rfl; exact rfl; omega; omega) | (apply Ok1.lss_t; exact rfl; exact rfl; omega))) | (apply R.isCall; (apply R.pure; exact rfl; (apply Ok1.lenS; (iterate 3 exact rfl)))) | (apply R.pure; exact rfl; first | (apply Ok1.indexAddr; (iterate 5 exact rfl); omega; omega) | (apply Ok1.load; exact rfl; (apply Ld.ownrowk (f := 0); exact At.head; exact Cl.v_len4; exact hr2; (focus ((simp; omega))); (iterate 3 exact rfl))) | (apply Ok1.move; exact rfl) | (apply Ok1.assign; exact rfl))) | (apply R.is0; (apply R.store; (iterate 6 exact rfl); exact Upd.head; exact setE_row Cl.v_len4 (by omega) r2 junk)) | apply R.nil | (apply T.is; first | (apply T.drawC (id := 11) [0] (by decide); ((apply A.take 0; exact rfl; exact rfl; kernel_rfl; kernel_rfl; kernel_rfl; (apply Ok1.move; exact rfl)) <;> (apply A.take 1; exact rfl; exact rfl; kernel_rfl; kernel_rfl; kernel_rfl; (apply Ok1.move; exact rfl)) <;> (apply A.take 2; exact rfl; exact rfl; kernel_rfl; kernel_rfl; kernel_rfl; (apply Ok1.indexAddr; (iterate 5 exact rfl); omega; omega)) <;> (apply A.take 3; exact rfl; exact rfl; kernel_rfl; kernel_rfl; kernel_rfl; (apply Ok1.load; exact rfl; (apply Ld.ownrowk (f := 0); exact At.head; exact Cl.v_len4; exact hr2; (focus ((simp; omega))); (iterate 3 exact rfl)))) <;> (apply A.take 4; exact rfl; exact rfl; kernel_rfl; kernel_rfl; kernel_rfl; (apply Ok1.move; exact rfl)) <;> (apply A.take 5; exact rfl; exact rfl; kernel_rfl; kernel_rfl; kernel_rfl; (apply Ok1.move; exact rfl)) <;> (apply A.take 6; exact rfl; exact rfl; kernel_rfl; kernel_rfl; kernel_rfl; (apply Ok1.sub64; exact rfl; exact rfl; omega; omega)) <;> (apply A.take 7; exact rfl; exact rfl; kernel_rfl; kernel_rfl; kernel_rfl; (apply Ok1.indexAddr; (iterate 5 exact rfl); omega; omega)) <;> (apply A.take 8; exact rfl; exact rfl; kernel_rfl; kernel_rfl; kernel_rfl; (apply Ok1.load; exact rfl; (apply Ld.ownrowk (f := 0); exact At.head; exact Cl.v_len4; exact hs2; (focus ((simp; omega))); (iterate 3 exact rfl)))) <;> ((apply A.take 9; exact rfl; exact rfl; kernel_rfl; kernel_rfl; kernel_rfl; ((apply Ok1.neqF; (iterate 7 exact rfl))); apply A.dec (t := 44); exact rfl; all_goals intro)) <;> (apply A.done; kernel_rfl))) | apply T.seq | apply T.region | apply T.block | apply T.skip | (apply T.cond_t; exact rfl) | (apply T.cond_f; exact rfl)))
              · exact ⟨(k' + 1, k2 + 1, zs.set k' r2), ⟨by simp only; omega, by simp only; omega, by simp only; omega, by simp only; omega, by simp only [List.length_set]; exact gz⟩, by simp only; omega, ⟨rfl, rfl, rfl, rfl, trivial⟩, by (focus ((repeat' (first | exact Keep.nil _ | exact Ext.one _ _ | apply Keep.cons)); done))⟩
              · exact ⟨(k', k2 + 1, zs), ⟨g1, by simp only; omega, by simp only; omega, by simp only; omega, gz⟩, by simp only; omega, ⟨rfl, rfl, rfl, rfl, trivial⟩, by (focus ((repeat' (first | exact Keep.nil _ | exact Ext.one _ _ | apply Keep.cons)); done))⟩
            · obtain ⟨cs9, hcl⟩ : ∃ cs9, setE (fl Cl.v zs ++ junk) (0 + k' * 4) (List.replicate ((ys.length - k') * 4) (Value.int .i64 0)) = some cs9 := by
                have e : fl Cl.v zs ++ junk = fl Cl.v (zs.take k') ++ (fl Cl.v (zs.drop k') ++ junk) := by
                  unfold fl
                  rw [← List.append_assoc, ← List.flatten_append, ← List.map_append, List.take_append_drop]
                have hl : (fl Cl.v (zs.take k')).length = 0 + k' * 4 := by rw [fl_len Cl.v_len4, List.length_take]; omega
                exact ⟨_, by rw [e, ← hl]; exact setE_mid _ (by rw [List.length_replicate, List.length_append, fl_len Cl.v_len4, List.length_drop, gz]; omega)⟩
              have hrs : r = s := clv_inj9.1 heq
              have hadj : adj ys ≠ false := fun e => adj_iff.1 e (k - 1) (by omega) (by rw [hs, show k - 1 + 1 = k by omega, hr, hrs])
              repeat' (first | (apply R.is1; first | (apply R.isBin; (apply R.pure; exact rfl; (apply Ok1.lss_f; exact rfl; exact rfl; omega))) | (apply R.isCall; (apply R.pure; exact rfl; (apply Ok1.lenS; (iterate 3 exact rfl)))) | (apply R.pure; exact rfl; first | (apply Ok1.move; exact rfl) | (apply Ok1.assign; exact rfl) | (apply Ok1.sliceTo; (iterate 6 exact rfl); omega; omega; omega; (exact Or.inl rfl)) | (apply Ok1.sliceFrom; (iterate 7 exact rfl); omega; omega; omega; omega; omega; (exact Or.inl rfl)))) | (apply R.is0; (apply R.clearU (k := 4) (z0 := Value.int .i64 0); (iterate 4 exact rfl); decide; exact rfl; exact rfl; omega; exact Upd.head; exact hcl)) | apply R.nil | (apply T.is; first | apply T.seq | apply T.region | apply T.exit | apply T.ret | (apply T.cond_f; exact rfl)))
              (apply RetOk.t; exact rfl)
              exact ⟨_, Keep.nil _, _, _, _, rfl, ⟨fun e => by omega, fun e => absurd e hadj⟩⟩
      · have hm : k = ys.length := by omega
        subst hm
        repeat' (first | (apply R.is1; first | (apply R.isBin; (apply R.pure; exact rfl; (apply Ok1.lss_f; exact rfl; exact rfl; omega))) | (apply R.isCall; (apply R.pure; exact rfl; (apply Ok1.lenS; (iterate 3 exact rfl)))) | (apply R.pure; exact rfl; first | (apply Ok1.move; exact rfl) | (apply Ok1.assign; exact rfl))) | apply R.nil | (apply T.is; first | apply T.seq | apply T.region | apply T.exit | apply T.ret | (apply T.cond_f; exact rfl)))
        (apply RetOk.t; exact rfl)
        exact ⟨_, Keep.nil _, _, _, _, rfl, ⟨fun _ => adj_iff.2 hne, fun _ => rfl⟩⟩
end Go.Proofs.YtplhnkmmhndkjaaGreat
set_option linter.unusedSimpArgs false
set_option linter.unusedVariables false
namespace Go.Proofs.YtplhnkmmhndkjaaGreat
open Go.RowKit Go.Shelf Go.Sort
set_option maxRecDepth 100000
theorem jtwice_ok (p : Option Addr) (cap : Nat) (xs : List Cl) (hbig : xs.length ≤ 1000) (w : World) (hp : RdSl w p Cl.v xs) :
    CallM Tryz.prog 79 [.slice p xs.length cap, .func (.func 80) #[] #[]] [] w fun v L => v = .bool (decide (¬ xs.Nodup)) ∧ L = [] := by
  have hss := fun cb w1 hr ho => csorted_ok cb p xs.length cap xs rfl hbig w1 hr ho
  refine enterK (tb := tb) Tryz.func79 rfl Tryz.ntmps79 rfl ?_
  repeat' (first | (apply R.is1; first | (apply R.isBin; first | (apply R.pure; exact rfl; first | (apply Ok1.neq_t; exact rfl; exact rfl; omega) | (apply Ok1.neq_f; exact rfl; exact rfl; omega) | (apply Ok1.neqP; (iterate 5 exact rfl)) | (apply Ok1.neqM; (iterate 5 exact rfl)) | (apply Ok1.neqS; (iterate 5 exact rfl))) | (apply R.neq rfl rfl rfl <;> intro) | (apply R.neqF; (iterate 8 exact rfl); all_goals intro)) | (apply R.isCall; first | (apply R.callE (vs := [.slice p xs.length cap]); (iterate 3 exact rfl); exact Ext.none _; intro w1 hw1; exact cvalues_ok p xs.length cap w1; rintro v Lo ⟨cb, rfl, rfl⟩) | (apply R.callE (vs := [.func (.func 127) #[] #[.pointer (some ⟨cb, 0, none⟩)], .func (.func 80) #[] #[]]); (iterate 3 exact rfl); exact Ext.here _ _; intro w1 hw1; exact hss cb w1 (hp.chg' hw1.chg (fun _ => Off.nil _)) (RdSl.old Cl.v_len4 (by decide) hp (fun _ => Off.nil _) hw1 (Li := [(cb, .cells ⟨[.slice p xs.length cap]⟩ 36 (0, 0))]) (by (focus ((repeat' (first | exact Ext.none _ | exact Ext.one _ _ | exact Ext.here _ _ | exact Ext.all _ | apply Ext.cons | apply Ext.app | apply Ext.two)); done)))); rintro v Lo ⟨ov, ys, hpm, hasc, hov, rfl, rfl⟩; rw [← hpm.length_eq] at hov; have hcm := fun w1 => ccompact_ok ys (hpm.length_eq ▸ hbig) ov hov w1; rw [hpm.length_eq] at hcm) | (apply R.callE (vs := [slV ov xs.length]); (iterate 3 exact rfl); exact Ext.cons _ (Ext.here _ _); intro w1 hw1; exact hcm w1; rintro v Lo ⟨q, m, c, rfl, hm⟩; rw [adj_nodup hasc, hpm.nodup_iff] at hm; by_cases hmn : m = xs.length) | (apply R.pure; exact rfl; first | (apply Ok1.lenS; (iterate 3 exact rfl)) | (apply Ok1.lenStr; (iterate 3 exact rfl)) | (apply Ok1.lenMm; (iterate 3 exact rfl); (focus ((repeat' (first | exact At.head | apply At.tail | apply At.right)); done))) | (apply Ok1.lenM_nil; (iterate 3 exact rfl)))) | (apply R.pure; exact rfl; first | (apply Ok1.move; exact rfl) | (apply Ok1.assign; exact rfl))) | (apply R.is0; first | fail) | (apply R.isG; first | (apply R.guard_run; exact rfl; exact rfl) | (apply R.guard_not; (iterate 3 exact rfl)) | (apply R.guard_not0; exact rfl; exact rfl) | (apply R.guard_un; (iterate 3 exact rfl)) | (apply R.guard_un0; exact rfl; exact rfl) | (apply R.guard rfl rfl ?_ (fun h => ⟨rfl, ?_⟩) <;> try intro)) | apply R.nil | (apply T.is; first | apply T.seq | apply T.region | apply T.block | apply T.scope | apply T.label | apply T.skip | apply T.exit | apply T.ret | (apply T.cond_t; exact rfl) | (apply T.cond_f; exact rfl) | (apply T.cond_h; exact rfl; assumption) | (apply T.cond_n; exact rfl; assumption) | (apply T.cond rfl <;> intro)) | apply Rnd.step)
  all_goals (apply RetOk.t; exact rfl)
  all_goals refine ⟨_, Keep.nil _, ?_, rfl⟩
  · rw [decide_eq_false (p := ¬ xs.Nodup) (fun h => h (hm.1 hmn))]
  · rw [decide_eq_true (p := ¬ xs.Nodup) (fun h => hmn (hm.2 h))]
end Go.Proofs.YtplhnkmmhndkjaaGreat
set_option linter.unusedSimpArgs false
set_option linter.unusedVariables false
namespace Go.Proofs.YtplhnkmmhndkjaaGreat
open Go.RowKit Go.Shelf
set_option maxRecDepth 100000
/-- Gossip's cells. -/
def goC (D : List Value) (R P : Value) : List Value := D ++ [R, P]
theorem goC_len {D : List Value} (hD : D.length = 12) (R P : Value) : (goC D R P).length = 14 := by simp [goC, hD]
theorem goC_D {D : List Value} (hD : D.length = 12) (R P : Value) : subE (goC D R P) 0 12 = some D := subE_app _ _ hD
theorem goC_R {D : List Value} (hD : D.length = 12) (R P : Value) : (goC D R P)[12]? = some R := by
  rw [goC, List.getElem?_append_right (by omega), hD]; rfl
theorem goC_P {D : List Value} (hD : D.length = 12) (R P : Value) : (goC D R P)[13]? = some P := by
  rw [goC, List.getElem?_append_right (by omega), hD]; rfl
end Go.Proofs.YtplhnkmmhndkjaaGreat
set_option linter.unusedSimpArgs false
set_option linter.unusedVariables false
namespace Go.Proofs.YtplhnkmmhndkjaaGreat
open Go.RowKit Go.Shelf
set_option maxRecDepth 100000
/-- The first error of some rumours. -/
def rmE : List Rm → Int
  | [] => 0
  | r :: l => if r.chk ≠ 0 then r.chk else rmE l
theorem rmE_at : ∀ {rs : List Rm} {i : Nat} {r : Rm}, (∀ x ∈ rs.take i, x.chk = 0) → rs[i]? = some r → r.chk ≠ 0 → rmE rs = r.chk
  | [], i, r, _, h, _ => by simp at h
  | a :: l, 0, r, _, h, hc => by
    simp only [List.getElem?_cons_zero, Option.some.injEq] at h
    subst h
    simp only [rmE]
    rw [if_pos hc]
  | a :: l, i + 1, r, hp, h, hc => by
    have h0 : a.chk = 0 := hp a (by simp)
    simp only [rmE]
    rw [if_neg (by simp [h0])]
    exact rmE_at (fun x hx => hp x (by rw [List.take_succ_cons]; exact List.mem_cons_of_mem _ hx)) (by simpa using h) hc
theorem rmE_ok {rs : List Rm} (h : ∀ x ∈ rs, x.chk = 0) : rmE rs = 0 := by
  induction rs with
  | nil => rfl
  | cons a l ih =>
    simp only [rmE]
    rw [if_neg (by simp [h a])]
    exact ih fun x hx => h x (List.mem_cons_of_mem _ hx)
theorem chk_right {r : Rm} (h : r.chk = 0) : r.cl.right ∧ 0 ≤ r.kind ∧ r.kind < 3 ∧ 0 ≤ r.inc ∧ r.inc ≤ 2147483647 := by
  unfold Rm.chk at h
  split at h
  · omega
  · split at h
    · omega
    · rename_i h1 h2
      by_cases hr : r.cl.right
      · exact ⟨hr, by omega, by omega, by omega, by omega⟩
      · exact absurd (.inl hr) h2
def rmI (r : Rm) : List Int := r.kind :: (clI r.cl ++ [r.inc / 16777216, r.inc / 65536 % 256, r.inc / 256 % 256, r.inc % 256])
def rmsI (n : Nat) (rs : List Rm) : List Int := (n : Int) :: (rs.map rmI).flatten
theorem mbytes_ok (p : Option Addr) (cap : Nat) (rs : List Rm) (w : World) (hp : RdSl w p Rm.v rs) (hl : rs.length ≤ 20) :
    CallM Tryz.prog 42 [.slice p rs.length cap] [] w fun v L => (rmE rs ≠ 0 ∧ v = .tuple #[.slice none 0 0, .int .i64 (rmE rs)] ∧ L = []) ∨ rmE rs = 0 ∧ ∃ ov, OvOk 1 ov (1 + 14 * rs.length) (u8s (rmsI rs.length rs)) ∧ v = .tuple #[slV ov (1 + 14 * rs.length), .int .i64 0] ∧ L = blkL 5 ov (u8s (rmsI rs.length rs)) := by
  refine enterK (tb := tb) Tryz.func42 rfl Tryz.ntmps42 rfl ?_
  repeat' (first | (apply R.is1; first | (apply R.isBin; first | (apply R.pure; exact rfl; first | (apply Ok1.add64; exact rfl; exact rfl; omega; omega) | (apply Ok1.lss_t; exact rfl; exact rfl; omega) | (apply Ok1.lss_f; exact rfl; exact rfl; omega) | (apply Ok1.gtr_t; exact rfl; exact rfl; omega) | (apply Ok1.gtr_f; exact rfl; exact rfl; omega) | (apply Ok1.neq_t; exact rfl; exact rfl; omega) | (apply Ok1.neq_f; exact rfl; exact rfl; omega) | (apply Ok1.shr; exact rfl; exact rfl; omega; exact Nat.le_of_ble_eq_true rfl; (first | exact pwE1 | exact pwE2 | exact pwE3 | exact pwE4 | exact pwE5 | exact pwE6 | exact pwE7 | exact pwE8 | exact pwE16 | exact pwE24 | exact pwE32 | exact rfl)) | (apply Ok1.neqP; (iterate 5 exact rfl)) | (apply Ok1.neqM; (iterate 5 exact rfl)) | (apply Ok1.neqS; (iterate 5 exact rfl))) | (apply R.lss rfl rfl rfl <;> intro) | (apply R.gtr rfl rfl rfl <;> intro) | (apply R.neq rfl rfl rfl <;> intro) | (apply R.neqF; (iterate 8 exact rfl); all_goals intro)) | (apply R.isCall; first | (apply R.pure; exact rfl; first | (apply Ok1.lenS; (iterate 3 exact rfl)) | (apply Ok1.lenStr; (iterate 3 exact rfl)) | (apply Ok1.lenMm; (iterate 3 exact rfl); (focus ((repeat' (first | exact At.head | apply At.tail | apply At.right)); done))) | (apply Ok1.lenM_nil; (iterate 3 exact rfl)))) | (apply R.pure; exact rfl; first | (apply Ok1.move; exact rfl) | (apply Ok1.fieldAddr; (iterate 5 exact rfl)) | (apply Ok1.load; exact rfl; first | (apply Ld.own1; exact rfl; exact rfl; (focus ((repeat' (first | exact At.head | apply At.tail | apply At.right)); done)); exact rfl) | (apply Ld.ownk; exact rfl; exact rfl; (focus ((repeat' (first | exact At.head | apply At.tail | apply At.right)); done)); exact rfl) | (apply Ld.old1; exact rfl; exact rfl; assumption; (first | exact List.not_mem_nil | assumption)) | (apply Ld.blk1; exact rfl; exact rfl; assumption; (first | exact List.not_mem_nil | assumption); exact rfl) | (apply Ld.blkk; exact rfl; exact rfl; assumption; (first | exact List.not_mem_nil | assumption); exact rfl)) | (apply Ok1.assign; exact rfl) | (apply Ok1.indexAddr; (iterate 5 exact rfl); omega; omega) | (apply Ok1.indexAddrA; (iterate 5 exact rfl); omega; omega) | (apply Ok1.extract; exact rfl; exact rfl) | (apply Ok1.convI64; (iterate 5 exact rfl); omega; omega) | (apply Ok1.convU64; (iterate 5 exact rfl); omega; omega) | (apply Ok1.convU32; (iterate 5 exact rfl); omega; omega) | (apply Ok1.convU8; (iterate 5 exact rfl); omega; omega) | (apply Ok1.conv; (iterate 5 exact rfl))) | (apply R.alloc; (iterate 3 exact rfl); intro) | (apply R.buildSlice; (iterate 12 exact rfl); intro)) | (apply R.is0; first | (apply R.store; (iterate 6 exact rfl); (focus ((repeat' (first | exact Upd.head | apply Upd.tail | apply Upd.right)); done)); exact rfl) | fail) | (apply R.isG; first | (apply R.guard_run; exact rfl; exact rfl) | (apply R.guard_not; (iterate 3 exact rfl)) | (apply R.guard_not0; exact rfl; exact rfl) | (apply R.guard_un; (iterate 3 exact rfl)) | (apply R.guard_un0; exact rfl; exact rfl) | (apply R.guard rfl rfl ?_ (fun h => ⟨rfl, ?_⟩) <;> try intro)) | apply R.nil | (apply T.is; first | apply T.seq | apply T.region | apply T.block | apply T.scope | apply T.label | apply T.skip | apply T.exit | apply T.ret | (apply T.cond_t; exact rfl) | (apply T.cond_f; exact rfl) | (apply T.cond_h; exact rfl; assumption) | (apply T.cond_n; exact rfl; assumption) | (apply T.cond rfl <;> intro)) | apply Rnd.step)
  rename_i b0
  apply T.loopK (α := Nat × Ov) (I := fun y => y.1 ≤ rs.length ∧ (∀ x ∈ rs.take y.1, x.chk = 0) ∧ OvOk 1 y.2 (1 + 14 * y.1) (u8s (rmsI rs.length (rs.take y.1)))) (σi := fun y => [(4, slV y.2 (1 + 14 * y.1)), (17, .slice p rs.length cap), (18, .int .i64 rs.length), (19, .int .i64 y.1)]) (Li := fun y => blkL 5 y.2 (u8s (rmsI rs.length (rs.take y.1)))) (μ := fun y => rs.length - y.1) (i0 := (0, some (b0, 0, [])))
  · exact ⟨Nat.zero_le _, by simp, rfl, rfl⟩
  · exact ⟨rfl, rfl, rfl, rfl, trivial⟩
  · (focus ((repeat' (first | exact Keep.nil _ | exact Ext.one _ _ | exact Ext.here _ _ | exact Ext.all _ | apply Keep.cons | apply Keep.app | apply Keep.last | apply Ext.cons | apply Ext.app)); done))
  · rintro ⟨i, ov⟩ ⟨hi, hck, hov⟩
    simp only at hi hck hov ⊢
    rcases Nat.lt_or_ge i rs.length with hlt | hge
    · obtain ⟨r, hr⟩ : ∃ r, rs[i]? = some r := ⟨_, List.getElem?_eq_getElem (by omega)⟩
      obtain ⟨b, o, hpe, H⟩ := hp.at hr
      replace H := H 6 Rm.v_len
      have hmc := mcheck_ok r
      by_cases hc : r.chk = 0
      · obtain ⟨hrt, hk0, hk3, hi0, hi1⟩ := chk_right hc
        have hcb := fun w1 => clBytes_ok r.cl hrt w1
        rw [hc] at hmc
        generalize hB : rmsI rs.length (rs.take i) = B at *
        generalize hC : clI r.cl = C at *
        repeat' (first | (apply R.is1; first | (apply R.isBin; first | (apply R.pure; exact rfl; first | (apply Ok1.add64; exact rfl; exact rfl; omega; omega) | (apply Ok1.lss_t; exact rfl; exact rfl; omega) | (apply Ok1.lss_f; exact rfl; exact rfl; omega) | (apply Ok1.gtr_t; exact rfl; exact rfl; omega) | (apply Ok1.gtr_f; exact rfl; exact rfl; omega) | (apply Ok1.neq_t; exact rfl; exact rfl; omega) | (apply Ok1.neq_f; exact rfl; exact rfl; omega) | (apply Ok1.shr; exact rfl; exact rfl; omega; exact Nat.le_of_ble_eq_true rfl; (first | exact pwE1 | exact pwE2 | exact pwE3 | exact pwE4 | exact pwE5 | exact pwE6 | exact pwE7 | exact pwE8 | exact pwE16 | exact pwE24 | exact pwE32 | exact rfl)) | (apply Ok1.neqP; (iterate 5 exact rfl)) | (apply Ok1.neqM; (iterate 5 exact rfl)) | (apply Ok1.neqS; (iterate 5 exact rfl))) | (apply R.lss rfl rfl rfl <;> intro) | (apply R.gtr rfl rfl rfl <;> intro) | (apply R.neq rfl rfl rfl <;> intro) | (apply R.neqF; (iterate 8 exact rfl); all_goals intro)) | (apply R.isCall; first | apply R.callP rfl rfl rfl hmc | (apply R.callE (vs := [kvC r.cl]); (iterate 3 exact rfl); exact Ext.none _; intro w1 hw1; exact hcb w1; rintro v Lo ⟨ovc1, hovc, rfl, rfl⟩) | ((apply R.append1; (iterate 12 exact rfl); (focus ((repeat' (first | exact OwnAt.mid hov | exact OwnAt.base hov | exact OwnAt.nil _ | apply OwnAt.tail | apply OwnAt.right)); done)); (focus ((repeat' (first | exact At.head | apply At.tail | apply At.right)); done)); exact rfl; exact rfl; omega; omega; intro b2 j2 k2 hj2); have hov2 := OvOk.some (b := b2) hov (ys := [Value.int .u8 r.kind]) (m := 1) rfl hj2) | (apply R.appendSl (ov := some (b2, j2, k2)) (n := 1 + 14 * i + 1) (old := u8s B ++ [Value.int .u8 r.kind]) (ov2 := ovc1) (m := 9) (news := u8s C) (e3 := 5); (iterate 12 exact rfl); exact hov2; exact hovc; (focus ((repeat' (first | exact Ext.none _ | exact Ext.one _ _ | exact Ext.here _ _ | exact Ext.all _ | apply Ext.cons | apply Ext.app | apply Ext.two)); done)); exact Ext.mem (by (focus ((repeat' (first | exact Ext.none _ | exact Ext.one _ _ | exact Ext.here _ _ | exact Ext.all _ | apply Ext.cons | apply Ext.app | apply Ext.two)); done))); exact u8s_one _; omega; intro ov3 hov3) | (apply R.append1; (iterate 12 exact rfl); (focus ((repeat' (first | exact OwnAt.mid hov3 | exact OwnAt.base hov3 | exact OwnAt.nil _ | apply OwnAt.tail | apply OwnAt.right)); done)); (focus ((repeat' (first | exact At.head | apply At.tail | apply At.right)); done)); exact rfl; exact rfl; omega; omega; intro b2 j2 k2 hj2) | (apply R.pure; exact rfl; first | (apply Ok1.lenS; (iterate 3 exact rfl)) | (apply Ok1.lenStr; (iterate 3 exact rfl)) | (apply Ok1.lenMm; (iterate 3 exact rfl); (focus ((repeat' (first | exact At.head | apply At.tail | apply At.right)); done))) | (apply Ok1.lenM_nil; (iterate 3 exact rfl)))) | (apply R.pure; exact rfl; first | (apply Ok1.indexAddrP; (iterate 4 exact rfl); exact hpe; exact rfl; omega; omega) | (apply Ok1.load; exact rfl; first | (apply Ld.rowk0 H; exact rfl; exact List.not_mem_nil; (iterate 3 exact rfl)) | (apply Ld.ownk; exact rfl; exact rfl; (focus ((repeat' (first | exact At.head | apply At.tail | apply At.right)); done)); exact rfl) | (apply Ld.own1; exact rfl; exact rfl; (focus ((repeat' (first | exact At.head | apply At.tail | apply At.right)); done)); exact rfl)) | (apply Ok1.move; exact rfl) | (apply Ok1.fieldAddr; (iterate 5 exact rfl)) | (apply Ok1.load; exact rfl; first | (apply Ld.own1; exact rfl; exact rfl; (focus ((repeat' (first | exact At.head | apply At.tail | apply At.right)); done)); exact rfl) | (apply Ld.ownk; exact rfl; exact rfl; (focus ((repeat' (first | exact At.head | apply At.tail | apply At.right)); done)); exact rfl) | (apply Ld.old1; exact rfl; exact rfl; assumption; (first | exact List.not_mem_nil | assumption)) | (apply Ld.blk1; exact rfl; exact rfl; assumption; (first | exact List.not_mem_nil | assumption); exact rfl) | (apply Ld.blkk; exact rfl; exact rfl; assumption; (first | exact List.not_mem_nil | assumption); exact rfl)) | (apply Ok1.assign; exact rfl) | (apply Ok1.indexAddr; (iterate 5 exact rfl); omega; omega) | (apply Ok1.indexAddrA; (iterate 5 exact rfl); omega; omega) | (apply Ok1.extract; exact rfl; exact rfl) | (apply Ok1.convI64; (iterate 5 exact rfl); omega; omega) | (apply Ok1.convU64; (iterate 5 exact rfl); omega; omega) | (apply Ok1.convU32; (iterate 5 exact rfl); omega; omega) | (apply Ok1.convU8; (iterate 5 exact rfl); omega; omega) | (apply Ok1.conv; (iterate 5 exact rfl))) | (apply R.alloc; (iterate 3 exact rfl); intro) | (apply R.buildSlice; (iterate 12 exact rfl); intro)) | (apply R.is0; first | (apply R.store; (iterate 6 exact rfl); (focus ((repeat' (first | exact Upd.head | apply Upd.tail | apply Upd.right)); done)); exact rfl) | fail) | (apply R.isG; first | (apply R.guard_run; exact rfl; exact rfl) | (apply R.guard_not; (iterate 3 exact rfl)) | (apply R.guard_not0; exact rfl; exact rfl) | (apply R.guard_un; (iterate 3 exact rfl)) | (apply R.guard_un0; exact rfl; exact rfl) | (apply R.guard rfl rfl ?_ (fun h => ⟨rfl, ?_⟩) <;> try intro)) | apply R.nil | (apply T.is; first | apply T.seq | apply T.region | apply T.block | apply T.scope | apply T.label | apply T.skip | apply T.exit | apply T.ret | (apply T.cond_t; exact rfl) | (apply T.cond_f; exact rfl) | (apply T.cond_h; exact rfl; assumption) | (apply T.cond_n; exact rfl; assumption) | (apply T.cond rfl <;> intro)) | apply Rnd.step)
        have hB1 : u8s (rmsI rs.length (rs.take (i + 1))) = u8s B ++ [Value.int .u8 r.kind] ++ u8s C ++ [Value.int .u8 (r.inc / 16777216), .int .u8 (r.inc / 65536 % 256), .int .u8 (r.inc / 256 % 256), .int .u8 (r.inc % 256)] := by
          rw [← hB, ← hC]
          simp only [rmsI, List.take_add_one, hr, Option.toList, List.map_append, List.flatten_append, List.map_cons, List.map_nil, List.flatten_cons, List.flatten_nil, rmI, List.append_nil]
          simp only [u8s, List.map_append, List.map_cons, List.map_nil, List.cons_append, List.append_assoc, List.nil_append]
        have hck1 : ∀ x ∈ rs.take (i + 1), x.chk = 0 := fun x hx => by
          rw [List.take_add_one, hr] at hx
          rcases List.mem_append.1 hx with h | h
          · exact hck x h
          · simp only [Option.toList, List.mem_singleton] at h
            rw [h]; exact hc
        have hn1 : 1 + 14 * (i + 1) = 1 + 14 * i + 1 + 9 + 4 := by omega
        refine ⟨(i + 1, some (b2, j2, k2)), ?_⟩
        simp only [hB1, hn1]
        exact ⟨⟨by omega, hck1, OvOk.some (b := b2) hov3 (m := 4) rfl hj2⟩, by omega, ⟨rfl, rfl, rfl, rfl, trivial⟩, by (focus ((repeat' (first | exact Keep.nil _ | exact Ext.one _ _ | exact Ext.here _ _ | exact Ext.all _ | apply Keep.cons | apply Keep.app | apply Keep.last | apply Ext.cons | apply Ext.app)); done))⟩
      · repeat' (first | (apply R.is1; first | (apply R.isBin; first | (apply R.pure; exact rfl; first | (apply Ok1.add64; exact rfl; exact rfl; omega; omega) | (apply Ok1.lss_t; exact rfl; exact rfl; omega) | (apply Ok1.lss_f; exact rfl; exact rfl; omega) | (apply Ok1.gtr_t; exact rfl; exact rfl; omega) | (apply Ok1.gtr_f; exact rfl; exact rfl; omega) | (apply Ok1.neq_t; exact rfl; exact rfl; omega) | (apply Ok1.neq_f; exact rfl; exact rfl; omega) | (apply Ok1.shr; exact rfl; exact rfl; omega; exact Nat.le_of_ble_eq_true rfl; (first | exact pwE1 | exact pwE2 | exact pwE3 | exact pwE4 | exact pwE5 | exact pwE6 | exact pwE7 | exact pwE8 | exact pwE16 | exact pwE24 | exact pwE32 | exact rfl)) | (apply Ok1.neqP; (iterate 5 exact rfl)) | (apply Ok1.neqM; (iterate 5 exact rfl)) | (apply Ok1.neqS; (iterate 5 exact rfl))) | (apply R.lss rfl rfl rfl <;> intro) | (apply R.gtr rfl rfl rfl <;> intro) | (apply R.neq rfl rfl rfl <;> intro) | (apply R.neqF; (iterate 8 exact rfl); all_goals intro)) | (apply R.isCall; first | apply R.callP rfl rfl rfl hmc | (apply R.pure; exact rfl; first | (apply Ok1.lenS; (iterate 3 exact rfl)) | (apply Ok1.lenStr; (iterate 3 exact rfl)) | (apply Ok1.lenMm; (iterate 3 exact rfl); (focus ((repeat' (first | exact At.head | apply At.tail | apply At.right)); done))) | (apply Ok1.lenM_nil; (iterate 3 exact rfl)))) | (apply R.pure; exact rfl; first | (apply Ok1.indexAddrP; (iterate 4 exact rfl); exact hpe; exact rfl; omega; omega) | (apply Ok1.load; exact rfl; first | (apply Ld.rowk0 H; exact rfl; exact List.not_mem_nil; (iterate 3 exact rfl)) | (apply Ld.ownk; exact rfl; exact rfl; (focus ((repeat' (first | exact At.head | apply At.tail | apply At.right)); done)); exact rfl)) | (apply Ok1.move; exact rfl) | (apply Ok1.fieldAddr; (iterate 5 exact rfl)) | (apply Ok1.load; exact rfl; first | (apply Ld.own1; exact rfl; exact rfl; (focus ((repeat' (first | exact At.head | apply At.tail | apply At.right)); done)); exact rfl) | (apply Ld.ownk; exact rfl; exact rfl; (focus ((repeat' (first | exact At.head | apply At.tail | apply At.right)); done)); exact rfl) | (apply Ld.old1; exact rfl; exact rfl; assumption; (first | exact List.not_mem_nil | assumption)) | (apply Ld.blk1; exact rfl; exact rfl; assumption; (first | exact List.not_mem_nil | assumption); exact rfl) | (apply Ld.blkk; exact rfl; exact rfl; assumption; (first | exact List.not_mem_nil | assumption); exact rfl)) | (apply Ok1.assign; exact rfl) | (apply Ok1.indexAddr; (iterate 5 exact rfl); omega; omega) | (apply Ok1.indexAddrA; (iterate 5 exact rfl); omega; omega) | (apply Ok1.extract; exact rfl; exact rfl) | (apply Ok1.convI64; (iterate 5 exact rfl); omega; omega) | (apply Ok1.convU64; (iterate 5 exact rfl); omega; omega) | (apply Ok1.convU32; (iterate 5 exact rfl); omega; omega) | (apply Ok1.convU8; (iterate 5 exact rfl); omega; omega) | (apply Ok1.conv; (iterate 5 exact rfl))) | (apply R.alloc; (iterate 3 exact rfl); intro) | (apply R.buildSlice; (iterate 12 exact rfl); intro)) | (apply R.is0; first | (apply R.store; (iterate 6 exact rfl); (focus ((repeat' (first | exact Upd.head | apply Upd.tail | apply Upd.right)); done)); exact rfl) | fail) | (apply R.isG; first | (apply R.guard_run; exact rfl; exact rfl) | (apply R.guard_not; (iterate 3 exact rfl)) | (apply R.guard_not0; exact rfl; exact rfl) | (apply R.guard_un; (iterate 3 exact rfl)) | (apply R.guard_un0; exact rfl; exact rfl) | (apply R.guard rfl rfl ?_ (fun h => ⟨rfl, ?_⟩) <;> try intro)) | apply R.nil | (apply T.is; first | apply T.seq | apply T.region | apply T.block | apply T.scope | apply T.label | apply T.skip | apply T.exit | apply T.ret | (apply T.cond_t; exact rfl) | (apply T.cond_f; exact rfl) | (apply T.cond_h; exact rfl; assumption) | (apply T.cond_n; exact rfl; assumption) | (apply T.cond rfl <;> intro)) | apply Rnd.step)
        all_goals (apply RetOk.tt; exact rfl; exact rfl)
        all_goals have he := rmE_at hck hr hc
        all_goals exact ⟨_, by (focus ((repeat' (first | exact Keep.nil _ | exact Ext.one _ _ | exact Ext.here _ _ | exact Ext.all _ | apply Keep.cons | apply Keep.app | apply Keep.last | apply Ext.cons | apply Ext.app)); done)), .inl ⟨by rw [he]; exact hc, by rw [he], rfl⟩⟩
    · have him : i = rs.length := by omega
      subst him
      rw [List.take_length] at hov hck ⊢
      repeat' (first | (apply R.is1; first | (apply R.isBin; first | (apply R.pure; exact rfl; first | (apply Ok1.add64; exact rfl; exact rfl; omega; omega) | (apply Ok1.lss_t; exact rfl; exact rfl; omega) | (apply Ok1.lss_f; exact rfl; exact rfl; omega) | (apply Ok1.gtr_t; exact rfl; exact rfl; omega) | (apply Ok1.gtr_f; exact rfl; exact rfl; omega) | (apply Ok1.neq_t; exact rfl; exact rfl; omega) | (apply Ok1.neq_f; exact rfl; exact rfl; omega) | (apply Ok1.shr; exact rfl; exact rfl; omega; exact Nat.le_of_ble_eq_true rfl; (first | exact pwE1 | exact pwE2 | exact pwE3 | exact pwE4 | exact pwE5 | exact pwE6 | exact pwE7 | exact pwE8 | exact pwE16 | exact pwE24 | exact pwE32 | exact rfl)) | (apply Ok1.neqP; (iterate 5 exact rfl)) | (apply Ok1.neqM; (iterate 5 exact rfl)) | (apply Ok1.neqS; (iterate 5 exact rfl))) | (apply R.lss rfl rfl rfl <;> intro) | (apply R.gtr rfl rfl rfl <;> intro) | (apply R.neq rfl rfl rfl <;> intro) | (apply R.neqF; (iterate 8 exact rfl); all_goals intro)) | (apply R.isCall; first | (apply R.pure; exact rfl; first | (apply Ok1.lenS; (iterate 3 exact rfl)) | (apply Ok1.lenStr; (iterate 3 exact rfl)) | (apply Ok1.lenMm; (iterate 3 exact rfl); (focus ((repeat' (first | exact At.head | apply At.tail | apply At.right)); done))) | (apply Ok1.lenM_nil; (iterate 3 exact rfl)))) | (apply R.pure; exact rfl; first | (apply Ok1.move; exact rfl) | (apply Ok1.fieldAddr; (iterate 5 exact rfl)) | (apply Ok1.load; exact rfl; first | (apply Ld.own1; exact rfl; exact rfl; (focus ((repeat' (first | exact At.head | apply At.tail | apply At.right)); done)); exact rfl) | (apply Ld.ownk; exact rfl; exact rfl; (focus ((repeat' (first | exact At.head | apply At.tail | apply At.right)); done)); exact rfl) | (apply Ld.old1; exact rfl; exact rfl; assumption; (first | exact List.not_mem_nil | assumption)) | (apply Ld.blk1; exact rfl; exact rfl; assumption; (first | exact List.not_mem_nil | assumption); exact rfl) | (apply Ld.blkk; exact rfl; exact rfl; assumption; (first | exact List.not_mem_nil | assumption); exact rfl)) | (apply Ok1.assign; exact rfl) | (apply Ok1.indexAddr; (iterate 5 exact rfl); omega; omega) | (apply Ok1.indexAddrA; (iterate 5 exact rfl); omega; omega) | (apply Ok1.extract; exact rfl; exact rfl) | (apply Ok1.convI64; (iterate 5 exact rfl); omega; omega) | (apply Ok1.convU64; (iterate 5 exact rfl); omega; omega) | (apply Ok1.convU32; (iterate 5 exact rfl); omega; omega) | (apply Ok1.convU8; (iterate 5 exact rfl); omega; omega) | (apply Ok1.conv; (iterate 5 exact rfl))) | (apply R.alloc; (iterate 3 exact rfl); intro) | (apply R.buildSlice; (iterate 12 exact rfl); intro)) | (apply R.is0; first | (apply R.store; (iterate 6 exact rfl); (focus ((repeat' (first | exact Upd.head | apply Upd.tail | apply Upd.right)); done)); exact rfl) | fail) | (apply R.isG; first | (apply R.guard_run; exact rfl; exact rfl) | (apply R.guard_not; (iterate 3 exact rfl)) | (apply R.guard_not0; exact rfl; exact rfl) | (apply R.guard_un; (iterate 3 exact rfl)) | (apply R.guard_un0; exact rfl; exact rfl) | (apply R.guard rfl rfl ?_ (fun h => ⟨rfl, ?_⟩) <;> try intro)) | apply R.nil | (apply T.is; first | apply T.seq | apply T.region | apply T.block | apply T.scope | apply T.label | apply T.skip | apply T.exit | apply T.ret | (apply T.cond_t; exact rfl) | (apply T.cond_f; exact rfl) | (apply T.cond_h; exact rfl; assumption) | (apply T.cond_n; exact rfl; assumption) | (apply T.cond rfl <;> intro)) | apply Rnd.step)
      (apply RetOk.tt; exact rfl; exact rfl)
      exact ⟨_, by (focus ((repeat' (first | exact Keep.nil _ | exact Ext.one _ _ | exact Ext.here _ _ | exact Ext.all _ | apply Keep.cons | apply Keep.app | apply Keep.last | apply Ext.cons | apply Ext.app)); done)), .inr ⟨rmE_ok hck, ov, hov, rfl, rfl⟩⟩
end Go.Proofs.YtplhnkmmhndkjaaGreat
