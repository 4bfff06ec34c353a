/- Contracts of revoke: covered; serials revoked. -/
import Derived.Test.YtligpachgcmkcaaRv3
set_option linter.unusedSimpArgs false
set_option linter.unusedVariables false
namespace Go.Proofs.Ytligpachgcmkcaa
open Go.RowKit Go.Shelf
set_option maxRecDepth 100000

theorem covers_ok (a0 a1 a2 a3 b0 b1 b2 b3 : Int) : CallP Try.prog 20 [.agg ⟨[.int .i64 a0, .int .i64 a1, .int .i64 a2, .int .i64 a3]⟩, .agg ⟨[.int .i64 b0, .int .i64 b1, .int .i64 b2, .int .i64 b3]⟩] (.bool (decide (b0 ≤ a0 ∧ b1 ≤ a1 ∧ b2 ≤ a2 ∧ b3 ≤ a3))) := by
  have hj := join_ok a0 a1 a2 a3 b0 b1 b2 b3
  obtain ⟨q, hq⟩ : ∃ q, decide (b0 ≤ a0 ∧ b1 ≤ a1 ∧ b2 ≤ a2 ∧ b3 ≤ a3) = q := ⟨_, rfl⟩
  have hq2 : [Value.int .i64 (max a0 b0), .int .i64 (max a1 b1), .int .i64 (max a2 b2), .int .i64 (max a3 b3)] = [Value.int .i64 a0, .int .i64 a1, .int .i64 a2, .int .i64 a3] ↔ q = true := by
    rw [← hq, decide_eq_true_iff]
    simp only [List.cons.injEq, Value.int.injEq, true_and, and_true]
    omega
  rw [hq]
  refine enterP (tb := tb) Try.func20 rfl Try.ntmps20 rfl fun w => ?_
  repeat' (first | (apply R.is1; first | (apply R.pure; exact rfl; (apply Ok1.assign; exact rfl)) | (apply R.box; (iterate 3 exact rfl); intro)) | apply R.nil | (apply T.is; first | (apply T.drawC (id := 1) [0,1] (by decide); ((apply A.take 0; exact rfl; exact rfl; kernel_rfl; kernel_rfl; kernel_rfl; (apply Ok1.load; exact rfl; (apply Ld.ownk; exact rfl; exact rfl; (focus ((repeat' (first | exact At.head | apply At.tail)); done)); exact rfl))) <;> (apply A.take 1; exact rfl; exact rfl; kernel_rfl; kernel_rfl; kernel_rfl; (apply Ok1.load; exact rfl; (apply Ld.ownk; exact rfl; exact rfl; exact At.head; exact rfl))) <;> (apply A.call 2; exact rfl; exact rfl; kernel_rfl; kernel_rfl; kernel_rfl; exact rfl; exact rfl; (exact fun w1 _ => hj.w w1)) <;> (apply A.take 3; exact rfl; exact rfl; kernel_rfl; kernel_rfl; kernel_rfl; (apply Ok1.load; exact rfl; (apply Ld.ownk; exact rfl; exact rfl; (focus ((repeat' (first | exact At.head | apply At.tail)); done)); exact rfl))) <;> ((apply A.take 4; exact rfl; exact rfl; kernel_rfl; kernel_rfl; kernel_rfl; (apply Ok1.eqlFq2; (iterate 7 exact rfl); exact hq2))) <;> (apply A.take 5; exact rfl; exact rfl; kernel_rfl; kernel_rfl; kernel_rfl; (apply Ok1.assign; exact rfl)) <;> (apply A.done; kernel_rfl))) | apply T.seq | apply T.region | apply T.ret))
  all_goals (apply RetOk.t; exact rfl)
  all_goals rfl
def revE (ls : List (List Int)) (seed : Int) (xs : List Int) : Int :=
  if seed < 0 ∨ 4 ≤ seed ∨ ¬ SR xs then 10 else if ¬ (ls.getD seed.toNat [] ++ xs).Nodup then 8 else if 256 < (ls.getD seed.toNat [] ++ xs).length then 6 else 0
def revL (ls : List (List Int)) (seed : Int) (xs : List Int) : List (List Int) := if revE ls seed xs = 0 then ls.set seed.toNat (ls.getD seed.toNat [] ++ xs) else ls
theorem LsL_at {gs : List Lg} {i : Nat} {g : Lg} (h : gs[i]? = some g) : LsL gs = LsL (gs.take i) ++ (g.L ++ LsL (gs.drop (i + 1))) := by
  obtain ⟨hi, rfl⟩ := List.getElem?_eq_some_iff.1 h
  have e := List.take_append_drop i gs
  rw [List.drop_eq_getElem_cons hi] at e
  conv => lhs; rw [← e]
  simp only [LsL, List.flatMap_append, List.flatMap_cons]
theorem LsL_set {gs : List Lg} {i : Nat} (g' : Lg) (hi : i < gs.length) : LsL (gs.set i g') = LsL (gs.take i) ++ (g'.L ++ LsL (gs.drop (i + 1))) := by
  rw [List.set_eq_take_append_cons_drop, if_pos hi]
  simp only [LsL, List.flatMap_append, List.flatMap_cons]
theorem setV_set {gs : List Lg} {i : Nat} (g' : Lg) (hi : i < gs.length) : setE (setV gs) (0 + i * 1) [g'.v] = some (setV (gs.set i g')) := by
  have := setE_one (cs := setV gs) (o := 0 + i * 1) (v := g'.v) (by simp [setV]; omega)
  rw [this]
  simp [setV, List.map_set]
theorem GOk.set {gs : List Lg} (hg : GOk gs) (i : Nat) {g' : Lg} (h : g'.ok) (hl : g'.xs.length ≤ 256) : GOk (gs.set i g') :=
  ⟨by rw [List.length_set]; exact hg.len, fun g hm => by rcases List.mem_or_eq_of_mem_set hm with h1 | rfl; exact hg.ok g h1; exact h, fun g hm => by rcases List.mem_or_eq_of_mem_set hm with h1 | rfl; exact hg.le g h1; exact hl⟩
theorem revoke_nil (seed : Int) (p : Option Addr) (n cap : Nat) : CallP Try.prog 15 [.pointer none, .int .i64 seed, .slice p n cap] (.int .i64 11) := by
  refine enterP (tb := tb) Try.func15 rfl Try.ntmps15 rfl fun w => ?_
  repeat' (first | (apply R.is1; first | (apply R.isBin; (apply R.pure; exact rfl; (apply Ok1.eqlP; (iterate 5 exact rfl)))) | (apply R.pure; exact rfl; first | (apply Ok1.move; exact rfl) | (apply Ok1.assign; exact rfl))) | apply R.nil | (apply T.is; first | apply T.seq | apply T.region | apply T.block | apply T.ret | (apply T.cond_t; exact rfl)))
  all_goals (apply RetOk.t; exact rfl)
  all_goals rfl
theorem revoke_ok (bs : Nat) (gs : List Lg) (hg : GOk gs) (seed : Int) (p : Option Addr) (n cap : Nat) (xs : List Int) (hn : n = xs.length) (hbig : n ≤ 1000) (w : World) (hp : RdSl w p iV xs) (hoff : xs ≠ [] → Off p (blks (SetL bs gs))) :
    CallM Try.prog 15 [.pointer (some ⟨bs, 0, none⟩), .int .i64 seed, .slice p n cap] (SetL bs gs) w fun v L => ∃ gs', v = .int .i64 (revE (lgs gs) seed xs) ∧ lgs gs' = revL (lgs gs) seed xs ∧ GOk gs' ∧ L = SetL bs gs' := by
  subst hn
  have hse := fun w1 (hc : Chg (blks (SetL bs gs)) w w1) => serials_ok p xs.length cap xs rfl (by omega) w1 (hp.chg' hc hoff)
  by_cases hr : seed < 0 ∨ 4 ≤ seed ∨ ¬ SR xs
  · have he : revE (lgs gs) seed xs = 10 := by rw [revE, if_pos hr]
    have hl : revL (lgs gs) seed xs = lgs gs := by rw [revL, he, if_neg (by decide)]
    rw [he, hl]
    by_cases h0 : seed < 0
    · refine enterK (tb := tb) Try.func15 rfl Try.ntmps15 rfl ?_
      repeat' (first | (apply R.is1; first | (apply R.isBin; (apply R.pure; exact rfl; first | (apply Ok1.lss_t; exact rfl; exact rfl; omega) | (apply Ok1.eqlP; (iterate 5 exact rfl)))) | (apply R.pure; exact rfl; first | (apply Ok1.move; exact rfl) | (apply Ok1.assign; exact rfl) | (apply Ok1.pick_t; exact rfl; exact rfl))) | (apply R.isG; (apply R.guard_not; (iterate 3 exact rfl))) | apply R.nil | (apply T.is; first | apply T.seq | apply T.region | apply T.block | apply T.ret | (apply T.cond_t; exact rfl) | (apply T.cond_f; exact rfl)))
      (apply RetOk.t; exact rfl)
      exact ⟨_, Keep.last (.all _), gs, rfl, rfl, hg, rfl⟩
    · by_cases h4 : 4 ≤ seed
      · refine enterK (tb := tb) Try.func15 rfl Try.ntmps15 rfl ?_
        repeat' (first | (apply R.is1; first | (apply R.isBin; (apply R.pure; exact rfl; first | (apply Ok1.lss_f; exact rfl; exact rfl; omega) | (apply Ok1.geq_t; exact rfl; exact rfl; omega) | (apply Ok1.eqlP; (iterate 5 exact rfl)))) | (apply R.pure; exact rfl; first | (apply Ok1.move; exact rfl) | (apply Ok1.assign; exact rfl) | (apply Ok1.pick_t; exact rfl; exact rfl) | (apply Ok1.pick_f; exact rfl; exact rfl))) | (apply R.isG; first | (apply R.guard_run; exact rfl; exact rfl) | (apply R.guard_not; (iterate 3 exact rfl))) | apply R.nil | (apply T.is; first | apply T.seq | apply T.region | apply T.block | apply T.ret | (apply T.cond_t; exact rfl) | (apply T.cond_f; exact rfl)))
        (apply RetOk.t; exact rfl)
        exact ⟨_, Keep.last (.all _), gs, rfl, rfl, hg, rfl⟩
      · have hs : ¬ SR xs := by rcases hr with h | h | h; exact absurd h h0; exact absurd h h4; exact h
        rw [decide_eq_false hs] at hse
        refine enterK (tb := tb) Try.func15 rfl Try.ntmps15 rfl ?_
        repeat' (first | (apply R.is1; first | (apply R.isBin; (apply R.pure; exact rfl; first | (apply Ok1.lss_f; exact rfl; exact rfl; omega) | (apply Ok1.geq_f; exact rfl; exact rfl; omega) | (apply Ok1.eqlP; (iterate 5 exact rfl)))) | (apply R.isCall; (apply R.callV (vs := [.slice p xs.length cap]); (iterate 3 exact rfl); intro w1 hw1; exact hse w1 hw1.chg)) | (apply R.pure; exact rfl; first | (apply Ok1.move; exact rfl) | (apply Ok1.assign; exact rfl) | (apply Ok1.pick_f; exact rfl; exact rfl) | (apply Ok1.not_f; exact rfl))) | (apply R.isG; (apply R.guard_run; exact rfl; exact rfl)) | apply R.nil | (apply T.is; first | apply T.seq | apply T.region | apply T.block | apply T.ret | (apply T.cond_t; exact rfl) | (apply T.cond_f; exact rfl)))
        (apply RetOk.t; exact rfl)
        exact ⟨_, Keep.last (.all _), gs, rfl, rfl, hg, rfl⟩
  · have h0 : ¬ seed < 0 := fun h => hr (.inl h)
    have h4 : ¬ 4 ≤ seed := fun h => hr (.inr (.inl h))
    have hs : SR xs := Classical.not_not.1 fun h => hr (.inr (.inr h))
    rw [decide_eq_true hs] at hse
    obtain ⟨i, rfl⟩ : ∃ i : Nat, seed = i := ⟨seed.toNat, by omega⟩
    have hi4 : i < 4 := by omega
    obtain ⟨g, hx⟩ : ∃ g, gs[i]? = some g := ⟨_, List.getElem?_eq_getElem (by rw [hg.len]; omega)⟩
    have hm := List.mem_of_getElem? hx
    have hgo := hg.ok g hm
    have hgl := hg.le g hm
    have hcell := setV_get hx hgo
    have hgd : (lgs gs).getD (i : Int).toNat [] = g.xs := by
      rw [Int.toNat_natCast, List.getD_eq_getElem?_getD, lgs, List.getElem?_map, hx]
      rfl
    have hcat : icat [⟨ovp g.ov, ovc g.ov g.xs.length, g.xs⟩, ⟨p, cap, xs⟩] = g.xs ++ xs := by simp [icat]
    have hcon := fun b w1 h1 h2 => iconcat_ok (some ⟨b, 0, none⟩) 2 2 [⟨ovp g.ov, ovc g.ov g.xs.length, g.xs⟩, ⟨p, cap, xs⟩] rfl (by rw [hcat, List.length_append]; omega) (by decide) w1 h1 h2
    rw [hcat] at hcon
    have hrev : revE (lgs gs) i xs = if ¬ (g.xs ++ xs).Nodup then 8 else if 256 < (g.xs ++ xs).length then 6 else 0 := by rw [revE, if_neg hr, hgd]
    have hal : (g.xs ++ xs).length ≤ 1256 := by rw [List.length_append]; omega
    have htw := fun p cap w1 h1 => twice_ok p (g.xs ++ xs).length cap (g.xs ++ xs) rfl (by omega) w1 h1
    have hset := fun g' => setV_set (gs := gs) (i := i) g' (by rw [hg.len]; exact hi4)
    have hrl : revL (lgs gs) i xs = if revE (lgs gs) i xs = 0 then (lgs gs).set i (g.xs ++ xs) else lgs gs := by rw [revL, hgd, Int.toNat_natCast]
    rw [hrl, hrev]
    clear hrl hrev hgd hcat
    generalize hall : g.xs ++ xs = all at *
    have hrd := fun w1 (hc : Chg (blks (SetL bs gs)) w w1) => hp.chg' hc hoff
    have hall2 : ∀ b w1, Hp w (blks (SetL bs gs)) ((b, .cells ⟨[.slice (ovp g.ov) g.xs.length (ovc g.ov g.xs.length), .slice p xs.length cap]⟩ 25 (0, 0)) :: SetL bs gs) w1 → CallM Try.prog 57 [.slice (some ⟨b, 0, none⟩) 2 2] [] w1 fun v L => ∃ ov, OvOk 1 ov all.length (iis all) ∧ v = slV ov all.length ∧ L = blkL 3 ov (iis all) := by
      intro b w1 hw1
      refine hcon b w1 (RdSl.of (junk := []) hw1 .head rfl) ?_
      intro z hz
      simp only [List.mem_cons, List.not_mem_nil, or_false] at hz
      rcases hz with rfl | rfl
      · exact Lg.rd hgo hw1 fun x hx => List.mem_cons_of_mem _ (List.mem_cons_of_mem _ (mem_LsL hm hx))
      · exact hrd w1 hw1.chg
    by_cases hnd : all.Nodup
    · rw [decide_eq_false (fun h => h hnd)] at htw
      rw [if_neg (fun h => h hnd)]
      by_cases hf : 256 < all.length
      · rw [if_pos hf, if_neg (by decide)]
        refine enterK (tb := tb) Try.func15 rfl Try.ntmps15 rfl ?_
        simp only [SetL]
        repeat' (first | (apply R.is1; first | (apply R.isBin; (apply R.pure; exact rfl; first | (apply Ok1.lss_f; exact rfl; exact rfl; omega) | (apply Ok1.gtr_t; exact rfl; exact rfl; omega) | (apply Ok1.geq_f; exact rfl; exact rfl; omega) | (apply Ok1.eqlP; (iterate 5 exact rfl)))) | (apply R.isCall; first | (apply R.callV (vs := [.slice p xs.length cap]); (iterate 3 exact rfl); intro w1 hw1; exact hse w1 hw1.chg) | (apply R.callE (vs := [.slice (some ⟨_, 0, none⟩) 2 2]); (iterate 3 exact rfl); exact Ext.none _; intro w1 hw1; exact hall2 _ w1 hw1; rintro v Lo ⟨ov, hov, rfl, rfl⟩; rw [slV_eq hov]) | (apply R.callE (vs := [.slice (ovp ov) all.length (ovc ov all.length)]); (iterate 3 exact rfl); exact Ext.none _; intro w1 hw1; exact htw (ovp ov) (ovc ov all.length) w1 (irdown hov hw1 (Ext.mem (by (focus ((repeat' (exact Ext.here _ _)); done))))); rintro v Lo ⟨rfl, rfl⟩) | (apply R.pure; exact rfl; (apply Ok1.lenS; (iterate 3 exact rfl)))) | (apply R.pure; exact rfl; first | (apply Ok1.load; exact rfl; apply Ld.own1; exact rfl; exact rfl; exact At.head; exact hcell) | (apply Ok1.move; exact rfl) | (apply Ok1.fieldAddr; (iterate 5 exact rfl)) | (apply Ok1.assign; exact rfl) | (apply Ok1.indexAddrA; (iterate 5 exact rfl); omega; omega) | (apply Ok1.pick_f; exact rfl; exact rfl) | (apply Ok1.not_t; exact rfl) | (apply Ok1.nilCheck; exact rfl)) | (apply R.buildSlice; (iterate 12 exact rfl); intro)) | (apply R.isG; (apply R.guard_run; exact rfl; exact rfl)) | apply R.nil | (apply T.is; first | apply T.seq | apply T.region | apply T.block | apply T.skip | apply T.ret | (apply T.cond_t; exact rfl) | (apply T.cond_f; exact rfl)))
        (apply RetOk.t; exact rfl)
        refine ⟨_, ?_, gs, rfl, rfl, hg, rfl⟩
        (focus ((repeat' (first | exact Ext.one _ _ | exact Ext.all _ | apply Keep.cons | apply Keep.last | apply Ext.cons | apply Ext.app)); done))
      · rw [if_neg hf, if_pos rfl]
        refine enterK (tb := tb) Try.func15 rfl Try.ntmps15 rfl ?_
        simp only [SetL]
        repeat' (first | (apply R.is1; first | (apply R.isBin; (apply R.pure; exact rfl; first | (apply Ok1.lss_f; exact rfl; exact rfl; omega) | (apply Ok1.gtr_f; exact rfl; exact rfl; omega) | (apply Ok1.geq_f; exact rfl; exact rfl; omega) | (apply Ok1.eqlP; (iterate 5 exact rfl)))) | (apply R.isCall; first | (apply R.callV (vs := [.slice p xs.length cap]); (iterate 3 exact rfl); intro w1 hw1; exact hse w1 hw1.chg) | (apply R.callE (vs := [.slice (some ⟨_, 0, none⟩) 2 2]); (iterate 3 exact rfl); exact Ext.none _; intro w1 hw1; exact hall2 _ w1 hw1; rintro v Lo ⟨ov, hov, rfl, rfl⟩; rw [slV_eq hov]) | (apply R.callE (vs := [.slice (ovp ov) all.length (ovc ov all.length)]); (iterate 3 exact rfl); exact Ext.none _; intro w1 hw1; exact htw (ovp ov) (ovc ov all.length) w1 (irdown hov hw1 (Ext.mem (by (focus ((repeat' (exact Ext.here _ _)); done))))); rintro v Lo ⟨rfl, rfl⟩) | (apply R.pure; exact rfl; (apply Ok1.lenS; (iterate 3 exact rfl)))) | (apply R.pure; exact rfl; first | (apply Ok1.load; exact rfl; apply Ld.own1; exact rfl; exact rfl; exact At.head; exact hcell) | (apply Ok1.move; exact rfl) | (apply Ok1.fieldAddr; (iterate 5 exact rfl)) | (apply Ok1.assign; exact rfl) | (apply Ok1.indexAddrA; (iterate 5 exact rfl); omega; omega) | (apply Ok1.pick_f; exact rfl; exact rfl) | (apply Ok1.not_t; exact rfl) | (apply Ok1.nilCheck; exact rfl)) | (apply R.buildSlice; (iterate 12 exact rfl); intro)) | (apply R.is0; (apply R.store; (iterate 6 exact rfl); (focus ((repeat' (first | exact Upd.head | apply Upd.tail | apply Upd.right)); done)); have h9 := hset ⟨ov, all⟩; rw [Lg.v_eq (g := ⟨ov, all⟩) hov] at h9; exact h9)) | (apply R.isG; (apply R.guard_run; exact rfl; exact rfl)) | apply R.nil | (apply T.is; first | apply T.seq | apply T.region | apply T.block | apply T.skip | apply T.ret | (apply T.cond_f; exact rfl)))
        (apply RetOk.t; exact rfl)
        refine ⟨_, ?_, gs.set i ⟨ov, all⟩, rfl, by rw [lgs, List.map_set]; rfl, hg.set i hov (by show all.length ≤ 256; omega), rfl⟩
        rw [LsL_at hx, LsL_set _ (by rw [hg.len]; exact hi4)]
        simp only [Lg.L]
        (focus ((repeat' (first | exact Ext.one _ _ | exact Ext.here _ _ | exact Ext.all _ | apply Keep.cons | apply Keep.app | apply Keep.last | apply Ext.cons | apply Ext.app)); done))
    · rw [decide_eq_true hnd] at htw
      rw [if_pos hnd, if_neg (by decide)]
      refine enterK (tb := tb) Try.func15 rfl Try.ntmps15 rfl ?_
      simp only [SetL]
      repeat' (first | (apply R.is1; first | (apply R.isBin; (apply R.pure; exact rfl; first | (apply Ok1.lss_f; exact rfl; exact rfl; omega) | (apply Ok1.geq_f; exact rfl; exact rfl; omega) | (apply Ok1.eqlP; (iterate 5 exact rfl)))) | (apply R.isCall; first | (apply R.callV (vs := [.slice p xs.length cap]); (iterate 3 exact rfl); intro w1 hw1; exact hse w1 hw1.chg) | (apply R.callE (vs := [.slice (some ⟨_, 0, none⟩) 2 2]); (iterate 3 exact rfl); exact Ext.none _; intro w1 hw1; exact hall2 _ w1 hw1; rintro v Lo ⟨ov, hov, rfl, rfl⟩; rw [slV_eq hov]) | (apply R.callE (vs := [.slice (ovp ov) all.length (ovc ov all.length)]); (iterate 3 exact rfl); exact Ext.none _; intro w1 hw1; exact htw (ovp ov) (ovc ov all.length) w1 (irdown hov hw1 (Ext.mem (by (focus ((repeat' (exact Ext.here _ _)); done))))); rintro v Lo ⟨rfl, rfl⟩)) | (apply R.pure; exact rfl; first | (apply Ok1.load; exact rfl; apply Ld.own1; exact rfl; exact rfl; exact At.head; exact hcell) | (apply Ok1.move; exact rfl) | (apply Ok1.fieldAddr; (iterate 5 exact rfl)) | (apply Ok1.assign; exact rfl) | (apply Ok1.indexAddrA; (iterate 5 exact rfl); omega; omega) | (apply Ok1.pick_f; exact rfl; exact rfl) | (apply Ok1.not_t; exact rfl) | (apply Ok1.nilCheck; exact rfl)) | (apply R.buildSlice; (iterate 12 exact rfl); intro)) | (apply R.isG; (apply R.guard_run; exact rfl; exact rfl)) | apply R.nil | (apply T.is; first | apply T.seq | apply T.region | apply T.block | apply T.skip | apply T.ret | (apply T.cond_t; exact rfl) | (apply T.cond_f; exact rfl)))
      (apply RetOk.t; exact rfl)
      refine ⟨_, ?_, gs, rfl, rfl, hg, rfl⟩
      (focus ((repeat' (first | exact Ext.one _ _ | exact Ext.all _ | apply Keep.cons | apply Keep.last | apply Ext.cons | apply Ext.app)); done))
end Go.Proofs.Ytligpachgcmkcaa
