/- Texts of the proof: Rp1, Dn1, Rd6, Rr1, Rb5, Da2, Rg1, Da4, Dn2, Dd1, Dd2, Dd3, Lcj, Mk1, Lcw, FrK, Fr0, Fr1, Lfr, Eng35, Fr2, Fr3. -/
import Derived.Test.YtolnagbahceebaaGreatL17hb3
import Derived.JoinedOf
set_option linter.unusedSimpArgs false
set_option linter.unusedVariables false
namespace Go.Proofs.YtolnagbahceebaaGreat
open Go.RowKit Go.Shelf
set_option maxRecDepth 100000
def ru0 : RS := ⟨false, ⟨0, 0, 0, 0, 0, 0, 0, 0⟩, none, [], none, 0, 0, [], 0⟩
theorem ru0_ok : RuI ru0 [] := ⟨OvOk.start 1, Sfx.refl _ _, rfl, Nat.le_refl _, rfl, rfl, (fun x hx => by cases hx), (fun h => by cases h), fun _ => rfl⟩
/-- A number's two bytes; those of a log; those of all logs. -/
def pB (n : Int) : List Int := [IntKind.u8.wrap (n / 256), IntKind.u8.wrap n]
def lB (xs : List Int) : List Int := ((xs.length : Int) :: xs).flatMap pB
def prI (ls : List (List Int)) : List Int := ls.flatMap lB
theorem pB_byt (n : Int) : Byt (pB n) := by
  intro x hx
  simp only [pB, List.mem_cons, List.not_mem_nil, or_false] at hx
  rcases hx with rfl | rfl <;> (rw [u8_mod]; omega)
theorem fpB_len (zs : List Int) : (zs.flatMap pB).length = 2 * zs.length := by
  induction zs with
  | nil => rfl
  | cons z zs ih => rw [List.flatMap_cons, List.length_append, ih]; simp [pB]; omega
theorem pr_len {ls : List (List Int)} (h : ∀ xs ∈ ls, xs.length ≤ 256) : (prI ls).length ≤ 514 * ls.length := by
  induction ls with
  | nil => simp [prI]
  | cons x ls ih =>
    have h1 := h x List.mem_cons_self
    have h2 := ih fun y hy => h y (List.mem_cons_of_mem _ hy)
    have h3 : (lB x).length = 2 * (x.length + 1) := by rw [lB, fpB_len, List.length_cons]
    simp only [prI, List.flatMap_cons, List.length_append, List.length_cons] at *
    omega
theorem pr_snoc {ls : List (List Int)} {i : Nat} {xs : List Int} (h : ls[i]? = some xs) : prI (ls.take (i + 1)) = prI (ls.take i) ++ lB xs := by
  unfold prI
  rw [List.take_add_one, h, List.flatMap_append]
  simp
theorem print_gen (s : Value) (ls : List (List Int)) (hl : ls.length = 4) (hle : ∀ xs ∈ ls, xs.length ≤ 256) (w : World)
    (hlog : ∀ (i : Nat) (xs : List Int), ls[i]? = some xs → ∀ w1, Chg [] w w1 → CallM Tryz.prog 106 [s, .int .i64 i] [] w1 fun v L => ∃ ov, OvOk 1 ov xs.length (iis xs) ∧ v = slV ov xs.length ∧ L = blkL 3 ov (iis xs)) :
    CallW Tryz.prog 103 [s] w fun v _ => v = .agg ⟨u8s (shaI (prI ls))⟩ := by
  refine enterW (tb := tb) Tryz.func103 rfl Tryz.ntmps103 rfl ?_
  repeat' (first | (apply R.is1; first | (apply R.pure; exact rfl; (apply Ok1.move; exact rfl)) | (apply R.alloc; (iterate 3 exact rfl); intro)) | apply R.nil | (apply T.is; first | apply T.seq | apply T.region | apply T.block))
  rename_i b2 b3
  apply T.loopK (α := Nat × RS) (I := fun y => y.1 ≤ 4 ∧ RuI y.2 (prI (ls.take y.1))) (σi := fun y => [(0, s), (2, .pointer (some ⟨b2, 0, none⟩)), (3, .pointer (some ⟨b3, 0, none⟩)), (8, .int .i64 y.1)])
    (Li := fun y => (b2, .cells ⟨List.replicate 32 (.int .u8 0)⟩ 98 (0, 0)) :: RL b3 y.2) (μ := fun y => 4 - y.1) (i0 := (0, ru0))
  · exact ⟨Nat.zero_le _, ru0_ok⟩
  · exact ⟨rfl, rfl, rfl, rfl, trivial⟩
  · simp only [RL]
    (focus (repeat' first | exact Keep.nil _ | exact Ext.one _ _ | apply Keep.cons | apply Ext.cons); done)
  · rintro ⟨i, st⟩ ⟨hi, hI⟩
    simp only at hi hI ⊢
    have hpl := pr_len (ls := ls.take i) fun xs hx => hle xs (List.mem_of_mem_take hx)
    have htl : (ls.take i).length ≤ 4 := by rw [List.length_take, hl]; omega
    rcases Nat.lt_or_ge i 4 with hlt | hge
    · obtain ⟨xs, hx⟩ : ∃ xs, ls[i]? = some xs := ⟨_, List.getElem?_eq_getElem (by omega)⟩
      have hxl := hle xs (List.mem_of_getElem? hx)
      have h1 := hlog i xs hx
      have hsn := pr_snoc hx
      have hlb : lB xs = ((xs.length : Int) :: xs).flatMap pB := rfl
      rw [hlb] at hsn
      have hcat : ∀ p1 p2 c2, icat [⟨p1, 1, [(xs.length : Int)]⟩, ⟨p2, c2, xs⟩] = (xs.length : Int) :: xs := fun _ _ _ => by simp [icat]
      have hcon : ∀ (bq b1 : Nat) (ov : Ov) w1, OvOk 1 ov xs.length (iis xs) → RdSl w1 (some ⟨bq, 0, none⟩) Pi.v [⟨some ⟨b1, 0, none⟩, 1, [(xs.length : Int)]⟩, ⟨ovp ov, ovc ov xs.length, xs⟩] → RdSl w1 (some ⟨b1, 0, none⟩) iV [(xs.length : Int)] → RdSl w1 (ovp ov) iV xs → CallM Tryz.prog 87 [.slice (some ⟨bq, 0, none⟩) 2 2] [] w1 fun v L => ∃ ov', OvOk 1 ov' ((xs.length : Int) :: xs).length (iis ((xs.length : Int) :: xs)) ∧ v = slV ov' ((xs.length : Int) :: xs).length ∧ L = blkL 3 ov' (iis ((xs.length : Int) :: xs)) := by
        intro bq b1 ov w1 hov h2 h3 h4
        have := iconcat_ok (some ⟨bq, 0, none⟩) 2 2 [⟨some ⟨b1, 0, none⟩, 1, [(xs.length : Int)]⟩, ⟨ovp ov, ovc ov xs.length, xs⟩] rfl (by rw [hcat, List.length_cons]; omega) (by decide) w1 h2 (by
          intro z hz
          simp only [List.mem_cons, List.not_mem_nil, or_false] at hz
          rcases hz with rfl | rfl
          · exact h3
          · exact h4)
        rw [hcat] at this
        exact this
      have hzl : ((xs.length : Int) :: xs).length ≤ 257 := by rw [List.length_cons]; omega
      repeat' (first | (apply R.is1; first | (apply R.isBin; (apply R.pure; exact rfl; (apply Ok1.lss_t; exact rfl; exact rfl; omega))) | (apply R.isCall; first | (apply R.callE (vs := [s, .int .i64 i]); (iterate 3 exact rfl); exact Ext.none _; intro w1 hw1; exact h1 w1 hw1.chg; rintro v Lo ⟨ov, hov, rfl, rfl⟩; rw [slV_eq hov]) | (apply R.callE (vs := [.slice (some ⟨_, 0, none⟩) 2 2]); (iterate 3 exact rfl); exact Ext.none _; intro w1 hw1; exact hcon _ _ ov w1 hov (RdSl.of (junk := []) hw1 (by exact At.head) rfl) (RdSl.of (junk := []) hw1 (by (focus (repeat' first | exact At.head | apply At.tail); done)) rfl) (irdown hov hw1 (Ext.mem (by (focus (repeat' first | exact Ext.here _ _ | apply Ext.cons); done)))); rintro v Lo ⟨ovz, hovz, rfl, rfl⟩; rw [slV_eq hovz]) | (apply R.pure; exact rfl; (apply Ok1.lenS; (iterate 3 exact rfl)))) | (apply R.pure; exact rfl; first | (apply Ok1.move; exact rfl) | (apply Ok1.assign; exact rfl)) | (apply R.buildSlice; (iterate 12 exact rfl); intro)) | apply R.nil | (apply T.is; first | apply T.seq | apply T.region | apply T.block | apply T.skip | (apply T.cond_t; exact rfl)))
      generalize ((xs.length : Int) :: xs) = zs at *
      apply T.loopK (α := Nat × RS) (I := fun y => y.1 ≤ zs.length ∧ RuI y.2 (prI (ls.take i) ++ (zs.take y.1).flatMap pB)) (σi := fun y => [(0, s), (2, .pointer (some ⟨b2, 0, none⟩)), (3, .pointer (some ⟨b3, 0, none⟩)), (8, .int .i64 i), (19, .slice (ovp ovz) zs.length (ovc ovz zs.length)), (20, .int .i64 zs.length), (21, .int .i64 y.1)])
        (Li := fun y => (b2, .cells ⟨List.replicate 32 (.int .u8 0)⟩ 98 (0, 0)) :: (RL b3 y.2 ++ blkL 3 ovz (iis zs))) (μ := fun y => zs.length - y.1) (i0 := (0, st))
      · exact ⟨Nat.zero_le _, by simpa using hI⟩
      · exact ⟨rfl, rfl, rfl, rfl, rfl, rfl, rfl, trivial⟩
      · (focus (repeat' first | exact Ext.one _ _ | exact Ext.here _ _ | exact Ext.all _ | apply Keep.cons | apply Keep.app | apply Keep.last | apply Ext.cons | apply Ext.app); done)
      · rintro ⟨j, st1⟩ ⟨hj, hI1⟩
        simp only at hj hI1 ⊢
        rcases Nat.lt_or_ge j zs.length with hjl | hjg
        · obtain ⟨y, hy⟩ : ∃ y, zs[j]? = some y := ⟨_, List.getElem?_eq_getElem (by omega)⟩
          obtain ⟨b9, j9, k9, rfl⟩ := ovsome hovz (by omega)
          have hcy : ∀ w1, RdSl w1 (ovp (some (b9, j9, k9))) iV zs → w1.cell? ⟨b9, 0 + j * 1, none⟩ = some (.int .i64 y) := by
            intro w1 h1
            obtain ⟨b', o', hpe', H'⟩ := h1.at hy
            cases hpe'
            exact H' 1 iV_len 0 (by decide)
          have hbl : (prI (ls.take i) ++ (zs.take j).flatMap pB).length ≤ 3000 := by
            rw [List.length_append, fpB_len, List.length_take]
            omega
          have hca : ∀ bp : Nat, cat [⟨some ⟨bp, 0, none⟩, 2, pB y⟩] = pB y := fun _ => by simp [cat]
          have hpl2 : (pB y).length = 2 := rfl
          have hbd : ∀ bp : Nat, ((prI (ls.take i) ++ (zs.take j).flatMap pB) ++ cat [⟨some ⟨bp, 0, none⟩, 2, pB y⟩]).length ≤ 1000000000 := fun bp => by rw [hca, List.length_append, hpl2]; omega
          have hadd := fun (bp bq : Nat) w1 h2 h3 h4 h5 => rAdd_ok b3 st1 (prI (ls.take i) ++ (zs.take j).flatMap pB) hI1 (some ⟨bq, 0, none⟩) 1 1 [⟨some ⟨bp, 0, none⟩, 2, pB y⟩] rfl (by rw [hca]; exact pB_byt y) (hbd bp) (by decide) w1 h2 h3 (fun z hz => by rw [List.mem_singleton.1 hz]; exact ⟨h4, h5⟩)
          have hnx : prI (ls.take i) ++ (zs.take (j + 1)).flatMap pB = (prI (ls.take i) ++ (zs.take j).flatMap pB) ++ pB y := by
            rw [List.take_add_one, hy, List.flatMap_append, List.append_assoc]
            simp
          repeat' (first | (apply R.is1; first | (apply R.isBin; (apply R.pure; exact rfl; first | (apply Ok1.lss_t; exact rfl; exact rfl; omega) | (apply Ok1.shr; exact rfl; exact rfl; omega; exact Nat.le_of_ble_eq_true rfl; (exact pwE8)))) | (apply R.pure; exact rfl; first | (apply Ok1.indexAddrP (b := b9) (o := 0); (iterate 6 exact rfl); omega; omega) | (apply Ok1.load; exact rfl; apply Ld.of1; exact rfl; exact rfl; intro w1 hw1; exact hcy w1 (irdown hovz hw1 (Ext.mem (by (focus (repeat' first | exact Ext.one _ _ | apply Ext.cons | apply Ext.app); done))))) | (apply Ok1.move; exact rfl) | (apply Ok1.assign; exact rfl) | (apply Ok1.conv; (iterate 5 exact rfl))) | (apply R.buildSlice; (iterate 12 exact rfl); intro)) | apply R.nil | (apply T.is; first | apply T.seq | apply T.region | apply T.block | apply T.skip | (apply T.cond_t; exact rfl)))
          rename_i bp bq
          repeat' (first | (apply R.is1; first | (apply R.isBin; (apply R.pure; exact rfl; (apply Ok1.add64; exact rfl; exact rfl; omega; omega))) | (apply R.isCall; (apply R.callE (Li := RL b3 st1) (vs := [.pointer (some ⟨b3, 0, none⟩), .slice (some ⟨bq, 0, none⟩) 1 1]); (iterate 3 exact rfl); (focus (repeat' first | exact Ext.here _ _ | apply Ext.cons); done); intro w1 hw1; exact hadd bp bq w1 (RdSl.of (junk := []) hw1 (by exact At.head) rfl) (fun _ => Off.of (k := 0) hw1 (by (focus (repeat' first | exact Ext.here _ _ | apply Ext.cons); done)) (by exact At.head)) (RdSl.of (v := u8V) (rs := pB y) (junk := []) hw1 (by (focus (repeat' first | exact At.head | apply At.tail); done)) rfl) (fun _ => Off.of (k := 0) hw1 (by (focus (repeat' first | exact Ext.here _ _ | apply Ext.cons); done)) (by (focus (repeat' first | exact At.head | apply At.tail); done))); rintro v Lo ⟨st2, rfl, rfl, hI2, hon2⟩; rw [hca] at hI2)) | (apply R.pure; exact rfl; (apply Ok1.move; exact rfl))) | apply R.nil | (apply T.is; apply T.region))
          exact ⟨(j + 1, st2), ⟨by simp only; omega, by simp only [hnx]; exact hI2⟩, by simp only; omega, ⟨rfl, rfl, rfl, rfl, rfl, rfl, rfl, trivial⟩, by (focus (repeat' first | exact Keep.nil _ | exact Ext.one _ _ | exact Ext.here _ _ | apply Keep.cons | apply Keep.app | apply Ext.cons | apply Ext.app); done)⟩
        · have hjz : j = zs.length := by omega
          subst hjz
          rw [List.take_length, ← hsn] at hI1
          repeat' (first | (apply R.is1; first | (apply R.isBin; (apply R.pure; exact rfl; first | (apply Ok1.add64; exact rfl; exact rfl; omega; omega) | (apply Ok1.lss_f; exact rfl; exact rfl; omega))) | (apply R.pure; exact rfl; (apply Ok1.move; exact rfl))) | apply R.nil | (apply T.is; first | apply T.seq | apply T.region | apply T.exit | (apply T.cond_f; exact rfl)))
          exact ⟨(i + 1, st1), ⟨by simp only; omega, hI1⟩, by simp only; omega, ⟨rfl, rfl, rfl, rfl, trivial⟩, by (focus (repeat' first | exact Ext.one _ _ | exact Ext.here _ _ | apply Keep.cons | apply Keep.last); done)⟩
    · have him : i = 4 := by omega
      subst him
      rw [List.take_of_length_le (by omega)] at hI hpl
      have hsum := fun w1 hb h2 => rSum_ok b3 st (prI ls) hI (by omega) w1 hb h2
      have hls : (u8s (shaI (prI ls))).length = 32 := by rw [u8s_len, sha_len]
      have hone := u8s_one (shaI (prI ls))
      have hset : ∀ cs : List Value, cs.length = 32 → setE cs 0 (u8s (shaI (prI ls))) = some (u8s (shaI (prI ls))) := fun cs h => setE_all (by rw [hls, h])
      have hsub := subE_all hls
      generalize shaI (prI ls) = d0 at *
      repeat' (first | (apply R.is1; first | (apply R.isBin; (apply R.pure; exact rfl; (apply Ok1.lss_f; exact rfl; exact rfl; omega))) | (apply R.isCall; (apply R.callV (vs := [.pointer (some ⟨b3, 0, none⟩)]); (iterate 3 exact rfl); intro w1 hw1; exact hsum w1 (hw1.get _ _ (List.mem_cons_of_mem _ List.mem_cons_self)) (hI.rd hw1 (fun z hz => List.mem_cons_of_mem _ (List.mem_cons_of_mem _ hz)))))) | (apply R.is0; (apply R.store; (iterate 4 exact rfl); exact hls; exact hone; exact Upd.head; exact hset _ rfl)) | apply R.nil | (apply T.is; first | apply T.seq | apply T.region | apply T.exit | apply T.ret | (apply T.cond_f; exact rfl)))
      all_goals apply RetOk.c
      all_goals first | exact rfl | skip
      all_goals (apply Ld.ownk; exact rfl; exact rfl; exact At.head; exact hsub)
theorem print_ok (bs : Nat) (gs : List Lg) (hg : GOk gs) (w : World) (hs : SetR w bs gs) : CallW Tryz.prog 103 [.pointer (some ⟨bs, 0, none⟩)] w fun v _ => v = .agg ⟨u8s (shaI (prI (lgs gs)))⟩ :=
  print_gen _ (lgs gs) (by rw [lgs, List.length_map, hg.len]) (fun xs hx => by obtain ⟨g, hgm, rfl⟩ := List.mem_map.1 hx; exact hg.le g hgm) w fun i xs hi w1 hc => by
    rw [lgs, List.getElem?_map] at hi
    cases hgi : gs[i]? with
    | none => rw [hgi] at hi; cases hi
    | some g =>
      rw [hgi] at hi
      cases hi
      exact log_ok bs gs hg i g hgi w1 (hs.chg hc)
/-- A digest: versions, and eight bytes. -/
def dgV (vs p8 : List Int) : List Value := iis vs ++ u8s p8
theorem dg_len {vs p8 : List Int} (hv : vs.length = 4) (hp : p8.length = 8) : (dgV vs p8).length = 12 := by simp [dgV, iis_len, u8s_len, hv, hp]
theorem dg_one (vs p8 : List Int) : (dgV vs p8).all Value.oneCell' = true := by rw [dgV, List.all_append, iis_one, u8s_one]; rfl
theorem fill_dg (a b : Nat) {vs p8 : List Int} (hv : vs.length = 4) (hp : p8.length = 8) : fillE (fldPl [(a, 0, 4), (b, 4, 8)]) (dgV [0, 0, 0, 0] [0, 0, 0, 0, 0, 0, 0, 0]) [(0, .agg ⟨iis vs⟩), (1, .agg ⟨u8s p8⟩)] = some (dgV vs p8) := by
  match vs, hv, p8, hp with
  | [v0, v1, v2, v3], _, [x0, x1, x2, x3, x4, x5, x6, x7], _ => rfl
theorem dOf_gen (s : Value) (vs pr : List Int) (hv : vs.length = 4) (hp : pr.length = 32) (w : World) (hpr : ∀ w1, Chg [] w w1 → CallW Tryz.prog 103 [s] w1 fun v _ => v = .agg ⟨u8s pr⟩) (hve : ∀ w1, Chg [] w w1 → CallW Tryz.prog 70 [s] w1 fun v _ => v = .agg ⟨iis vs⟩) :
    CallW Tryz.prog 79 [s] w fun v _ => v = .agg ⟨dgV vs (pr.take 8)⟩ := by
  have hpl : (u8s pr).length = 32 := by rw [u8s_len, hp]
  have hpo := u8s_one pr
  have h8 : (pr.take 8).length = 8 := by rw [List.length_take, hp]; rfl
  have hs8 : subE (u8s pr) 0 8 = some (u8s (pr.take 8)) := by
    have : u8s pr = u8s (pr.take 8) ++ u8s (pr.drop 8) := by rw [← u8s_app, List.take_append_drop]
    rw [this]
    exact subE_app _ _ (by rw [u8s_len, h8])
  have hset : ∀ cs : List Value, cs.length = 32 → setE cs 0 (u8s pr) = some (u8s pr) := fun cs h => setE_all (by rw [hpl, h])
  have hfill := fun a b => fill_dg a b hv h8
  have hdl := dg_len hv h8
  have hdo := dg_one vs (pr.take 8)
  have hset2 : ∀ cs : List Value, cs.length = 12 → setE cs 0 (dgV vs (pr.take 8)) = some (dgV vs (pr.take 8)) := fun cs h => setE_all (by rw [hdl, h])
  have hsub := subE_all hdl
  generalize dgV vs (pr.take 8) = D at *
  generalize pr.take 8 = p8 at *
  generalize u8s pr = P at *
  refine enterW (tb := tb) Tryz.func79 rfl Tryz.ntmps79 rfl ?_
  repeat' (first | (apply R.is1; first | (apply R.isCall; (apply R.callV (vs := [s]); (iterate 3 exact rfl); intro w1 hw1; exact hpr w1 hw1.chg)) | (apply R.pure; exact rfl; (apply Ok1.move; exact rfl)) | (apply R.alloc; (iterate 3 exact rfl); intro)) | (apply R.is0; (apply R.store; (iterate 4 exact rfl); (exact hpl); (exact hpo); exact Upd.head; (exact hset _ rfl))) | apply R.nil | (apply T.is; first | (apply T.drawC (id := 2) [0] (by decide); ((apply A.tk 0; exact rfl; kernel_rfl; (apply Ok1.move; exact rfl)) <;> (apply A.call 1; exact rfl; exact rfl; kernel_rfl; kernel_rfl; kernel_rfl; exact rfl; exact rfl; (exact fun w1 hw1 => hve w1 hw1.chg)) <;> (apply A.tk 2; exact rfl; kernel_rfl; (apply Ok1.sliceArrTo (i := 8); (iterate 5 exact rfl); decide)) <;> (apply A.tk 3; exact rfl; kernel_rfl; (apply Ok1.arrAt; (iterate 3 exact rfl); decide)) <;> (apply A.tk 4; exact rfl; kernel_rfl; (apply Ok1.load; exact rfl; apply Ld.ownk; exact rfl; exact rfl; exact At.head; exact hs8)) <;> (apply A.tk 5; exact rfl; kernel_rfl; (apply Ok1.build; (iterate 4 exact rfl); exact hfill _ _)) <;> (apply A.one 6; kernel_rfl; exact rfl; (((apply R.store; (iterate 4 exact rfl); (exact hdl); (exact hdo); (focus (repeat' first | exact Upd.head | apply Upd.tail); done); (exact hset2 _ rfl)))); apply R.nil; refine ⟨?_, ?_⟩; (focus ((repeat' (first | exact trivial | (refine ⟨?_, ?_⟩; exact At.head)))))) <;> (apply A.done; kernel_rfl))) | apply T.seq | apply T.region | apply T.ret))
  all_goals apply RetOk.c
  all_goals first | exact rfl | skip
  all_goals (apply Ld.ownk; exact rfl; exact rfl; (focus (repeat' first | exact At.head | apply At.tail); done); exact hsub)
theorem dOf_ok (bs : Nat) (gs : List Lg) (hg : GOk gs) (w : World) (hs : SetR w bs gs) : CallW Tryz.prog 79 [.pointer (some ⟨bs, 0, none⟩)] w fun v _ => v = .agg ⟨dgV ((lgs gs).map fun x => (x.length : Int)) ((shaI (prI (lgs gs))).take 8)⟩ := by
  refine dOf_gen _ _ _ (by rw [List.length_map, lgs, List.length_map, hg.len]) (sha_len _) w (fun w1 hc => print_ok bs gs hg w1 (hs.chg hc)) (fun w1 hc => ?_)
  have h := versions_ok bs gs hg w1 (hs.chg hc)
  rw [lens_of rfl] at h
  exact h
theorem copy_ok (bs : Nat) (gs : List Lg) (hg : GOk gs) (w : World) (hs : SetR w bs gs) :
    CallM Tryz.prog 81 [.pointer (some ⟨bs, 0, none⟩)] [] w fun v L => ∃ bc gs', v = .pointer (some ⟨bc, 0, none⟩) ∧ lgs gs' = lgs gs ∧ GOk gs' ∧ L = SetL bc gs' := by
  have hlog := fun i g hi w1 (hc : Chg [] w w1) => log_ok bs gs hg i g hi w1 (hs.chg hc)
  refine enterK (tb := tb) Tryz.func81 rfl Tryz.ntmps81 rfl ?_
  repeat' (first | (apply R.is1; first | (apply R.isBin; (apply R.pure; exact rfl; (apply Ok1.eqlP; (iterate 5 exact rfl)))) | (apply R.isCall; (apply R.callE (vs := []); (iterate 3 exact rfl); exact Ext.none _; intro w1 hw1; exact rnew_ok w1; rintro v Lo ⟨bc, rfl, rfl⟩)) | (apply R.pure; exact rfl; first | (apply Ok1.move; exact rfl) | (apply Ok1.assign; exact rfl))) | apply R.nil | (apply T.is; first | apply T.seq | apply T.region | apply T.block | apply T.skip | (apply T.cond_f; exact rfl)))
  apply T.loopK (α := Nat × List Lg) (I := fun y => y.1 ≤ 4 ∧ GOk y.2 ∧ lgs y.2 = (lgs gs).take y.1 ++ List.replicate (4 - y.1) []) (σi := fun y => [(0, .pointer (some ⟨bs, 0, none⟩)), (3, .pointer (some ⟨bc, 0, none⟩)), (8, .int .i64 y.1)]) (Li := fun y => SetL bc y.2) (μ := fun y => 4 - y.1) (i0 := (0, [lg0, lg0, lg0, lg0]))
  · exact ⟨Nat.zero_le _, GOk.new, rfl⟩
  · exact ⟨rfl, rfl, rfl, trivial⟩
  · (focus (repeat' first | exact Keep.nil _ | exact Ext.one _ _ | apply Keep.cons); done)
  · rintro ⟨i, gs2⟩ ⟨hi, hg2, hlg⟩
    simp only at hi hg2 hlg ⊢
    simp only [SetL]
    rcases Nat.lt_or_ge i 4 with hlt | hge
    · obtain ⟨g, hx⟩ : ∃ g, gs[i]? = some g := ⟨_, List.getElem?_eq_getElem (by rw [hg.len]; omega)⟩
      obtain ⟨g2, hx3⟩ : ∃ g2, gs2[i]? = some g2 := ⟨_, List.getElem?_eq_getElem (by rw [hg2.len]; omega)⟩
      have h1 := hlog i g hx
      have hgl := hg.le g (List.mem_of_getElem? hx)
      have hset := fun g' => setV_set (gs := gs2) (i := i) g' (by rw [hg2.len]; omega)
      repeat' (first | (apply R.is1; first | (apply R.isBin; (apply R.pure; exact rfl; first | (apply Ok1.add64; exact rfl; exact rfl; omega; omega) | (apply Ok1.lss_t; exact rfl; exact rfl; omega))) | (apply R.pure; exact rfl; first | (apply Ok1.move; exact rfl) | (apply Ok1.assign; exact rfl))) | apply R.nil | (apply T.is; first | (apply T.drawC (id := 7) [] (by decide); ((apply A.tk 0; exact rfl; kernel_rfl; (apply Ok1.move; exact rfl)) <;> (apply A.tk 1; exact rfl; kernel_rfl; (apply Ok1.move; exact rfl)) <;> (apply A.tk 2; exact rfl; kernel_rfl; (apply Ok1.move; exact rfl)) <;> (apply A.tk 3; exact rfl; kernel_rfl; (apply Ok1.move; exact rfl)) <;> (apply A.tk 5; exact rfl; kernel_rfl; (apply Ok1.nilCheck; exact rfl)) <;> (apply A.tk 6; exact rfl; kernel_rfl; (apply Ok1.fieldAddr; (iterate 5 exact rfl))) <;> (apply A.one 4; kernel_rfl; exact rfl; (((apply R.callE (vs := [.pointer (some ⟨bs, 0, none⟩), .int .i64 i]); (iterate 3 exact rfl); exact Ext.none _; intro w1 hw1; exact h1 w1 hw1.chg; rintro v Lo ⟨ov, hov, rfl, rfl⟩; rw [slV_eq hov]))); apply R.nil; refine ⟨?_, ?_⟩; (focus ((repeat' (exact trivial))))) <;> (apply A.tk 7; exact rfl; kernel_rfl; (apply Ok1.indexAddrA; (iterate 5 exact rfl); omega; omega)) <;> (apply A.one 8; kernel_rfl; exact rfl; (((apply R.store; (iterate 6 exact rfl); (focus (repeat' first | exact Upd.head | apply Upd.right); done); have h9 := hset ⟨ov, g.xs⟩; rw [Lg.v_eq (g := ⟨ov, g.xs⟩) hov] at h9; exact h9))); apply R.nil; refine ⟨?_, ?_⟩; (focus ((repeat' (exact trivial))))) <;> (apply A.done; kernel_rfl))) | apply T.seq | apply T.region | apply T.block | apply T.skip | (apply T.cond_t; exact rfl)))
      refine ⟨(i + 1, gs2.set i ⟨ov, g.xs⟩), ⟨by simp only; omega, hg2.set i hov hgl, ?_⟩, by simp only; omega, ⟨rfl, rfl, rfl, trivial⟩, ?_⟩
      · have hl : (lgs gs)[i]? = some g.xs := by rw [lgs, List.getElem?_map, hx]; rfl
        rw [lgs, List.map_set, ← lgs, hlg, show 4 - i = (4 - (i + 1)) + 1 by omega, set_mid (by rw [List.length_take, lgs, List.length_map, hg.len]; omega), List.take_add_one, hl]
        simp
      · simp only
        rw [LsL_set _ (by rw [hg2.len]; omega), LsL_at hx3]
        simp only [Lg.L]
        (focus (repeat' first | exact Ext.one _ _ | exact Ext.here _ _ | exact Ext.all _ | apply Keep.cons | apply Keep.app | apply Keep.last | apply Ext.app); done)
    · have him : i = 4 := by omega
      subst him
      rw [List.take_of_length_le (by rw [lgs, List.length_map, hg.len]; omega), Nat.sub_self, List.replicate_zero, List.append_nil] at hlg
      repeat' (first | (apply R.is1; first | (apply R.isBin; (apply R.pure; exact rfl; (apply Ok1.lss_f; exact rfl; exact rfl; omega))) | (apply R.pure; exact rfl; first | (apply Ok1.move; exact rfl) | (apply Ok1.assign; exact rfl))) | apply R.nil | (apply T.is; first | apply T.seq | apply T.region | apply T.exit | apply T.ret | (apply T.cond_f; exact rfl)))
      (apply RetOk.t; exact rfl)
      exact ⟨_, by (focus (repeat' first | exact Ext.one _ _ | exact Ext.all _ | apply Keep.cons | apply Keep.last); done), bc, gs2, rfl, hlg, hg2, rfl⟩
theorem or8 (m c : Nat) (hm : m < 72057594037927936) (hc : c < 256) : orI .u64 ((m : Int) * 256) c = (m : Int) * 256 + c := by
  unfold orI
  have e1 : ((m : Int) * 256) = ((m * 256 : Nat) : Int) := by omega
  rw [e1, BitVec.ofInt_natCast, BitVec.ofInt_natCast, BitVec.toNat_or, BitVec.toNat_ofNat, BitVec.toNat_ofNat]
  have hb : IntKind.u64.bits = 64 := rfl
  rw [hb, Nat.mod_eq_of_lt (by omega), Nat.mod_eq_of_lt (by omega)]
  have h := Nat.shiftLeft_add_eq_or_of_lt (b := c) (i := 8) (by omega) m
  rw [Nat.shiftLeft_eq] at h
  rw [← h, wrap_u64 (by omega) (by omega)]
  omega
section
variable {X : Cx} {σ : Env} {L : Lst} {ty t : TypeId} {pos : String} {af : Array Edge} {x : Operand} {r re : TRow} {d : Option Nat} {g : Option (Nat × Bool)} {e : TypeId} {p : Option Addr} {n cap j : Nat}
theorem Ok1.pre3 {hi mx : Operand} (ht : X.tb.row t = some r) (hk : r.k = .slice e) (he : X.tb.row e = some re) (hx : ev σ x = some (.slice p n cap)) (hh : ev σ hi = some (.int .i64 j)) (hm : ev σ mx = some (.int .i64 j)) (h2 : j ≤ cap) :
    Ok1 X ⟨d, .slice t x none (some hi) (some mx), ty, pos, af, g⟩ σ L (.slice p j j) := .mk fun a w ha hw => by
  rw [slice_run (l := 0) (h := (j : Int)) (m := (j : Int)) X.tb ht hk he ha hx (by simp [bd, hm]) (by simp [bd, hh]) rfl (by omega) (by omega) (by omega) (by omega) (.inr (by simp))]
  have : p.map (·.add (0 * re.size)) = p := by cases p <;> simp [Addr.add]
  simp only [Int.toNat_zero, this, ite_self, Int.toNat_natCast, Nat.sub_zero]
end
/-- The number that bytes make, the highest first. -/
def beN (xs : List Int) : Int := xs.foldl (fun a c => a * 256 + c) 0
theorem be_snoc {xs : List Int} {i : Nat} {x : Int} (h : xs[i]? = some x) : beN (xs.take (i + 1)) = beN (xs.take i) * 256 + x := by
  unfold beN
  rw [List.take_add_one, h, List.foldl_append]
  rfl
theorem be_range : ∀ (n : Nat) (xs : List Int), xs.length = n → Byt xs → 0 ≤ beN xs ∧ beN xs < 256 ^ n := by
  intro n
  induction n with
  | zero => intro xs h _; rw [List.length_eq_zero_iff.1 h]; exact ⟨Int.le_refl _, by decide⟩
  | succ n ih =>
    intro xs h hb
    obtain ⟨x, hx⟩ : ∃ x, xs[n]? = some x := ⟨_, List.getElem?_eq_getElem (by omega)⟩
    have h1 := ih (xs.take n) (by rw [List.length_take]; omega) fun y hy => hb y (List.mem_of_mem_take hy)
    have h2 := be_snoc hx
    rw [List.take_of_length_le (by omega)] at h2
    have h3 := hb x (List.mem_of_getElem? hx)
    have h4 : (256 : Int) ^ (n + 1) = 256 ^ n * 256 := Int.pow_succ ..
    omega
/-- What is left to be read, and the first error. -/
structure Rs where
  q : Option Addr
  cap : Nat
  xs : List Int
  e : Int
def Rs.L (s : Rs) (br : Nat) : Lst := [(br, .cells ⟨[.slice s.q s.xs.length s.cap, .int .i64 s.e]⟩ 205 (0, 0))]
def Rs.fail (s : Rs) (e : Int) : Rs := if s.e = 0 then ⟨none, 0, [], e⟩ else s
def Rs.drop (s : Rs) (k : Nat) : Rs := ⟨sufP s.q s.cap k 1, s.cap - k, s.xs.drop k, s.e⟩
structure Rs.ok (s : Rs) (br : Nat) (w : World) : Prop where
  rd : RdSl w s.q u8V s.xs
  cap : s.xs.length ≤ s.cap
  off : s.xs ≠ [] → Off s.q [br]
  byt : Byt s.xs
  big : s.xs.length ≤ 1000000000
theorem rfail_ok (br : Nat) (s : Rs) (e : Int) (w : World) : CallM Tryz.prog 99 [.pointer (some ⟨br, 0, none⟩), .int .i64 e] (s.L br) w fun v L => v = .tuple #[] ∧ L = (s.fail e).L br := by
  by_cases h : s.e = 0
  · refine enterK (tb := tb) Tryz.func99 rfl Tryz.ntmps99 rfl ?_
    rw [Rs.fail, if_pos h]
    simp only [Rs.L, h]
    repeat' (first | (apply R.is1; first | (apply R.isBin; (apply R.pure; exact rfl; (apply Ok1.eql_t; exact rfl; exact rfl; omega))) | (apply R.pure; exact rfl; first | (apply Ok1.move; exact rfl) | (apply Ok1.fieldAddr; (iterate 5 exact rfl)) | (apply Ok1.load; exact rfl; (apply Ld.own1; exact rfl; exact rfl; exact At.head; exact rfl)) | (apply Ok1.nilCheck; exact rfl))) | (apply R.is0; (apply R.store; (iterate 6 exact rfl); exact Upd.head; exact rfl)) | apply R.nil | (apply T.is; first | apply T.seq | apply T.region | (apply T.cond_t; exact rfl)))
    (apply RetOk.n)
    exact ⟨_, by (focus (repeat' first | exact Keep.nil _ | exact Ext.one _ _ | apply Keep.cons); done), rfl, rfl⟩
  · refine enterK (tb := tb) Tryz.func99 rfl Tryz.ntmps99 rfl ?_
    rw [Rs.fail, if_neg h]
    simp only [Rs.L]
    repeat' (first | (apply R.is1; first | (apply R.isBin; (apply R.pure; exact rfl; (apply Ok1.eql_f; exact rfl; exact rfl; omega))) | (apply R.pure; exact rfl; first | (apply Ok1.move; exact rfl) | (apply Ok1.fieldAddr; (iterate 5 exact rfl)) | (apply Ok1.load; exact rfl; (apply Ld.own1; exact rfl; exact rfl; exact At.head; exact rfl)) | (apply Ok1.nilCheck; exact rfl))) | apply R.nil | (apply T.is; first | apply T.seq | apply T.region | apply T.skip | (apply T.cond_f; exact rfl)))
    (apply RetOk.n)
    exact ⟨_, by (focus (repeat' first | exact Keep.nil _ | exact Ext.one _ _ | apply Keep.cons); done), rfl, rfl⟩
theorem rtake_no (br : Nat) (s : Rs) (k : Nat) (h : s.e ≠ 0 ∨ s.xs.length < k) (w : World) : CallM Tryz.prog 203 [.pointer (some ⟨br, 0, none⟩), .int .i64 k] (s.L br) w fun v L => v = .slice none 0 0 ∧ L = (s.fail 4).L br := by
  have hf := fun w1 => rfail_ok br s 4 w1
  refine enterK (tb := tb) Tryz.func203 rfl Tryz.ntmps203 rfl ?_
  generalize (s.fail 4).L br = L4 at *
  by_cases he : s.e = 0
  · have hk : s.xs.length < k := h.resolve_left fun h => h he
    simp only [Rs.L, he] at hf ⊢
    repeat' (first | (apply R.is1; first | (apply R.isBin; (apply R.pure; exact rfl; first | (apply Ok1.gtr_t; exact rfl; exact rfl; omega) | (apply Ok1.neq_f; exact rfl; exact rfl; omega))) | (apply R.isCall; first | (apply R.callE (Li := [(br, .cells ⟨[.slice s.q s.xs.length s.cap, .int .i64 0]⟩ 205 (0, 0))]); (iterate 3 exact rfl); (focus ((repeat' (exact Ext.one _ _)); done)); intro w1 hw1; exact hf w1; rintro v Lo ⟨rfl, rfl⟩) | (apply R.pure; exact rfl; (apply Ok1.lenS; (iterate 3 exact rfl)))) | (apply R.pure; exact rfl; first | (apply Ok1.move; exact rfl) | (apply Ok1.fieldAddr; (iterate 5 exact rfl)) | (apply Ok1.load; exact rfl; (apply Ld.own1; exact rfl; exact rfl; exact At.head; exact rfl)) | (apply Ok1.assign; exact rfl) | (apply Ok1.pick_f; exact rfl; exact rfl) | (apply Ok1.nilCheck; exact rfl))) | (apply R.isG; (apply R.guard_run; exact rfl; exact rfl)) | apply R.nil | (apply T.is; first | apply T.seq | apply T.region | apply T.ret | (apply T.cond_t; exact rfl)))
    (apply RetOk.t; exact rfl)
    exact ⟨_, by (focus (repeat' first | exact Ext.here _ _ | apply Keep.last); done), rfl, rfl⟩
  · simp only [Rs.L] at hf ⊢
    repeat' (first | (apply R.is1; first | (apply R.isBin; (apply R.pure; exact rfl; (apply Ok1.neq_t; exact rfl; exact rfl; omega))) | (apply R.isCall; (apply R.callE (Li := [(br, .cells ⟨[.slice s.q s.xs.length s.cap, .int .i64 s.e]⟩ 205 (0, 0))]); (iterate 3 exact rfl); (focus ((repeat' (exact Ext.one _ _)); done)); intro w1 hw1; exact hf w1; rintro v Lo ⟨rfl, rfl⟩)) | (apply R.pure; exact rfl; first | (apply Ok1.move; exact rfl) | (apply Ok1.fieldAddr; (iterate 5 exact rfl)) | (apply Ok1.load; exact rfl; (apply Ld.own1; exact rfl; exact rfl; exact At.head; exact rfl)) | (apply Ok1.assign; exact rfl) | (apply Ok1.pick_t; exact rfl; exact rfl) | (apply Ok1.nilCheck; exact rfl))) | (apply R.isG; (apply R.guard_not; (iterate 3 exact rfl))) | apply R.nil | (apply T.is; first | apply T.seq | apply T.region | apply T.ret | (apply T.cond_t; exact rfl)))
    (apply RetOk.t; exact rfl)
    exact ⟨_, by (focus (repeat' first | exact Ext.here _ _ | apply Keep.last); done), rfl, rfl⟩
theorem rtake_ok (br : Nat) (s : Rs) (k : Nat) (he : s.e = 0) (hk : k ≤ s.xs.length) (hc : s.xs.length ≤ s.cap) (w : World) : CallM Tryz.prog 203 [.pointer (some ⟨br, 0, none⟩), .int .i64 k] (s.L br) w fun v L => v = .slice s.q k k ∧ L = (s.drop k).L br := by
  refine enterK (tb := tb) Tryz.func203 rfl Tryz.ntmps203 rfl ?_
  simp only [Rs.L, Rs.drop, he, List.length_drop]
  repeat' (first | (apply R.is1; first | (apply R.isBin; (apply R.pure; exact rfl; first | (apply Ok1.gtr_f; exact rfl; exact rfl; omega) | (apply Ok1.neq_f; exact rfl; exact rfl; omega))) | (apply R.isCall; (apply R.pure; exact rfl; (apply Ok1.lenS; (iterate 3 exact rfl)))) | (apply R.pure; exact rfl; first | (apply Ok1.pre3 (j := k); (iterate 6 exact rfl); omega) | (apply Ok1.sufR (i := k) (sz := 1); (iterate 6 exact rfl); exact hk; exact hc) | (apply Ok1.move; exact rfl) | (apply Ok1.fieldAddr; (iterate 5 exact rfl)) | (apply Ok1.load; exact rfl; (apply Ld.own1; exact rfl; exact rfl; exact At.head; exact rfl)) | (apply Ok1.assign; exact rfl) | (apply Ok1.pick_f; exact rfl; exact rfl) | (apply Ok1.nilCheck; exact rfl))) | (apply R.is0; (apply R.store; (iterate 6 exact rfl); exact Upd.head; exact rfl)) | (apply R.isG; (apply R.guard_run; exact rfl; exact rfl)) | apply R.nil | (apply T.is; first | apply T.seq | apply T.region | apply T.skip | apply T.ret | (apply T.cond_f; exact rfl)))
  (apply RetOk.t; exact rfl)
  exact ⟨_, by (focus (repeat' first | exact Keep.nil _ | exact Ext.one _ _ | apply Keep.cons); done), rfl, rfl⟩
/-- The next number of k bytes. -/
def Rs.num (s : Rs) (k : Nat) : Int × Bool × Rs :=
  if s.e ≠ 0 ∨ s.xs.length < k then (0, false, s.fail 4) else if beN (s.xs.take k) ≤ 9223372036854775807 then (beN (s.xs.take k), true, s.drop k) else (0, false, (s.drop k).fail 3)
theorem pw8 {z k : Nat} (hz : z ≤ 3) (hk : pw z = k) : 1 ≤ k ∧ k ≤ 8 ∧ IntKind.i64.wrap (1 * pw (z : Int).toNat) = k := by
  have : z = 0 ∨ z = 1 ∨ z = 2 ∨ z = 3 := by omega
  rcases this with rfl | rfl | rfl | rfl
  · have : k = 1 := by have h : pw 0 = 1 := rfl; omega
    subst this; exact ⟨by decide, by decide, by decide⟩
  · have : k = 2 := by have h : pw 1 = 2 := rfl; omega
    subst this; exact ⟨by decide, by decide, by decide⟩
  · have : k = 4 := by have h : pw 2 = 4 := rfl; omega
    subst this; exact ⟨by decide, by decide, by decide⟩
  · have : k = 8 := by have h : pw 3 = 8 := rfl; omega
    subst this; exact ⟨by decide, by decide, by decide⟩
theorem rnumber_ok (br : Nat) (s : Rs) (z k : Nat) (hz : z ≤ 3) (hk : pw z = k) (w : World) (hs : s.ok br w) : CallM Tryz.prog 202 [.pointer (some ⟨br, 0, none⟩), .int .i64 z] (s.L br) w fun v L => v = .tuple #[.int .i64 (s.num k).1, .bool (s.num k).2.1] ∧ L = (s.num k).2.2.L br := by
  obtain ⟨hk1, hk8, hwr⟩ := pw8 hz hk
  have hwd := width_ok (z : Int) k (by omega) (by omega) hwr
  refine enterK (tb := tb) Tryz.func202 rfl Tryz.ntmps202 rfl ?_
  by_cases h : s.e ≠ 0 ∨ s.xs.length < k
  · have ht := fun w1 => rtake_no br s k h w1
    rw [Rs.num, if_pos h]
    simp only
    generalize s.L br = L0 at *
    generalize (s.fail 4).L br = L4 at *
    repeat' (first | (apply R.is1; first | (apply R.isBin; (apply R.pure; exact rfl; first | (apply Ok1.lss_f; exact rfl; exact rfl; omega) | (apply Ok1.gtr_f; exact rfl; exact rfl; omega))) | (apply R.isCall; first | apply R.callP rfl rfl rfl hwd | (apply R.callE (Li := L0); (iterate 3 exact rfl); (focus ((repeat' (exact Ext.all _)); done)); intro w1 hw1; exact ht w1; rintro v Lo ⟨rfl, rfl⟩) | (apply R.pure; exact rfl; (apply Ok1.lenS; (iterate 3 exact rfl)))) | (apply R.pure; exact rfl; first | (apply Ok1.move; exact rfl) | (apply Ok1.assign; exact rfl) | (apply Ok1.convI64; (iterate 5 exact rfl); omega; omega))) | apply R.nil | (apply T.is; first | apply T.rounds 1 | apply T.seq | apply T.region | apply T.block | apply T.skip | apply T.exit | apply T.ret | (apply T.cond_f; exact rfl)))
    (apply RetOk.tt; exact rfl; exact rfl)
    exact ⟨_, by (focus (repeat' first | exact Ext.here _ _ | apply Keep.last); done), rfl, rfl⟩
  · have he : s.e = 0 := Classical.byContradiction fun h1 => h (.inl h1)
    have hkl : k ≤ s.xs.length := Nat.le_of_not_lt fun h1 => h (.inr h1)
    have ht := fun w1 => rtake_ok br s k he hkl hs.cap w1
    have hne : s.xs ≠ [] := by intro h0; rw [h0] at hkl; simp at hkl; omega
    have hoff := hs.off hne
    have hpre := hs.rd.pre u8V_len k
    have hbt : Byt (s.xs.take k) := fun y hy => hs.byt y (List.mem_of_mem_take hy)
    have hlt : (s.xs.take k).length = k := by rw [List.length_take]; omega
    have hbe : ∀ i ≤ k, 0 ≤ beN ((s.xs.take k).take i) ∧ beN ((s.xs.take k).take i) < 256 ^ i := fun i hi => be_range i _ (by rw [List.length_take]; omega) fun y hy => hbt y (List.mem_of_mem_take hy)
    rw [Rs.num, if_neg h]
    obtain ⟨q, hq⟩ : ∃ q, q = s.q := ⟨_, rfl⟩
    rw [← hq] at ht hoff hpre
    have hfl := fun w1 => rfail_ok br (s.drop k) 3 w1
    obtain ⟨S, hS⟩ : ∃ S, S = blks (s.L br) := ⟨_, rfl⟩
    have hoff : Off q S := by rw [hS]; exact hoff
    rw [← hS]
    generalize s.L br = L0 at *
    generalize s.drop k = s1 at *
    generalize s.xs.take k = ys at *
    repeat' (first | (apply R.is1; first | (apply R.isCall; first | apply R.callP rfl rfl rfl hwd | (apply R.callE (Li := L0); (iterate 3 exact rfl); (focus ((repeat' (exact Ext.all _)); done)); intro w1 hw1; exact ht w1; rintro v Lo ⟨rfl, rfl⟩) | (apply R.pure; exact rfl; (apply Ok1.lenS; (iterate 3 exact rfl)))) | (apply R.pure; exact rfl; first | (apply Ok1.move; exact rfl) | (apply Ok1.assign; exact rfl))) | apply R.nil | (apply T.is; first | apply T.seq | apply T.region | apply T.block))
    apply T.loopK (α := Nat) (I := fun i => i ≤ k) (σi := fun i => [(0, .pointer (some ⟨br, 0, none⟩)), (6, .slice q k k), (7, .int .u64 (beN (ys.take i))), (14, .slice q k k), (15, .int .i64 k), (16, .int .i64 i)]) (Li := fun _ => s1.L br) (μ := fun i => k - i) (i0 := 0)
    · exact Nat.zero_le _
    · exact ⟨rfl, rfl, rfl, rfl, rfl, rfl, trivial⟩
    · (focus (repeat' first | exact Keep.nil _ | exact Ext.one _ _ | apply Keep.cons); done)
    · intro i hi
      have hb := hbe i hi
      rcases Nat.lt_or_ge i k with hlt | hge
      · obtain ⟨y, hy⟩ : ∃ y, ys[i]? = some y := ⟨_, List.getElem?_eq_getElem (by omega)⟩
        obtain ⟨b, o, hpe, H⟩ := hpre.at hy
        replace H := H 1 u8V_len
        have hyb := hbt y (List.mem_of_getElem? hy)
        have hpw : (256 : Int) ^ i ≤ 72057594037927936 := by
          have : i = 0 ∨ i = 1 ∨ i = 2 ∨ i = 3 ∨ i = 4 ∨ i = 5 ∨ i = 6 ∨ i = 7 := by omega
          rcases this with rfl | rfl | rfl | rfl | rfl | rfl | rfl | rfl <;> decide
        have hor : orI .u64 (IntKind.u64.wrap (beN (ys.take i) * pw (Int.toNat 8))) y = beN (ys.take (i + 1)) := by
          rw [be_snoc hy]
          obtain ⟨m, hm⟩ : ∃ m : Nat, beN (ys.take i) = m := ⟨(beN (ys.take i)).toNat, by omega⟩
          obtain ⟨c, hc⟩ : ∃ c : Nat, y = c := ⟨y.toNat, by omega⟩
          rw [hm, hc, show pw (Int.toNat 8) = 256 from rfl, wrap_u64 (by omega) (by omega)]
          exact or8 m c (by omega) (by omega)
        repeat' (first | (apply R.is1; first | (apply R.isBin; (apply R.pure; exact rfl; first | (apply Ok1.shl; exact rfl; exact rfl; omega; exact Nat.le_of_ble_eq_true rfl; exact rfl) | (apply Ok1.orK; exact rfl; exact rfl) | (apply Ok1.add64; exact rfl; exact rfl; omega; omega) | (apply Ok1.lss_t; exact rfl; exact rfl; omega))) | (apply R.pure; exact rfl; first | (apply Ok1.indexAddrP; (iterate 4 exact rfl); exact hpe; exact rfl; omega; omega) | (apply Ok1.load; exact rfl; apply Ld.row1 (f := 0) H; exact rfl; exact hoff _ hpe; (iterate 3 exact rfl)) | (apply Ok1.move; exact rfl) | (apply Ok1.assign; exact rfl) | (apply Ok1.convU64; (iterate 5 exact rfl); omega; omega))) | apply R.nil | (apply T.is; first | apply T.seq | apply T.region | apply T.block | apply T.skip | (apply T.cond_t; exact rfl)))
        refine ⟨i + 1, by omega, by omega, ⟨rfl, rfl, ?_, rfl, rfl, rfl, trivial⟩, by (focus (repeat' first | exact Keep.nil _ | exact Ext.one _ _ | apply Keep.cons); done)⟩
        rw [← hor]; rfl
      · have hik : i = k := by omega
        subst hik
        rw [List.take_of_length_le (by omega)] at hb ⊢
        by_cases hmx : beN ys ≤ 9223372036854775807
        · rw [if_pos hmx]
          repeat' (first | (apply R.is1; first | (apply R.isBin; (apply R.pure; exact rfl; first | (apply Ok1.lss_f; exact rfl; exact rfl; omega) | (apply Ok1.gtr_t; exact rfl; exact rfl; omega) | (apply Ok1.gtr_f; exact rfl; exact rfl; omega))) | (apply R.isCall; (apply R.pure; exact rfl; (apply Ok1.lenS; (iterate 3 exact rfl)))) | (apply R.pure; exact rfl; first | (apply Ok1.move; exact rfl) | (apply Ok1.assign; exact rfl) | (apply Ok1.convI64; (iterate 5 exact rfl); omega; omega))) | apply R.nil | (apply T.is; first | apply T.seq | apply T.region | apply T.skip | apply T.exit | apply T.ret | (apply T.cond_f; exact rfl)))
          (apply RetOk.tt; exact rfl; exact rfl)
          exact ⟨_, by (focus (repeat' first | exact Keep.nil _ | exact Ext.one _ _ | apply Keep.cons); done), rfl, rfl⟩
        · rw [if_neg hmx]
          repeat' (first | (apply R.is1; first | (apply R.isBin; (apply R.pure; exact rfl; first | (apply Ok1.lss_f; exact rfl; exact rfl; omega) | (apply Ok1.gtr_t; exact rfl; exact rfl; omega))) | (apply R.isCall; (apply R.callE (Li := s1.L br); (iterate 3 exact rfl); (focus ((repeat' (exact Ext.one _ _)); done)); intro w1 hw1; exact hfl w1; rintro v Lo ⟨rfl, rfl⟩)) | (apply R.pure; exact rfl; first | (apply Ok1.move; exact rfl) | (apply Ok1.assign; exact rfl))) | apply R.nil | (apply T.is; first | apply T.seq | apply T.region | apply T.exit | apply T.ret | (apply T.cond_t; exact rfl) | (apply T.cond_f; exact rfl)))
          (apply RetOk.tt; exact rfl; exact rfl)
          exact ⟨_, by (focus (repeat' first | exact Keep.nil _ | exact Ext.one _ _ | apply Keep.cons); done), rfl, rfl⟩
/-- A field of a number. -/
def Rs.get (s : Rs) (z k : Nat) : List Value := if (s.num k).2.1 = true then fldV z (s.num k).1 else fldV 0 0
theorem rget_ok (br : Nat) (s : Rs) (z k : Nat) (hz : z ≤ 3) (hk : pw z = k) (w : World) (hs : s.ok br w) : CallM Tryz.prog 151 [.pointer (some ⟨br, 0, none⟩), .int .i64 z] (s.L br) w fun v L => v = .agg ⟨s.get z k⟩ ∧ L = (s.num k).2.2.L br := by
  have hn := fun w1 h1 => rnumber_ok br s z k hz hk w1 h1
  refine enterK (tb := tb) Tryz.func151 rfl Tryz.ntmps151 rfl ?_
  have hin : ∀ w1 S, Chg S w w1 → S = blks (s.L br) → s.ok br w1 := fun w1 S hc hS => ⟨hs.rd.chg' hc (fun h => hS ▸ hs.off h), hs.cap, hs.off, hs.byt, hs.big⟩
  rw [Rs.get]
  generalize s.num k = r at *
  obtain ⟨v1, v2, s'⟩ := r
  simp only at hn ⊢
  obtain ⟨S, hS⟩ : ∃ S, S = blks (s.L br) := ⟨_, rfl⟩
  rw [← hS]
  generalize s.L br = L0 at *
  cases v2 with
  | true =>
    repeat' (first | (apply R.is1; first | (apply R.isBin; (apply R.pure; exact rfl; first | (apply Ok1.lss_t; exact rfl; exact rfl; omega) | (apply Ok1.lss_f; exact rfl; exact rfl; omega) | (apply Ok1.gtr_f; exact rfl; exact rfl; omega) | (apply Ok1.eqlP; (iterate 5 exact rfl)))) | (apply R.isCall; (apply R.callE (Li := L0); (iterate 3 exact rfl); (focus (repeat' first | exact Ext.all _ | apply Ext.cons); done); intro w1 hw1; exact hn w1 (hin w1 _ hw1.chg hS); rintro v Lo ⟨rfl, rfl⟩)) | (apply R.pure; exact rfl; first | (apply Ok1.move; exact rfl) | (apply Ok1.fieldAddr; (iterate 5 exact rfl)) | (apply Ok1.assign; exact rfl) | (apply Ok1.build; (iterate 5 exact rfl)) | (apply Ok1.extract; exact rfl; exact rfl) | (apply Ok1.pick_f; exact rfl; exact rfl) | (apply Ok1.not_t; exact rfl) | (apply Ok1.nilCheck; exact rfl)) | (apply R.alloc; (iterate 3 exact rfl); intro)) | (apply R.is0; (apply R.store; (iterate 6 exact rfl); (focus (repeat' first | exact Upd.head | apply Upd.tail); done); exact rfl)) | (apply R.isG; (apply R.guard_run; exact rfl; exact rfl)) | apply R.nil | (apply T.is; first | apply T.seq | apply T.region | apply T.block | apply T.skip | apply T.ret | (apply T.cond_t; exact rfl) | (apply T.cond_f; exact rfl)))
    (apply RetOk.c; exact rfl; ((apply Ld.ownk; exact rfl; exact rfl; (focus (repeat' first | exact At.head | apply At.tail); done); exact rfl)))
    exact ⟨_, by (focus (repeat' first | exact Keep.nil _ | exact Ext.one _ _ | apply Keep.cons); done), rfl, rfl⟩
  | false =>
    repeat' (first | (apply R.is1; first | (apply R.isBin; (apply R.pure; exact rfl; first | (apply Ok1.lss_t; exact rfl; exact rfl; omega) | (apply Ok1.lss_f; exact rfl; exact rfl; omega) | (apply Ok1.gtr_f; exact rfl; exact rfl; omega) | (apply Ok1.eqlP; (iterate 5 exact rfl)))) | (apply R.isCall; (apply R.callE (Li := L0); (iterate 3 exact rfl); (focus (repeat' first | exact Ext.all _ | apply Ext.cons); done); intro w1 hw1; exact hn w1 (hin w1 _ hw1.chg hS); rintro v Lo ⟨rfl, rfl⟩)) | (apply R.pure; exact rfl; first | (apply Ok1.move; exact rfl) | (apply Ok1.fieldAddr; (iterate 5 exact rfl)) | (apply Ok1.assign; exact rfl) | (apply Ok1.build; (iterate 5 exact rfl)) | (apply Ok1.extract; exact rfl; exact rfl) | (apply Ok1.pick_f; exact rfl; exact rfl) | (apply Ok1.not_f; exact rfl) | (apply Ok1.nilCheck; exact rfl)) | (apply R.alloc; (iterate 3 exact rfl); intro)) | (apply R.is0; (apply R.store; (iterate 6 exact rfl); (focus (repeat' first | exact Upd.head | apply Upd.tail); done); exact rfl)) | (apply R.isG; (apply R.guard_run; exact rfl; exact rfl)) | apply R.nil | (apply T.is; first | apply T.seq | apply T.region | apply T.block | apply T.ret | (apply T.cond_t; exact rfl) | (apply T.cond_f; exact rfl)))
    (apply RetOk.c; exact rfl; ((apply Ld.ownk; exact rfl; exact rfl; (focus (repeat' first | exact At.head | apply At.tail); done); exact rfl)))
    exact ⟨_, by (focus (repeat' first | exact Keep.nil _ | exact Ext.one _ _ | apply Keep.cons); done), rfl, rfl⟩
theorem rnum_ok (br : Nat) (s : Rs) (z k : Nat) (hz : z ≤ 3) (hk : pw z = k) (w : World) (hs : s.ok br w) : CallM Tryz.prog 76 [.pointer (some ⟨br, 0, none⟩), .int .i64 z] (s.L br) w fun v L => v = .int .i64 (s.num k).1 ∧ L = (s.num k).2.2.L br := by
  have hn := fun w1 h1 => rget_ok br s z k hz hk w1 h1
  have hin : ∀ w1 S, Chg S w w1 → S = blks (s.L br) → s.ok br w1 := fun w1 S hc hS => ⟨hs.rd.chg' hc (fun h => hS ▸ hs.off h), hs.cap, hs.off, hs.byt, hs.big⟩
  have h0 : (s.num k).2.1 = false → (s.num k).1 = 0 := by
    unfold Rs.num
    split
    · exact fun _ => rfl
    · split
      · intro h; cases h
      · exact fun _ => rfl
  have hv : ∃ v0, s.get z k = [v0, .int .i64 (s.num k).1, .slice none 0 0] := by
    unfold Rs.get fldV
    cases h : (s.num k).2.1 with
    | true => exact ⟨_, rfl⟩
    | false => rw [h0 h]; exact ⟨_, rfl⟩
  obtain ⟨v0, hv⟩ := hv
  rw [hv] at hn
  refine enterK (tb := tb) Tryz.func76 rfl Tryz.ntmps76 rfl ?_
  generalize s.num k = r at *
  obtain ⟨v1, v2, s'⟩ := r
  simp only at hn ⊢
  obtain ⟨S, hS⟩ : ∃ S, S = blks (s.L br) := ⟨_, rfl⟩
  rw [← hS]
  generalize s.L br = L0 at *
  repeat' (first | (apply R.is1; first | (apply R.isBin; (apply R.pure; exact rfl; first | (apply Ok1.eql_f; exact rfl; exact rfl; omega) | (apply Ok1.neqP; (iterate 5 exact rfl)))) | (apply R.isCall; (apply R.callE (Li := L0); (iterate 3 exact rfl); (focus ((repeat' (exact Ext.all _)); done)); intro w1 hw1; exact hn w1 (hin w1 _ hw1.chg hS); rintro v Lo ⟨rfl, rfl⟩)) | (apply R.pure; exact rfl; first | (apply Ok1.move; exact rfl) | (apply Ok1.assign; exact rfl) | (apply Ok1.pick_t; exact rfl; exact rfl) | (apply Ok1.field1; (iterate 7 exact rfl)))) | (apply R.isG; (apply R.guard_run; exact rfl; exact rfl)) | apply R.nil | (apply T.is; first | apply T.seq | apply T.region | apply T.skip | apply T.ret | (apply T.cond_f; exact rfl)))
  (apply RetOk.t; exact rfl)
  exact ⟨_, by (focus (repeat' first | exact Keep.nil _ | exact Ext.one _ _ | apply Keep.cons); done), rfl, rfl⟩
theorem rerr_ok (br : Nat) (s : Rs) (w : World) (hb : w.heap[br]? = some (.cells ⟨[.slice s.q s.xs.length s.cap, .int .i64 s.e]⟩ 205 (0, 0))) : CallW Tryz.prog 96 [.pointer (some ⟨br, 0, none⟩)] w fun v _ => v = .int .i64 s.e := by
  refine enterW (tb := tb) Tryz.func96 rfl Tryz.ntmps96 rfl ?_
  repeat' (first | (apply R.is1; first | (apply R.isBin; (apply R.pure; exact rfl; (apply Ok1.eqlP; (iterate 5 exact rfl)))) | (apply R.pure; exact rfl; first | (apply Ok1.move; exact rfl) | (apply Ok1.fieldAddr; (iterate 5 exact rfl)) | (apply Ok1.load; exact rfl; (apply Ld.blk1; exact rfl; exact rfl; assumption; (exact List.not_mem_nil); exact rfl)) | (apply Ok1.assign; exact rfl) | (apply Ok1.nilCheck; exact rfl))) | apply R.nil | (apply T.is; first | apply T.seq | apply T.region | apply T.skip | apply T.ret | (apply T.cond_f; exact rfl)))
  (apply RetOk.t; exact rfl)
  rfl
theorem rleft_ok (br : Nat) (s : Rs) (w : World) (hb : w.heap[br]? = some (.cells ⟨[.slice s.q s.xs.length s.cap, .int .i64 s.e]⟩ 205 (0, 0))) : CallW Tryz.prog 163 [.pointer (some ⟨br, 0, none⟩)] w fun v _ => v = .int .i64 s.xs.length := by
  refine enterW (tb := tb) Tryz.func163 rfl Tryz.ntmps163 rfl ?_
  repeat' (first | (apply R.is1; first | (apply R.isBin; (apply R.pure; exact rfl; (apply Ok1.eqlP; (iterate 5 exact rfl)))) | (apply R.isCall; (apply R.pure; exact rfl; (apply Ok1.lenS; (iterate 3 exact rfl)))) | (apply R.pure; exact rfl; first | (apply Ok1.move; exact rfl) | (apply Ok1.fieldAddr; (iterate 5 exact rfl)) | (apply Ok1.load; exact rfl; (apply Ld.blk1; exact rfl; exact rfl; assumption; (exact List.not_mem_nil); exact rfl)) | (apply Ok1.assign; exact rfl) | (apply Ok1.nilCheck; exact rfl))) | apply R.nil | (apply T.is; first | apply T.seq | apply T.region | apply T.skip | apply T.ret | (apply T.cond_f; exact rfl)))
  (apply RetOk.t; exact rfl)
  rfl
def Rs.fin (s : Rs) : Int := if s.e ≠ 0 then s.e else if 0 < s.xs.length then 3 else 0
theorem rend_ok (br : Nat) (s : Rs) (w : World) (hb : w.heap[br]? = some (.cells ⟨[.slice s.q s.xs.length s.cap, .int .i64 s.e]⟩ 205 (0, 0))) : CallW Tryz.prog 100 [.pointer (some ⟨br, 0, none⟩)] w fun v _ => v = .int .i64 s.fin := by
  have h1 := fun w1 (hc : Chg [] w w1) => rerr_ok br s w1 (hc.heap hb List.not_mem_nil)
  have h2 := fun w1 (hc : Chg [] w w1) => rleft_ok br s w1 (hc.heap hb List.not_mem_nil)
  refine enterW (tb := tb) Tryz.func100 rfl Tryz.ntmps100 rfl ?_
  rw [Rs.fin]
  by_cases he : s.e = 0
  · rw [if_neg (fun h => h he)]
    rw [he] at h1
    by_cases hx : 0 < s.xs.length
    · rw [if_pos hx]
      repeat' (first | (apply R.is1; first | (apply R.isBin; (apply R.pure; exact rfl; first | (apply Ok1.gtr_t; exact rfl; exact rfl; omega) | (apply Ok1.neq_f; exact rfl; exact rfl; omega))) | (apply R.isCall; (apply R.callV; (iterate 3 exact rfl); intro w1 hw1; first | exact h1 w1 hw1.chg | exact h2 w1 hw1.chg)) | (apply R.pure; exact rfl; first | (apply Ok1.move; exact rfl) | (apply Ok1.assign; exact rfl))) | apply R.nil | (apply T.is; first | apply T.seq | apply T.region | apply T.skip | apply T.ret | (apply T.cond_t; exact rfl) | (apply T.cond_f; exact rfl)))
      (apply RetOk.t; exact rfl)
      rfl
    · rw [if_neg hx]
      repeat' (first | (apply R.is1; first | (apply R.isBin; (apply R.pure; exact rfl; first | (apply Ok1.gtr_f; exact rfl; exact rfl; omega) | (apply Ok1.neq_f; exact rfl; exact rfl; omega))) | (apply R.isCall; (apply R.callV; (iterate 3 exact rfl); intro w1 hw1; first | exact h1 w1 hw1.chg | exact h2 w1 hw1.chg)) | (apply R.pure; exact rfl; first | (apply Ok1.move; exact rfl) | (apply Ok1.assign; exact rfl))) | apply R.nil | (apply T.is; first | apply T.seq | apply T.region | apply T.skip | apply T.ret | (apply T.cond_f; exact rfl)))
      (apply RetOk.t; exact rfl)
      rfl
  · rw [if_pos he]
    repeat' (first | (apply R.is1; first | (apply R.isBin; (apply R.pure; exact rfl; (apply Ok1.neq_t; exact rfl; exact rfl; omega))) | (apply R.isCall; (apply R.callV; (iterate 3 exact rfl); intro w1 hw1; exact h1 w1 hw1.chg)) | (apply R.pure; exact rfl; first | (apply Ok1.move; exact rfl) | (apply Ok1.assign; exact rfl))) | apply R.nil | (apply T.is; first | apply T.seq | apply T.region | apply T.ret | (apply T.cond_t; exact rfl)))
    (apply RetOk.t; exact rfl)
    rfl
/-- A reader whose bytes lie in known blocks. -/
structure RsO (s : Rs) (M : Lst) : Prop where
  rd : ∀ (w0 w : World) (S : List Nat) (L' : Lst), Hp w0 S L' w → (∀ z ∈ M, z ∈ L') → RdSl w s.q u8V s.xs
  adr : s.xs ≠ [] → ∃ b o, s.q = some ⟨b, o, none⟩ ∧ b ∈ blks M
  cap : s.xs.length ≤ s.cap
  byt : Byt s.xs
  big : s.xs.length ≤ 1000000000
theorem RsO.ok {s : Rs} {M : Lst} (h : RsO s M) {br : Nat} {w0 w : World} {S : List Nat} {L Lr : Lst} (hw : Hp w0 S L w) (he : Ext L (s.L br) Lr) (hin : ∀ z ∈ M, z ∈ Lr) : s.ok br w := by
  refine ⟨h.rd _ _ _ _ hw fun z hz => he.perm.subset (List.mem_append_right _ (hin z hz)), h.cap, fun hne a ha => ?_, h.byt, h.big⟩
  obtain ⟨b, o, hp, hb⟩ := h.adr hne
  rw [hp] at ha
  cases ha
  obtain ⟨z, hz, hze⟩ := List.mem_map.1 hb
  obtain ⟨zb, zo⟩ := z
  simp only at hze
  subst hze
  exact RdSl.off hw he (hin _ hz)
theorem RsO.fail {s : Rs} {M : Lst} (h : RsO s M) (e : Int) : RsO (s.fail e) M := by
  unfold Rs.fail
  split
  · exact ⟨fun _ _ _ _ _ _ => .inl rfl, (fun h => absurd rfl h), Nat.zero_le _, (fun y hy => by cases hy), Nat.zero_le _⟩
  · exact h
theorem RsO.drop {s : Rs} {M : Lst} (h : RsO s M) {k : Nat} (hk : k ≤ s.xs.length) : RsO (s.drop k) M := by
  refine ⟨fun w0 w S L' hw hin => (h.rd w0 w S L' hw hin).suf u8V_len hk h.cap, fun hne => ?_, ?_, fun y hy => h.byt y (List.mem_of_mem_drop hy), ?_⟩
  · have h1 : s.xs ≠ [] := by intro h0; apply hne; simp [Rs.drop, h0]
    obtain ⟨b, o, hp, hb⟩ := h.adr h1
    by_cases hc : s.cap = k
    · exfalso; apply hne; simp only [Rs.drop]; exact List.drop_of_length_le (by have := h.cap; omega)
    · exact ⟨b, o + k * 1, by simp [Rs.drop, sufP, hc, hp, Addr.add_none], hb⟩
  · have := h.cap; simp only [Rs.drop, List.length_drop]; omega
  · have := h.big; simp only [Rs.drop, List.length_drop]; omega
theorem RsO.num {s : Rs} {M : Lst} (h : RsO s M) (k : Nat) : RsO (s.num k).2.2 M := by
  unfold Rs.num
  split
  · exact h.fail 4
  · rename_i hn
    have hk : k ≤ s.xs.length := Nat.le_of_not_lt fun h1 => hn (.inr h1)
    split
    · exact h.drop hk
    · exact (h.drop hk).fail 3
theorem ovc_leR {n : Nat} {ov : Ov} {xs : List Value} (h : OvOk 1 ov n xs) : n ≤ ovc ov n := by
  unfold ovc
  cases ov with
  | none => have := h.2; simp only at this ⊢; omega
  | some q => simp only; omega
theorem rnewr_ok (p : Option Addr) (n cap : Nat) (xs : List Int) (hn : n = xs.length) (hbig : n ≤ 1000000000) (hb : Byt xs) (w : World) (hp : RdSl w p u8V xs) :
    CallM Tryz.prog 26 [.slice p n cap] [] w fun v L => ∃ br s M, v = .pointer (some ⟨br, 0, none⟩) ∧ s.xs = (if n ≤ 1024 then xs else []) ∧ s.e = (if n ≤ 1024 then 0 else 2) ∧ RsO s M ∧ L = s.L br ++ M := by
  have hcl := fun w1 (hc : Chg [] w w1) => clone_ok p n cap xs hn hbig w1 (hp.chg' hc (fun _ => Off.nil _))
  subst hn
  have hro : ∀ ov, OvOk 1 ov xs.length (u8s xs) → RsO ⟨ovp ov, ovc ov xs.length, xs, 0⟩ (blkL 5 ov (u8s xs)) := fun ov hov => by
    rw [← fl_u8] at hov ⊢
    refine ⟨fun w0 w S L' hw hin => RdSl.own' hw hin hov u8V_len, fun hne => ?_, ?_, hb, hbig⟩
    · cases ov with
      | none => exact absurd (List.eq_nil_of_length_eq_zero hov.2) hne
      | some q => exact ⟨_, _, rfl, by simp [blks, blkL]⟩
    · exact ovc_leR hov
  refine enterK (tb := tb) Tryz.func26 rfl Tryz.ntmps26 rfl ?_
  by_cases hl : xs.length ≤ 1024
  · repeat' (first | (apply R.is1; first | (apply R.isBin; (apply R.pure; exact rfl; (apply Ok1.gtr_f; exact rfl; exact rfl; omega))) | (apply R.isCall; first | (apply R.callE; (iterate 3 exact rfl); exact Ext.none _; intro w1 hw1; exact hcl w1 hw1.chg; rintro v Lo ⟨ov, hov, hsome, rfl, rfl⟩; rw [slV_eq hov]) | (apply R.pure; exact rfl; (apply Ok1.lenS; (iterate 3 exact rfl)))) | (apply R.pure; exact rfl; first | (apply Ok1.move; exact rfl) | (apply Ok1.assign; exact rfl) | (apply Ok1.build; (iterate 5 exact rfl))) | (apply R.box; (iterate 3 exact rfl); intro)) | apply R.nil | (apply T.is; first | apply T.seq | apply T.region | apply T.skip | apply T.ret | (apply T.cond_f; exact rfl)))
    (apply RetOk.t; exact rfl)
    refine ⟨_, ?_, _, ⟨ovp ov, ovc ov xs.length, xs, 0⟩, _, rfl, by simp only [if_pos hl], by simp only [if_pos hl], hro ov hov, rfl⟩
    simp only [Rs.L, List.append_nil, List.cons_append, List.nil_append]
    (focus (repeat' first | exact Ext.one _ _ | exact Ext.all _ | apply Keep.cons | apply Keep.last); done)
  · repeat' (first | (apply R.is1; first | (apply R.isBin; (apply R.pure; exact rfl; (apply Ok1.gtr_t; exact rfl; exact rfl; omega))) | (apply R.isCall; first | (apply R.callE (vs := [.slice p xs.length cap]); (iterate 3 exact rfl); exact Ext.none _; intro w1 hw1; exact hcl w1 hw1.chg; rintro v Lo ⟨ov, hov, hsome, rfl, rfl⟩; rw [slV_eq hov]) | (apply R.callE (Li := [(_, .cells ⟨[.slice (ovp ov) xs.length (ovc ov xs.length), .int .i64 0]⟩ 205 (0, 0))]); (iterate 3 exact rfl); (focus ((repeat' (exact Ext.one _ _)); done)); intro w1 hw1; exact rfail_ok _ ⟨ovp ov, ovc ov xs.length, xs, 0⟩ 2 w1; rintro v Lo ⟨rfl, rfl⟩) | (apply R.pure; exact rfl; (apply Ok1.lenS; (iterate 3 exact rfl)))) | (apply R.pure; exact rfl; first | (apply Ok1.move; exact rfl) | (apply Ok1.fieldAddr; (iterate 5 exact rfl)) | (apply Ok1.assign; exact rfl) | (apply Ok1.build; (iterate 5 exact rfl)) | (apply Ok1.nilCheck; exact rfl)) | (apply R.box; (iterate 3 exact rfl); intro)) | apply R.nil | (apply T.is; first | apply T.seq | apply T.region | apply T.ret | (apply T.cond_t; exact rfl)))
    (apply RetOk.t; exact rfl)
    refine ⟨_, ?_, _, (⟨ovp ov, ovc ov xs.length, xs, 0⟩ : Rs).fail 2, _, rfl, by simp only [if_neg hl, Rs.fail, if_pos], by simp only [if_neg hl, Rs.fail, if_pos], (hro ov hov).fail 2, rfl⟩
    simp only [Rs.L, List.append_nil, List.cons_append, List.nil_append]
    (focus (repeat' first | exact Ext.one _ _ | exact Ext.all _ | apply Keep.cons | apply Keep.last); done)
/-- What is left behind so many numbers of two bytes, and these. -/
def Rs.st (s : Rs) : Nat → Rs
  | 0 => s
  | k + 1 => if (s.st k).e = 0 then ((s.st k).num 2).2.2 else s.st k
def Rs.vs (s : Rs) (n : Nat) : List Int := (List.range n).map fun k => ((s.st k).num 2).1
theorem Rs.vs_snoc (s : Rs) (n : Nat) : s.vs (n + 1) = s.vs n ++ [((s.st n).num 2).1] := by simp [Rs.vs, List.range_succ]
/-- A log: from where, its serials; what is left. -/
def Rs.log1 (s : Rs) : (Int × List Int) × Rs :=
  let a := s.num 2
  let b := a.2.2.num 2
  ((a.1, b.2.2.vs b.1.toNat), b.2.2.st b.1.toNat)
def Rs.logs (s : Rs) : Nat → List (Int × List Int) × Rs
  | 0 => ([], s)
  | k + 1 => ((s.logs k).1 ++ [(s.logs k).2.log1.1], (s.logs k).2.log1.2)
theorem Rs.num_range (s : Rs) (k : Nat) (hb : Byt s.xs) (hk : k = 2) : 0 ≤ (s.num k).1 ∧ (s.num k).1 ≤ 65535 := by
  subst hk
  unfold Rs.num
  split
  · exact ⟨Int.le_refl _, by simp⟩
  · rename_i hn
    have hl : (s.xs.take 2).length = 2 := by rw [List.length_take]; have := Nat.le_of_not_lt fun h => hn (.inr h); omega
    have hr := be_range 2 (s.xs.take 2) hl fun y hy => hb y (List.mem_of_mem_take hy)
    split
    · exact ⟨hr.1, by have := hr.2; omega⟩
    · exact ⟨Int.le_refl _, by simp⟩
theorem Rs.num_bad {s : Rs} (h : s.e ≠ 0) (k : Nat) : s.num k = (0, false, s) := by
  unfold Rs.num
  rw [if_pos (.inl h), Rs.fail, if_neg h]
theorem Rs.st_e {s : Rs} (h : s.e ≠ 0) (n : Nat) : s.st n = s := by
  induction n with
  | zero => rfl
  | succ n ih => rw [Rs.st, ih, if_neg h]
theorem RsO.st {s : Rs} {M : Lst} (h : RsO s M) (n : Nat) : RsO (s.st n) M := by
  induction n with
  | zero => exact h
  | succ n ih =>
    rw [Rs.st]
    split
    · exact ih.num 2
    · exact ih
theorem RsO.log1 {s : Rs} {M : Lst} (h : RsO s M) : RsO s.log1.2 M := ((h.num 2).num 2).st _
theorem RsO.logs {s : Rs} {M : Lst} (h : RsO s M) (n : Nat) : RsO (s.logs n).2 M := by
  induction n with
  | zero => exact h
  | succ n ih => exact ih.log1
theorem RsO.ok' {s : Rs} {M : Lst} (h : RsO s M) (br : Nat) : ∀ (w0 w : World) (S : List Nat) (L Lr : Lst), Hp w0 S L w → Ext L (s.L br) Lr → (∀ z ∈ M, z ∈ Lr) → s.ok br w := fun _ _ _ _ _ a b c => h.ok a b c
theorem u2 : pw 1 = 2 := rfl
theorem suf0 (p : Option Addr) (c : Nat) : sufP p c 0 1 = p := by
  unfold sufP
  split
  · rfl
  · cases p <;> simp [Addr.add]
theorem DlO.own {d : Dl} {L : Lst} (h : DlO d L) {ov : Ov} {xs : List Int} (hov : OvOk 1 ov xs.length (iis xs)) (f : Int) : DlO (d ++ [(f, ⟨ovp ov, ovc ov xs.length, xs⟩)]) (blkL 3 ov (iis xs) ++ L) := by
  have := h.snoc hov f (k := 0) (c := ovc ov xs.length) (m := ovc ov xs.length) (Nat.zero_le _) (ovc_le hov) (by have := ovc_le hov; omega)
  rwa [suf0, List.drop_zero] at this
theorem DlO.mono {d : Dl} {L L' : Lst} (h : DlO d L) (hs : ∀ z ∈ L, z ∈ L') : DlO d L' :=
  ⟨h.cap, fun x hx hne => by obtain ⟨b, o, h1, h2⟩ := h.adr x hx hne; obtain ⟨z, hz, e⟩ := List.mem_map.1 h2; exact ⟨b, o, h1, List.mem_map.2 ⟨z, hs z hz, e⟩⟩, fun w0 w S L' hw hin => h.rd w0 w S L' hw fun z hz => hin z (hs z hz)⟩
def nod : Dl := List.replicate 4 (0, ⟨none, 0, []⟩)
theorem nod_v : dlV nod = noD := rfl
theorem nod_o (L : Lst) : DlO nod L := by
  have h0 : ∀ x ∈ nod, x = (0, ⟨none, 0, []⟩) := fun x hx => List.eq_of_mem_replicate hx
  exact ⟨fun x hx => by rw [h0 x hx]; exact Nat.le_refl _, fun x hx hne => absurd (by rw [h0 x hx]) hne, fun _ _ _ _ _ _ x hx => by rw [h0 x hx]; exact .inl rfl⟩
theorem dok_dr (d : Dl) : DOk d ↔ DR (pur d) := by
  constructor
  · intro h y hy
    obtain ⟨x, hx, rfl⟩ := List.mem_map.1 hy
    exact h x hx
  · intro h x hx
    exact h _ (List.mem_map.2 ⟨x, hx, rfl⟩)
theorem dl_len8r {d : Dl} (h : d.length = 4) : (dlV d).length = 8 := by simp [dlV, fl_pi, iis_len, h]
theorem dl_oner (d : Dl) : (dlV d).all Value.oneCell' = true := by
  rw [dlV, List.all_append, iis_one, fl_pi]
  simp [List.all_map, Function.comp_def, Value.oneCell']
/-- A delta read: the delta, and the error. -/
def prs (s : Rs) : List (Int × List Int) × Int :=
  if (s.logs 4).2.fin ≠ 0 then (List.replicate 4 (0, []), (s.logs 4).2.fin) else if DR (s.logs 4).1 then ((s.logs 4).1, 0) else (List.replicate 4 (0, []), 3)
theorem parse_ok (p : Option Addr) (n cap : Nat) (xs : List Int) (hn : n = xs.length) (hbig : n ≤ 1000000000) (hb : Byt xs) (w : World) (hp : RdSl w p u8V xs) :
    CallM Tryz.prog 27 [.slice p n cap] [] w fun v L => ∃ (s : Rs) (d : Dl), s.xs = (if n ≤ 1024 then xs else []) ∧ s.e = (if n ≤ 1024 then 0 else 2) ∧ d.length = 4 ∧ v = .tuple #[.agg ⟨dlV d⟩, .int .i64 (prs s).2] ∧ pur d = (prs s).1 ∧ DlO d L := by
  have hnew := fun w1 (hc : Chg [] w w1) => rnewr_ok p n cap xs hn hbig hb w1 (hp.chg' hc (fun _ => Off.nil _))
  refine enterK (tb := tb) Tryz.func27 rfl Tryz.ntmps27 rfl ?_
  repeat' (first | (apply R.is1; first | (apply R.isCall; (apply R.callE (vs := [.slice p n cap]); (iterate 3 exact rfl); exact Ext.none _; intro w1 hw1; exact hnew w1 hw1.chg; rintro v Lo ⟨br, s0, M, rfl, hs1, hs2, hso, rfl⟩)) | (apply R.pure; exact rfl; first | (apply Ok1.move; exact rfl) | (apply Ok1.assign; exact rfl)) | (apply R.alloc; (iterate 3 exact rfl); intro)) | apply R.nil | (apply T.is; first | apply T.seq | apply T.region | apply T.block))
  rename_i bo bd
  clear hnew
  apply T.loopK (α := Nat × Dl × Lst) (I := fun y => y.1 ≤ 4 ∧ y.2.1.length = y.1 ∧ DlO y.2.1 y.2.2 ∧ ((s0.logs y.1).2.e = 0 → pur y.2.1 = (s0.logs y.1).1) ∧ ∀ x ∈ y.2.1, x.2.xs.length ≤ 65536) (σi := fun y => [(2, .pointer (some ⟨bo, 0, none⟩)), (4, .pointer (some ⟨br, 0, none⟩)), (5, .pointer (some ⟨bd, 0, none⟩)), (10, .int .i64 y.1)])
    (Li := fun y => (bo, .cells ⟨noD⟩ 76 (0, 0)) :: (bd, .cells ⟨padV y.2.1⟩ 76 (0, 0)) :: ((s0.logs y.1).2.L br ++ (M ++ y.2.2))) (μ := fun y => 4 - y.1) (i0 := (0, [], []))
  · exact ⟨Nat.zero_le _, rfl, DlO.nil _, fun _ => rfl, by simp⟩
  · exact ⟨rfl, rfl, rfl, rfl, trivial⟩
  · simp only [Rs.logs, pad0, noD]
    (focus (repeat' first | exact Keep.nil _ | exact Ext.one _ _ | exact Ext.here _ _ | exact Ext.all _ | apply Keep.cons | apply Keep.app | apply Ext.cons | apply Ext.app); done)
  · rintro ⟨i, dd, D⟩ ⟨hi, hdl, hdo, hpur, h65⟩
    simp only at hi hdl hdo hpur h65 ⊢
    have hsi := hso.logs i
    rcases Nat.lt_or_ge i 4 with hlt | hge
    · have hst1 : (s0.logs (i + 1)).2 = (s0.logs i).2.log1.2 := rfl
      have hst2 : (s0.logs (i + 1)).1 = (s0.logs i).1 ++ [(s0.logs i).2.log1.1] := rfl
      generalize hsn : s0.logs (i + 1) = sn at *
      generalize hs9 : (s0.logs i) = sf at *
      obtain ⟨pd, s⟩ := sf
      simp only at *
      have hn1 := fun w1 h1 => rnum_ok br s 1 2 (by decide) u2 w1 h1
      have hs2o := hsi.num 2
      have hf := pad_from hdl hlt (s.num 2).1
      unfold Rs.log1 at hst1 hst2
      simp only at hst1 hst2
      have hebad : s.e ≠ 0 → (s.num 2).2.2.e ≠ 0 := fun h => by rw [Rs.num_bad h]; exact h
      generalize (s.num 2).1 = f at *
      generalize (s.num 2).2.2 = s' at *
      have hn2 := fun w1 h1 => rnum_ok br s' 1 2 (by decide) u2 w1 h1
      have hs3o := hs2o.num 2
      have hnr := s'.num_range 2 hs2o.byt rfl
      have hebad2 : s'.e ≠ 0 → (s'.num 2).2.2.e ≠ 0 := fun h => by rw [Rs.num_bad h]; exact h
      obtain ⟨nn, hnn⟩ : ∃ nn : Nat, (s'.num 2).1 = nn := ⟨(s'.num 2).1.toNat, by omega⟩
      rw [hnn] at hst1 hst2 hn2 hnr
      simp only [Int.toNat_natCast] at hst1 hst2
      generalize (s'.num 2).2.2 = t at *
      have hk1 := hsi.ok' br
      have hk2 := hs2o.ok' br
      generalize hL0 : s.L br = L0 at *
      generalize hL1 : s'.L br = L1 at *
      generalize hL2 : t.L br = L2 at *
      repeat' (first | (apply R.is1; first | (apply R.isBin; (apply R.pure; exact rfl; (apply Ok1.lss_t; exact rfl; exact rfl; omega))) | (apply R.isCall; first | (apply R.callE (Li := L0) (vs := [.pointer (some ⟨br, 0, none⟩), .int .i64 1]); (iterate 3 exact rfl); (focus (repeat' first | exact Ext.here _ _ | apply Ext.cons | apply Ext.app); done); intro w1 hw1; exact hn1 w1 (hk1 _ _ _ _ _ hw1 (by (focus (repeat' first | exact Ext.here _ _ | apply Ext.cons); done)) (Ext.mem (by (focus (repeat' first | exact Ext.here _ _ | apply Ext.cons); done)))); rintro v Lo ⟨rfl, hq⟩; rw [hq]; clear hq) | (apply R.callE (Li := L1) (vs := [.pointer (some ⟨br, 0, none⟩), .int .i64 1]); (iterate 3 exact rfl); (focus ((repeat' (exact Ext.here _ _)); done)); intro w1 hw1; exact hn2 w1 (hk2 _ _ _ _ _ hw1 (by (focus ((repeat' (exact Ext.here _ _)); done))) (Ext.mem (by (focus (repeat' first | exact Ext.here _ _ | apply Ext.cons); done)))); rintro v Lo ⟨rfl, hq⟩; rw [hq]; clear hq)) | (apply R.pure; exact rfl; first | (apply Ok1.move; exact rfl) | (apply Ok1.fieldAddr; (iterate 5 exact rfl)) | (apply Ok1.assign; exact rfl) | (apply Ok1.indexAddrA; (iterate 5 exact rfl); omega; omega))) | (apply R.is0; (apply R.store; (iterate 6 exact rfl); (focus (repeat' first | exact Upd.head | apply Upd.tail | apply Upd.right); done); exact hf)) | apply R.nil | (apply T.is; first | apply T.seq | apply T.region | apply T.block | apply T.skip | (apply T.cond_t; exact rfl)))
      apply T.loopK (α := Nat × List Int × Ov) (I := fun y => y.1 ≤ nn ∧ y.2.1.length ≤ y.1 ∧ OvOk 1 y.2.2 y.2.1.length (iis y.2.1) ∧ ((t.st y.1).e = 0 → y.2.1 = t.vs y.1)) (σi := fun y => [(2, .pointer (some ⟨bo, 0, none⟩)), (4, .pointer (some ⟨br, 0, none⟩)), (5, .pointer (some ⟨bd, 0, none⟩)), (6, .int .i64 i), (10, .int .i64 i), (19, .int .i64 nn), (20, .int .i64 y.1)])
        (Li := fun y => (bo, .cells ⟨noD⟩ 76 (0, 0)) :: (bd, .cells ⟨padV (dd ++ [(f, ⟨ovp y.2.2, ovc y.2.2 y.2.1.length, y.2.1⟩)])⟩ 76 (0, 0)) :: ((t.st y.1).L br ++ (M ++ (blkL 3 y.2.2 (iis y.2.1) ++ D)))) (μ := fun y => nn - y.1) (i0 := (0, [], none))
      · exact ⟨Nat.zero_le _, Nat.le_refl _, OvOk.start 1, fun _ => rfl⟩
      · exact ⟨rfl, rfl, rfl, rfl, rfl, rfl, rfl, trivial⟩
      · simp only [Rs.st, hL2, blkL, List.nil_append, ovp, ovc, List.length_nil]
        (focus (repeat' first | exact Ext.one _ _ | exact Ext.here _ _ | exact Ext.all _ | apply Keep.cons | apply Keep.app | apply Keep.last | apply Ext.app); done)
      · rintro ⟨k, ys, ov⟩ ⟨hk, hyl, hov, hys⟩
        simp only at hk hyl hov hys ⊢
        have h3o := hs3o.st k
        have hk3 := h3o.ok' br
        have hstk : t.st (k + 1) = if (t.st k).e = 0 then ((t.st k).num 2).2.2 else t.st k := rfl
        have hvs := t.vs_snoc k
        have hre := fun w1 h => rerr_ok br (t.st k) w1 h
        rcases Nat.lt_or_ge k nn with hkl | hkg
        · by_cases he : (t.st k).e = 0
          · rw [if_pos he] at hstk
            replace hys := hys he
            have hnum := fun w1 h1 => rnum_ok br (t.st k) 1 2 (by decide) u2 w1 h1
            generalize t.st k = r at *
            have hm3 : (br, Obj.cells ⟨[.slice r.q r.xs.length r.cap, .int .i64 r.e]⟩ 205 (0, 0)) ∈ r.L br := by simp [Rs.L]
            generalize hL3 : r.L br = L3 at *
            generalize hL4 : (r.num 2).2.2.L br = L4 at *
            generalize (r.num 2).1 = z at *
            have hat := pad_at hdl hlt f ⟨ovp ov, ovc ov ys.length, ys⟩
            simp only [← slV_eq hov] at hat
            have hsto := fun b j J => pad_log hdl hlt f ⟨ovp ov, ovc ov ys.length, ys⟩ ⟨ovp (some (b, j, J)), ovc (some (b, j, J)) (ys.length + 1), ys ++ [z]⟩
            simp only [List.length_append, List.length_singleton, ovp, ovc] at hsto
            rw [he] at hre hm3
            repeat' (first | (apply R.is1; first | (apply R.isBin; (apply R.pure; exact rfl; first | (apply Ok1.add64; exact rfl; exact rfl; omega; omega) | (apply Ok1.lss_t; exact rfl; exact rfl; omega) | (apply Ok1.eql_t; exact rfl; exact rfl; omega))) | (apply R.isCall; (apply R.callV (vs := [.pointer (some ⟨br, 0, none⟩)]); (iterate 3 exact rfl); intro w1 hw1; exact hre w1 (hw1.get _ _ (Ext.mem (s := L3) (by (focus (repeat' first | exact Ext.here _ _ | apply Ext.cons); done)) _ hm3)))) | (apply R.pure; exact rfl; (apply Ok1.move; exact rfl))) | apply R.nil | (apply T.is; first | (apply T.drawC (id := 10) [] (by decide); ((apply A.tk 0; exact rfl; kernel_rfl; (apply Ok1.move; exact rfl)) <;> (apply A.tk 1; exact rfl; kernel_rfl; (apply Ok1.move; exact rfl)) <;> (apply A.tk 2; exact rfl; kernel_rfl; (apply Ok1.fieldAddr; (iterate 5 exact rfl))) <;> (apply A.tk 3; exact rfl; kernel_rfl; (apply Ok1.indexAddrA; (iterate 5 exact rfl); omega; omega)) <;> (apply A.tk 5; exact rfl; kernel_rfl; (apply Ok1.move; exact rfl)) <;> (apply A.tk 9; exact rfl; kernel_rfl; (apply Ok1.fieldAddr; (iterate 5 exact rfl))) <;> (apply A.two 4 6; kernel_rfl; exact rfl; exact rfl; rotate_left 1; (focus (((((apply R.callE (Li := L3) (vs := [.pointer (some ⟨br, 0, none⟩), .int .i64 1]); (iterate 3 exact rfl); (focus (repeat' first | exact Ext.here _ _ | apply Ext.cons); done); intro w1 hw1; exact hnum w1 (hk3 _ _ _ _ _ hw1 (by (focus (repeat' first | exact Ext.here _ _ | apply Ext.cons); done)) (Ext.mem (by (focus (repeat' first | exact Ext.here _ _ | apply Ext.cons); done)))); rintro v Lo ⟨rfl, hq⟩; rw [hq]; clear hq))); apply R.nil; refine ⟨?_, ?_⟩; (focus ((repeat' (exact trivial))))) <;> (apply A.two 4 7; kernel_rfl; exact rfl; exact rfl; rotate_left 1; (focus (((((apply R.buildSlice; (iterate 12 exact rfl); intro))); apply R.nil; refine ⟨?_, ?_⟩; (focus ((repeat' (exact trivial))))) <;> (apply A.one 4; kernel_rfl; exact rfl; (((apply R.pure; exact rfl; (apply Ok1.load; exact rfl; apply Ld.own1; exact rfl; exact rfl; (focus (repeat' first | exact At.head | apply At.tail | apply At.right); done); exact hat)))); apply R.nil; refine ⟨?_, ?_⟩; (focus ((repeat' (exact trivial))))) <;> (apply A.one 8; kernel_rfl; exact rfl; (((apply R.append1; (iterate 12 exact rfl); (focus (repeat' first | exact OwnAt.mid hov | apply OwnAt.tail | apply OwnAt.right); done); exact At.head; exact rfl; exact rfl; omega; omega; intro b2 j2 k2 hj2))); apply R.nil; refine ⟨?_, ?_⟩; (focus ((repeat' (exact trivial))))) <;> (apply A.tk 10; exact rfl; kernel_rfl; (apply Ok1.indexAddrA; (iterate 5 exact rfl); omega; omega)) <;> (apply A.one 11; kernel_rfl; exact rfl; (((apply R.store; (iterate 6 exact rfl); (focus (repeat' first | exact Upd.head | apply Upd.tail | apply Upd.right); done); exact hsto _ _ []))); apply R.nil; refine ⟨?_, ?_⟩; (focus ((repeat' (exact trivial))))) <;> (apply A.done; kernel_rfl))); rotate_right 1; (focus (((((apply R.pure; exact rfl; (apply Ok1.load; exact rfl; apply Ld.own1; exact rfl; exact rfl; (focus (repeat' first | exact At.head | apply At.tail | apply At.right); done); exact hat)))); apply R.nil; refine ⟨?_, ?_⟩; (focus ((repeat' (exact trivial))))) <;> (apply A.one 7; kernel_rfl; exact rfl; (((apply R.buildSlice; (iterate 12 exact rfl); intro))); apply R.nil; refine ⟨?_, ?_⟩; (focus ((repeat' (exact trivial))))) <;> (apply A.one 8; kernel_rfl; exact rfl; (((apply R.append1; (iterate 12 exact rfl); (focus (repeat' first | exact OwnAt.mid hov | apply OwnAt.tail | apply OwnAt.right); done); exact At.head; exact rfl; exact rfl; omega; omega; intro b2 j2 k2 hj2))); apply R.nil; refine ⟨?_, ?_⟩; (focus ((repeat' (exact trivial))))) <;> (apply A.tk 10; exact rfl; kernel_rfl; (apply Ok1.indexAddrA; (iterate 5 exact rfl); omega; omega)) <;> (apply A.one 11; kernel_rfl; exact rfl; (((apply R.store; (iterate 6 exact rfl); (focus (repeat' first | exact Upd.head | apply Upd.tail | apply Upd.right); done); exact hsto _ _ []))); apply R.nil; refine ⟨?_, ?_⟩; (focus ((repeat' (exact trivial))))) <;> (apply A.done; kernel_rfl)))))); rotate_right 1; (focus (((((apply R.pure; exact rfl; (apply Ok1.load; exact rfl; apply Ld.own1; exact rfl; exact rfl; (focus (repeat' first | exact At.head | apply At.tail); done); exact hat)))); apply R.nil; refine ⟨?_, ?_⟩; (focus ((repeat' (exact trivial))))) <;> (apply A.one 6; kernel_rfl; exact rfl; (((apply R.callE (Li := L3) (vs := [.pointer (some ⟨br, 0, none⟩), .int .i64 1]); (iterate 3 exact rfl); (focus (repeat' first | exact Ext.here _ _ | apply Ext.cons); done); intro w1 hw1; exact hnum w1 (hk3 _ _ _ _ _ hw1 (by (focus (repeat' first | exact Ext.here _ _ | apply Ext.cons); done)) (Ext.mem (by (focus (repeat' first | exact Ext.here _ _ | apply Ext.cons); done)))); rintro v Lo ⟨rfl, hq⟩; rw [hq]; clear hq))); apply R.nil; refine ⟨?_, ?_⟩; (focus ((repeat' (exact trivial))))) <;> (apply A.one 7; kernel_rfl; exact rfl; (((apply R.buildSlice; (iterate 12 exact rfl); intro))); apply R.nil; refine ⟨?_, ?_⟩; (focus ((repeat' (exact trivial))))) <;> (apply A.one 8; kernel_rfl; exact rfl; (((apply R.append1; (iterate 12 exact rfl); (focus (repeat' first | exact OwnAt.mid hov | apply OwnAt.tail | apply OwnAt.right); done); exact At.head; exact rfl; exact rfl; omega; omega; intro b2 j2 k2 hj2))); apply R.nil; refine ⟨?_, ?_⟩; (focus ((repeat' (exact trivial))))) <;> (apply A.tk 10; exact rfl; kernel_rfl; (apply Ok1.indexAddrA; (iterate 5 exact rfl); omega; omega)) <;> (apply A.one 11; kernel_rfl; exact rfl; (((apply R.store; (iterate 6 exact rfl); (focus (repeat' first | exact Upd.head | apply Upd.tail | apply Upd.right); done); exact hsto _ _ []))); apply R.nil; refine ⟨?_, ?_⟩; (focus ((repeat' (exact trivial))))) <;> (apply A.done; kernel_rfl)))))) | apply T.seq | apply T.region | apply T.block | apply T.skip | (apply T.cond_t; exact rfl)))
            all_goals
              refine ⟨(k + 1, ys ++ [z], some (b2, j2, k2)), ?_⟩
              have hov2 : OvOk 1 (some (b2, j2, k2)) (ys ++ [z]).length (iis (ys ++ [z])) := by
                rw [iis_app, List.length_append]
                exact OvOk.some hov rfl hj2
              simp only [hstk, hL4]
              refine ⟨⟨by omega, by simp only [List.length_append, List.length_singleton]; omega, hov2, fun h => by rw [hvs, hys]⟩, by omega, ⟨rfl, rfl, rfl, rfl, rfl, rfl, rfl, trivial⟩, ?_⟩
              simp only [blkL, iis_app, List.length_append, List.length_singleton, ovp, ovc, List.cons_append, List.nil_append]
              (focus (repeat' first | exact Ext.one _ _ | exact Ext.here _ _ | exact Ext.all _ | apply Keep.cons | apply Keep.app | apply Keep.last | apply Ext.cons | apply Ext.app); done)
          · rw [if_neg he] at hstk
            generalize t.st k = r at *
            have hm3 : (br, Obj.cells ⟨[.slice r.q r.xs.length r.cap, .int .i64 r.e]⟩ 205 (0, 0)) ∈ r.L br := by simp [Rs.L]
            generalize hL3 : r.L br = L3 at *
            repeat' (first | (apply R.is1; first | (apply R.isBin; (apply R.pure; exact rfl; first | (apply Ok1.add64; exact rfl; exact rfl; omega; omega) | (apply Ok1.lss_t; exact rfl; exact rfl; omega) | (apply Ok1.eql_f; exact rfl; exact rfl; omega))) | (apply R.isCall; (apply R.callV (vs := [.pointer (some ⟨br, 0, none⟩)]); (iterate 3 exact rfl); intro w1 hw1; exact hre w1 (hw1.get _ _ (Ext.mem (s := L3) (by (focus (repeat' first | exact Ext.here _ _ | apply Ext.cons); done)) _ hm3)))) | (apply R.pure; exact rfl; (apply Ok1.move; exact rfl))) | apply R.nil | (apply T.is; first | apply T.seq | apply T.region | apply T.block | apply T.skip | (apply T.cond_t; exact rfl) | (apply T.cond_f; exact rfl)))
            refine ⟨(k + 1, ys, ov), ?_⟩
            simp only [hstk, hL3]
            exact ⟨⟨by omega, by omega, hov, fun h => absurd h he⟩, by omega, ⟨rfl, rfl, rfl, rfl, rfl, rfl, rfl, trivial⟩, by (focus (repeat' first | exact Ext.one _ _ | exact Ext.here _ _ | exact Ext.all _ | apply Keep.cons | apply Keep.app | apply Keep.last); done)⟩
        · have hkn : k = nn := by omega
          subst hkn
          have hse : (t.st k).e = 0 → s.e = 0 := fun h => Classical.byContradiction fun h1 => by
            rw [Rs.st_e (hebad2 (hebad h1))] at h
            exact hebad2 (hebad h1) h
          rw [← hst1] at h3o hys hse ⊢
          generalize hL3 : sn.2.L br = L3 at *
          repeat' (first | (apply R.is1; first | (apply R.isBin; (apply R.pure; exact rfl; first | (apply Ok1.add64; exact rfl; exact rfl; omega; omega) | (apply Ok1.lss_f; exact rfl; exact rfl; omega))) | (apply R.pure; exact rfl; (apply Ok1.move; exact rfl))) | apply R.nil | (apply T.is; first | apply T.seq | apply T.region | apply T.exit | (apply T.cond_f; exact rfl)))
          refine ⟨(i + 1, dd ++ [(f, ⟨ovp ov, ovc ov ys.length, ys⟩)], blkL 3 ov (iis ys) ++ D), ?_⟩
          simp only [hsn, hL3]
          refine ⟨⟨by omega, by rw [List.length_append, hdl]; rfl, hdo.own hov f, fun h => ?_, fun x hx => ?_⟩, by omega, ⟨rfl, rfl, rfl, rfl, trivial⟩, by (focus (repeat' first | exact Ext.one _ _ | exact Ext.here _ _ | exact Ext.all _ | apply Keep.cons | apply Keep.app | apply Keep.last); done)⟩
          · rw [hst2, pur, List.map_append, ← hys h, ← hpur (hse h)]
            rfl
          · rcases List.mem_append.1 hx with h | h
            · exact h65 x h
            · rw [List.mem_singleton.1 h]
              simp only
              omega
    · have hi4 : i = 4 := by omega
      subst hi4
      have hpv := pad_all hdl
      have hl8 := dl_len8r hdl
      have h1c := dl_oner dd
      rw [hpv]
      have hck := fun w1 h1 => rcheck_ok dd hdl (fun x hx => by have := h65 x hx; omega) w1 h1
      have hend := fun w1 h => rend_ok br (s0.logs 4).2 w1 h
      have hdrd := hdo.rd
      have hprs : prs s0 = if (s0.logs 4).2.fin ≠ 0 then (List.replicate 4 (0, []), (s0.logs 4).2.fin) else if DR (s0.logs 4).1 then ((s0.logs 4).1, 0) else (List.replicate 4 (0, []), 3) := rfl
      have hfin : (s0.logs 4).2.fin = 0 → (s0.logs 4).2.e = 0 := fun h => by
        unfold Rs.fin at h
        split at h
        · exact h
        · rename_i h1; exact Classical.not_not.1 h1
      have hdr := dok_dr dd
      generalize s0.logs 4 = F at *
      obtain ⟨F1, r⟩ := F
      simp only at *
      have hm3 : (br, Obj.cells ⟨[.slice r.q r.xs.length r.cap, .int .i64 r.e]⟩ 205 (0, 0)) ∈ r.L br := by simp [Rs.L]
      generalize hL3 : r.L br = L3 at *
      by_cases hf0 : r.fin = 0
      · rw [hpur (hfin hf0)] at hdr
        rw [hf0, if_neg (fun h => h rfl)] at hprs
        rw [hf0] at hend
        by_cases hok : DOk dd
        · rw [if_pos hok] at hck
          rw [if_pos (hdr.1 hok)] at hprs
          repeat' (first | (apply R.is1; first | (apply R.isBin; (apply R.pure; exact rfl; first | (apply Ok1.lss_f; exact rfl; exact rfl; omega) | (apply Ok1.neq_f; exact rfl; exact rfl; omega))) | (apply R.isCall; first | (apply R.callV (vs := [.pointer (some ⟨br, 0, none⟩)]); (iterate 3 exact rfl); intro w1 hw1; exact hend w1 (hw1.get _ _ (Ext.mem (s := L3) (by (focus (repeat' first | exact Ext.here _ _ | apply Ext.cons); done)) _ hm3))) | (apply R.callV (vs := [.agg ⟨dlV dd⟩]); (iterate 3 exact rfl); intro w1 hw1; exact hck w1 (hdrd _ _ _ _ hw1 (Ext.mem (by (focus (repeat' first | exact Ext.all _ | apply Ext.cons | apply Ext.app); done)))))) | (apply R.pure; exact rfl; first | (apply Ok1.load; exact rfl; (apply Ld.ownk; exact rfl; exact rfl; (focus (repeat' first | exact At.head | apply At.tail); done); exact subE_all hl8)) | (apply Ok1.move; exact rfl) | (apply Ok1.assign; exact rfl))) | (apply R.is0; (apply R.store; (iterate 4 exact rfl); exact hl8; exact h1c; exact Upd.head; exact setE_all (by rw [hl8]; rfl))) | apply R.nil | (apply T.is; first | apply T.seq | apply T.region | apply T.skip | apply T.exit | apply T.ret | (apply T.cond_f; exact rfl)))
          (apply RetOk.ct; exact rfl; (apply Ld.ownk; exact rfl; exact rfl; exact At.head; exact subE_all hl8); exact rfl)
          refine ⟨D, ?_, s0, dd, hs1, hs2, hdl, ?_, ?_, hdo⟩
          · (focus (repeat' first | exact Ext.all _ | apply Keep.last | apply Ext.cons | apply Ext.app); done)
          · rw [hprs]
          · rw [hprs]; exact hpur (hfin hf0)
        · rw [if_neg hok] at hck
          rw [if_neg (fun h => hok (hdr.2 h))] at hprs
          repeat' (first | (apply R.is1; first | (apply R.isBin; (apply R.pure; exact rfl; first | (apply Ok1.lss_f; exact rfl; exact rfl; omega) | (apply Ok1.neq_t; exact rfl; exact rfl; omega) | (apply Ok1.neq_f; exact rfl; exact rfl; omega))) | (apply R.isCall; first | (apply R.callV (vs := [.pointer (some ⟨br, 0, none⟩)]); (iterate 3 exact rfl); intro w1 hw1; exact hend w1 (hw1.get _ _ (Ext.mem (s := L3) (by (focus (repeat' first | exact Ext.here _ _ | apply Ext.cons); done)) _ hm3))) | (apply R.callV (vs := [.agg ⟨dlV dd⟩]); (iterate 3 exact rfl); intro w1 hw1; exact hck w1 (hdrd _ _ _ _ hw1 (Ext.mem (by (focus (repeat' first | exact Ext.all _ | apply Ext.cons | apply Ext.app); done)))))) | (apply R.pure; exact rfl; first | (apply Ok1.load; exact rfl; (apply Ld.ownk; exact rfl; exact rfl; (focus (repeat' first | exact At.head | apply At.tail); done); exact subE_all hl8)) | (apply Ok1.move; exact rfl) | (apply Ok1.assign; exact rfl) | (apply Ok1.build; (iterate 5 exact rfl)))) | (apply R.is0; (apply R.store; (iterate 6 exact rfl); exact Upd.head; exact rfl)) | apply R.nil | (apply T.is; first | apply T.seq | apply T.region | apply T.skip | apply T.exit | apply T.ret | (apply T.cond_t; exact rfl) | (apply T.cond_f; exact rfl)))
          (apply RetOk.ct; exact rfl; ((apply Ld.ownk; exact rfl; exact rfl; exact At.head; exact rfl)); exact rfl)
          refine ⟨[], ?_, s0, nod, hs1, hs2, rfl, ?_, ?_, nod_o _⟩
          · (focus ((repeat' (exact Keep.nil _)); done))
          · rw [hprs]; rfl
          · rw [hprs]; rfl
      · rw [if_pos hf0] at hprs
        repeat' (first | (apply R.is1; first | (apply R.isBin; (apply R.pure; exact rfl; first | (apply Ok1.lss_f; exact rfl; exact rfl; omega) | (apply Ok1.neq_t; exact rfl; exact rfl; omega))) | (apply R.isCall; (apply R.callV (vs := [.pointer (some ⟨br, 0, none⟩)]); (iterate 3 exact rfl); intro w1 hw1; exact hend w1 (hw1.get _ _ (Ext.mem (s := L3) (by (focus (repeat' first | exact Ext.here _ _ | apply Ext.cons); done)) _ hm3)))) | (apply R.pure; exact rfl; first | (apply Ok1.move; exact rfl) | (apply Ok1.assign; exact rfl) | (apply Ok1.build; (iterate 5 exact rfl)))) | (apply R.is0; (apply R.store; (iterate 6 exact rfl); exact Upd.head; exact rfl)) | apply R.nil | (apply T.is; first | apply T.seq | apply T.region | apply T.exit | apply T.ret | (apply T.cond_t; exact rfl) | (apply T.cond_f; exact rfl)))
        (apply RetOk.ct; exact rfl; ((apply Ld.ownk; exact rfl; exact rfl; exact At.head; exact rfl)); exact rfl)
        refine ⟨[], ?_, s0, nod, hs1, hs2, rfl, ?_, ?_, nod_o _⟩
        · (focus ((repeat' (exact Keep.nil _)); done))
        · rw [hprs]; rfl
        · rw [hprs]; rfl
structure Rs.is (s : Rs) (xs : List Int) (e : Int) : Prop where
  xs : s.xs = xs
  e : s.e = e
theorem Rs.num_enc {s : Rs} {v : Int} {rest : List Int} (h : s.is (numI 1 v ++ rest) 0) (h0 : 0 ≤ v) (h1 : v ≤ 65535) : (s.num 2).1 = v ∧ (s.num 2).2.2.is rest 0 := by
  obtain ⟨hx, he⟩ := h
  have e1 : (s.xs.take 2) = [v / 256 % 256, v % 256] := by rw [hx]; rfl
  have e2 : beN [v / 256 % 256, v % 256] = v := by
    simp only [beN, List.foldl_cons, List.foldl_nil]
    omega
  unfold Rs.num
  rw [if_neg, e1, e2, if_pos (by omega)]
  · refine ⟨rfl, ?_, he⟩
    simp only [Rs.drop]
    rw [hx]; rfl
  · rw [hx]
    rintro (h | h)
    · exact h he
    · simp only [numI, List.cons_append, List.nil_append, List.length_cons] at h
      omega
theorem Rs.st_enc {s : Rs} {l rest : List Int} (h : s.is (numsI 1 l ++ rest) 0) (hl : ∀ y ∈ l, 0 ≤ y ∧ y ≤ 65535) : ∀ k ≤ l.length, (s.st k).is (numsI 1 (l.drop k) ++ rest) 0 ∧ s.vs k = l.take k := by
  intro k
  induction k with
  | zero => exact fun _ => ⟨h, rfl⟩
  | succ k ih =>
    intro hk
    obtain ⟨h1, h2⟩ := ih (by omega)
    have hd : l.drop k = l[k] :: l.drop (k + 1) := by rw [List.drop_eq_getElem_cons]
    rw [hd, numsI, List.flatMap_cons, List.append_assoc] at h1
    obtain ⟨b0, b1⟩ := hl l[k] (List.getElem_mem _)
    obtain ⟨h3, h4⟩ := Rs.num_enc h1 b0 b1
    refine ⟨?_, ?_⟩
    · rw [Rs.st, if_pos h1.e]
      exact h4
    · rw [Rs.vs_snoc, h3, h2, List.take_add_one, List.getElem?_eq_getElem (by omega)]
      rfl
theorem Rs.log1_enc {s : Rs} {x : Int × List Int} {rest : List Int} (h : s.is (encL x ++ rest) 0) (h0 : 0 ≤ x.1 ∧ x.1 ≤ 65535) (h1 : x.2.length ≤ 65535) (hl : ∀ y ∈ x.2, 0 ≤ y ∧ y ≤ 65535) : s.log1.1 = x ∧ s.log1.2.is rest 0 := by
  obtain ⟨f, l⟩ := x
  change 0 ≤ f ∧ f ≤ 65535 at h0
  change l.length ≤ 65535 at h1
  change ∀ y ∈ l, _ at hl
  rw [encL, numsI, List.flatMap_cons, List.flatMap_cons, List.flatMap_nil, List.append_nil, List.append_assoc, List.append_assoc] at h
  simp only at h
  obtain ⟨e1, h2⟩ := Rs.num_enc h h0.1 h0.2
  obtain ⟨e2, h3⟩ := Rs.num_enc h2 (by omega) (by omega)
  obtain ⟨h4, h5⟩ := Rs.st_enc h3 hl l.length (Nat.le_refl _)
  unfold Rs.log1
  simp only [e1, e2, Int.toNat_natCast]
  rw [List.take_length] at h5
  refine ⟨by rw [h5], ?_⟩
  rw [List.drop_length] at h4
  exact h4
theorem Rs.logs_enc {s : Rs} {dd : List (Int × List Int)} {rest : List Int} (h : s.is (encD dd ++ rest) 0) (hd : DR dd) : ∀ k ≤ dd.length, (s.logs k).1 = dd.take k ∧ (s.logs k).2.is (encD (dd.drop k) ++ rest) 0 := by
  intro k
  induction k with
  | zero => exact fun _ => ⟨rfl, h⟩
  | succ k ih =>
    intro hk
    obtain ⟨h1, h2⟩ := ih (by omega)
    have hdr : dd.drop k = dd[k] :: dd.drop (k + 1) := by rw [List.drop_eq_getElem_cons]
    rw [hdr, encD, List.flatMap_cons, List.append_assoc] at h2
    obtain ⟨b0, b1, b2, b3⟩ := hd dd[k] (List.getElem_mem _)
    obtain ⟨h3, h4⟩ := Rs.log1_enc h2 ⟨b0, by omega⟩ (by omega) fun y hy => by have := b3 y hy; omega
    refine ⟨?_, h4⟩
    rw [Rs.logs, h1, h3, List.take_add_one, List.getElem?_eq_getElem (by omega)]
    rfl
theorem prs_enc {s : Rs} {dd : List (Int × List Int)} (h : s.is (encD dd) 0) (hl : dd.length = 4) (hd : DR dd) : prs s = (dd, 0) := by
  obtain ⟨h1, h2⟩ := Rs.logs_enc (rest := []) (by rw [List.append_nil]; exact h) hd 4 (by omega)
  rw [List.take_of_length_le (by omega)] at h1
  rw [List.drop_of_length_le (by omega)] at h2
  have hf : (s.logs 4).2.fin = 0 := by
    unfold Rs.fin
    rw [h2.e, h2.xs]
    rfl
  unfold prs
  rw [hf, if_neg (fun h => h rfl), h1, if_pos hd]
/-- Two readers with the same bytes. -/
def Rs.eqv (s t : Rs) : Prop := s.xs = t.xs ∧ s.e = t.e
theorem Rs.eqv.fail {s t : Rs} (h : s.eqv t) (e : Int) : (s.fail e).eqv (t.fail e) := by
  unfold Rs.fail
  rw [h.2]
  split
  · exact ⟨rfl, rfl⟩
  · exact h
theorem Rs.eqv.drop {s t : Rs} (h : s.eqv t) (k : Nat) : (s.drop k).eqv (t.drop k) := ⟨by simp only [Rs.drop]; rw [h.1], h.2⟩
theorem Rs.eqv.num {s t : Rs} (h : s.eqv t) (k : Nat) : (s.num k).1 = (t.num k).1 ∧ (s.num k).2.1 = (t.num k).2.1 ∧ (s.num k).2.2.eqv (t.num k).2.2 := by
  unfold Rs.num
  rw [h.1, h.2]
  split
  · exact ⟨rfl, rfl, h.fail 4⟩
  · split
    · exact ⟨rfl, rfl, h.drop k⟩
    · exact ⟨rfl, rfl, (h.drop k).fail 3⟩
theorem Rs.eqv.st {s t : Rs} (h : s.eqv t) (n : Nat) : (s.st n).eqv (t.st n) ∧ s.vs n = t.vs n := by
  induction n with
  | zero => exact ⟨h, rfl⟩
  | succ n ih =>
    obtain ⟨h1, h2⟩ := ih
    obtain ⟨h3, _, h4⟩ := h1.num 2
    refine ⟨?_, by rw [Rs.vs_snoc, Rs.vs_snoc, h2, h3]⟩
    rw [Rs.st, Rs.st, h1.2]
    split
    · exact h4
    · exact h1
theorem Rs.eqv.log1 {s t : Rs} (h : s.eqv t) : s.log1.1 = t.log1.1 ∧ s.log1.2.eqv t.log1.2 := by
  obtain ⟨h1, _, h2⟩ := h.num 2
  obtain ⟨h3, _, h4⟩ := h2.num 2
  unfold Rs.log1
  simp only [h1, h3]
  obtain ⟨h5, h6⟩ := h4.st ((t.num 2).2.2.num 2).1.toNat
  exact ⟨by rw [h6], h5⟩
theorem Rs.eqv.logs {s t : Rs} (h : s.eqv t) (n : Nat) : (s.logs n).1 = (t.logs n).1 ∧ (s.logs n).2.eqv (t.logs n).2 := by
  induction n with
  | zero => exact ⟨rfl, h⟩
  | succ n ih =>
    obtain ⟨h1, h2⟩ := ih
    obtain ⟨h3, h4⟩ := h2.log1
    exact ⟨by rw [Rs.logs, Rs.logs, h1, h3], h4⟩
theorem Rs.eqv.fin {s t : Rs} (h : s.eqv t) : s.fin = t.fin := by unfold Rs.fin; rw [h.1, h.2]
theorem Rs.eqv.prs {s t : Rs} (h : s.eqv t) : prs s = prs t := by
  obtain ⟨h1, h2⟩ := h.logs 4
  unfold Go.Proofs.YtolnagbahceebaaGreat.prs
  rw [h1, h2.fin]
def VR (vs : List Int) : Prop := ∀ x ∈ vs, 0 ≤ x ∧ x ≤ 256
instance (vs : List Int) : Decidable (VR vs) := by unfold VR; infer_instance
theorem dright1_ok (x : Int) : CallP Tryz.prog 162 [.int .i64 x] (.bool (decide (x < 0 ∨ 256 < x))) := by
  refine enterP (tb := tb) Tryz.func162 rfl Tryz.ntmps162 rfl fun w => ?_
  by_cases h0 : x < 0
  · rw [decide_eq_true (.inl h0)]
    repeat' (first | (apply R.is1; first | (apply R.isBin; (apply R.pure; exact rfl; (apply Ok1.lss_t; exact rfl; exact rfl; omega))) | (apply R.pure; exact rfl; first | (apply Ok1.move; exact rfl) | (apply Ok1.assign; exact rfl) | (apply Ok1.pick_t; exact rfl; exact rfl))) | (apply R.isG; (apply R.guard_not; (iterate 3 exact rfl))) | apply R.nil | (apply T.is; first | apply T.seq | apply T.region | apply T.ret))
    (apply RetOk.t; exact rfl)
    rfl
  · by_cases h1 : 256 < x
    · rw [decide_eq_true (.inr h1)]
      repeat' (first | (apply R.is1; first | (apply R.isBin; (apply R.pure; exact rfl; first | (apply Ok1.lss_f; exact rfl; exact rfl; omega) | (apply Ok1.gtr_t; exact rfl; exact rfl; omega))) | (apply R.pure; exact rfl; first | (apply Ok1.move; exact rfl) | (apply Ok1.assign; exact rfl) | (apply Ok1.pick_f; exact rfl; exact rfl))) | (apply R.isG; (apply R.guard_run; exact rfl; exact rfl)) | apply R.nil | (apply T.is; first | apply T.seq | apply T.region | apply T.ret))
      (apply RetOk.t; exact rfl)
      rfl
    · rw [decide_eq_false (by omega)]
      repeat' (first | (apply R.is1; first | (apply R.isBin; (apply R.pure; exact rfl; first | (apply Ok1.lss_f; exact rfl; exact rfl; omega) | (apply Ok1.gtr_f; exact rfl; exact rfl; omega))) | (apply R.pure; exact rfl; first | (apply Ok1.move; exact rfl) | (apply Ok1.assign; exact rfl) | (apply Ok1.pick_f; exact rfl; exact rfl))) | (apply R.isG; (apply R.guard_run; exact rfl; exact rfl)) | apply R.nil | (apply T.is; first | apply T.seq | apply T.region | apply T.ret))
      (apply RetOk.t; exact rfl)
      rfl
theorem vright_ok (vs : List Int) (hl : vs.length = 4) : CallP Tryz.prog 97 [.agg ⟨iis vs⟩] (.bool (decide (VR vs))) := by
  have hc := fun p w1 h => conF_ok p 4 4 vs hl.symm (by decide) 162 rfl _ dright1_ok w1 h
  have he : (vs.any fun x => decide (x < 0 ∨ 256 < x)) = !decide (VR vs) := by
    by_cases hs : VR vs
    · rw [decide_eq_true hs]
      cases h4 : vs.any fun x => decide (x < 0 ∨ 256 < x) with
      | false => rfl
      | true =>
        obtain ⟨x, hx, hb⟩ := List.any_eq_true.1 h4
        have := hs x hx
        have := of_decide_eq_true hb
        omega
    · rw [decide_eq_false hs]
      cases h4 : vs.any fun x => decide (x < 0 ∨ 256 < x) with
      | true => rfl
      | false =>
        refine absurd (fun x hx => ?_) hs
        have := List.any_eq_false.1 h4 x hx
        simp only [decide_eq_true_eq] at this
        omega
  rw [he] at hc
  generalize decide (VR vs) = q at *
  have hil : (iis vs).length = 4 := by rw [iis_len, hl]
  refine enterP (tb := tb) Tryz.func97 rfl Tryz.ntmps97 rfl fun w => ?_
  cases q
  · repeat' (first | (apply R.is1; first | (apply R.isCall; (apply R.callV; (iterate 3 exact rfl); intro w1 hw1; exact hc _ w1 (RdSl.of (junk := []) hw1 (by exact At.head) (by rw [fl_i, List.append_nil])))) | (apply R.pure; exact rfl; first | (apply Ok1.sliceArr; (iterate 4 exact rfl)) | (apply Ok1.assign; exact rfl) | (apply Ok1.not_t; exact rfl)) | (apply R.box; (iterate 3 exact rfl); intro)) | apply R.nil | (apply T.is; first | apply T.seq | apply T.region | apply T.ret))
    (apply RetOk.t; exact rfl)
    rfl
  · repeat' (first | (apply R.is1; first | (apply R.isCall; (apply R.callV; (iterate 3 exact rfl); intro w1 hw1; exact hc _ w1 (RdSl.of (junk := []) hw1 (by exact At.head) (by rw [fl_i, List.append_nil])))) | (apply R.pure; exact rfl; first | (apply Ok1.sliceArr; (iterate 4 exact rfl)) | (apply Ok1.assign; exact rfl) | (apply Ok1.not_f; exact rfl)) | (apply R.box; (iterate 3 exact rfl); intro)) | apply R.nil | (apply T.is; first | apply T.seq | apply T.region | apply T.ret))
    (apply RetOk.t; exact rfl)
    rfl
def cntL (dd : List (Int × List Int)) : Nat := (dd.map fun x => x.2.length).sum
theorem dsize_ok (d : Dl) (hl : d.length = 4) (hbig : ∀ x ∈ d, x.2.xs.length ≤ 1000000) : CallP Tryz.prog 154 [.agg ⟨dlV d⟩] (.int .i64 (16 + 2 * cntL (pur d))) := by
  match d, hl with
  | [(a0, x0), (a1, x1), (a2, x2), (a3, x3)], _ =>
    have h0 := hbig _ (.head _)
    have h1 := hbig _ (.tail _ (.head _))
    have h2 := hbig _ (.tail _ (.tail _ (.head _)))
    have h3 := hbig _ (.tail _ (.tail _ (.tail _ (.head _))))
    simp only at h0 h1 h2 h3
    have e : (16 + 2 * (cntL (pur [(a0, x0), (a1, x1), (a2, x2), (a3, x3)]) : Int)) = 16 + 2 * x0.xs.length + 2 * x1.xs.length + 2 * x2.xs.length + 2 * x3.xs.length := by
      simp only [cntL, pur, List.map_cons, List.map_nil, List.sum_cons, List.sum_nil]
      omega
    rw [e]
    have ev : dlV [(a0, x0), (a1, x1), (a2, x2), (a3, x3)] = [.int .i64 a0, .int .i64 a1, .int .i64 a2, .int .i64 a3, .slice x0.p x0.xs.length x0.cap, .slice x1.p x1.xs.length x1.cap, .slice x2.p x2.xs.length x2.cap, .slice x3.p x3.xs.length x3.cap] := rfl
    rw [ev]
    refine enterP (tb := tb) Tryz.func154 rfl Tryz.ntmps154 rfl fun w => ?_
    repeat' (first | (apply R.is1; first | (apply R.isBin; (apply R.pure; exact rfl; first | (apply Ok1.add64; exact rfl; exact rfl; omega; omega) | (apply Ok1.lss_t; exact rfl; exact rfl; omega) | (apply Ok1.lss_f; exact rfl; exact rfl; omega) | (apply Ok1.mul64; exact rfl; exact rfl; omega; omega))) | (apply R.isCall; (apply R.pure; exact rfl; (apply Ok1.lenS; (iterate 3 exact rfl)))) | (apply R.pure; exact rfl; first | (apply Ok1.move; exact rfl) | (apply Ok1.fieldAddr; (iterate 5 exact rfl)) | (apply Ok1.load; exact rfl; (apply Ld.ownk; exact rfl; exact rfl; exact At.head; exact rfl)) | (apply Ok1.assign; exact rfl) | (apply Ok1.index1; (iterate 6 exact rfl); omega; omega; exact rfl)) | (apply R.box; (iterate 3 exact rfl); intro)) | apply R.nil | (apply T.is; first | apply T.rounds 5 | apply T.seq | apply T.region | apply T.block | apply T.skip | apply T.exit | apply T.ret | (apply T.cond_t; exact rfl) | (apply T.cond_f; exact rfl)))
    (apply RetOk.t; exact rfl)
    rfl
def Cov (us vs : List Int) : Prop := ∀ x ∈ us.zip vs, x.2 ≤ x.1
instance (us vs : List Int) : Decidable (Cov us vs) := by unfold Cov; infer_instance
/-- Serials log by log, as long as there is room. -/
def cutD : Nat → List (Int × List Int) → List (Int × List Int)
  | _, [] => []
  | n, x :: r => (x.1, x.2.take n) :: cutD (n - x.2.length) r
def minV (ls : List (List Int)) (vs : List Int) : List Int := (ls.zip vs).map fun x => min x.2 x.1.length
def ovr (room : Int) (d : Dl) : Int := (max (16 + 2 * (cntL (pur d) : Int) - room) 0 + 1) / 2
def cutN (room : Int) (d : Dl) (x : Pi) : Nat := (max ((x.xs.length : Int) - ovr room d) 0).toNat
def cutP (n : Nat) (x : Pi) : Pi := ⟨x.p, n, x.xs.take n⟩
def cutAt (room : Int) (k : Nat) (d : Dl) : Dl := match d[k]? with
  | some x => d.set k (x.1, cutP (cutN room d x.2) x.2)
  | none => d
theorem cutAt_len (room : Int) (k : Nat) (d : Dl) : (cutAt room k d).length = d.length := by
  unfold cutAt; split <;> simp
theorem cutN_le (room : Int) (d : Dl) (x : Pi) : cutN room d x ≤ x.xs.length := by
  unfold cutN ovr
  omega
theorem cutAt_mem {room : Int} {k : Nat} {d : Dl} {y : Int × Pi} (h : y ∈ cutAt room k d) : y ∈ d ∨ ∃ x n, x ∈ d ∧ n ≤ x.2.xs.length ∧ y = (x.1, cutP n x.2) := by
  unfold cutAt at h
  split at h
  · rename_i x hx
    rcases List.mem_or_eq_of_mem_set h with h1 | h1
    · exact .inl h1
    · exact .inr ⟨x, _, List.mem_of_getElem? hx, cutN_le _ _ _, h1⟩
  · exact .inl h
theorem DlO.cut {d : Dl} {L : Lst} (h : DlO d L) (room : Int) (k : Nat) : DlO (cutAt room k d) L := by
  refine ⟨fun y hy => ?_, fun y hy hne => ?_, fun w0 w S L' hw hin y hy => ?_⟩
  · rcases cutAt_mem hy with h1 | ⟨x, n, hx, hn, rfl⟩
    · exact h.cap y h1
    · simp only [cutP, List.length_take]; omega
  · rcases cutAt_mem hy with h1 | ⟨x, n, hx, hn, rfl⟩
    · exact h.adr y h1 hne
    · refine h.adr x hx ?_
      rintro h0
      apply hne
      simp [cutP, h0]
  · rcases cutAt_mem hy with h1 | ⟨x, n, hx, hn, rfl⟩
    · exact h.rd w0 w S L' hw hin y h1
    · exact (h.rd w0 w S L' hw hin x hx).pre iV_len n
def cutF (room : Int) (d : Dl) : Nat → Dl
  | 0 => d
  | k + 1 => cutAt room (3 - k) (cutF room d k)
theorem cutF_len (room : Int) (d : Dl) (k : Nat) : (cutF room d k).length = d.length := by
  induction k with
  | zero => rfl
  | succ k ih => rw [cutF, cutAt_len, ih]
theorem DlO.cutF {d : Dl} {L : Lst} (h : DlO d L) (room : Int) (k : Nat) : DlO (cutF room d k) L := by
  induction k with
  | zero => exact h
  | succ k ih => exact ih.cut room _
theorem cutF_le (room : Int) (d : Dl) (m : Nat) (h : ∀ x ∈ d, x.2.xs.length ≤ m) (k : Nat) : ∀ x ∈ cutF room d k, x.2.xs.length ≤ m := by
  induction k with
  | zero => exact h
  | succ k ih =>
    intro y hy
    rcases cutAt_mem hy with h1 | ⟨x, n, hx, hn, rfl⟩
    · exact ih y h1
    · have := ih x hx
      simp only [cutP, List.length_take]; omega
theorem take_eq {α : Type} {l : List α} {m n : Nat} (h : min m l.length = min n l.length) : l.take m = l.take n := by
  rcases Nat.le_total m l.length with h1 | h1
  · rcases Nat.le_total n l.length with h2 | h2
    · rw [Nat.min_eq_left h1, Nat.min_eq_left h2] at h; rw [h]
    · rw [Nat.min_eq_left h1, Nat.min_eq_right h2] at h; rw [List.take_of_length_le h2, h, List.take_length]
  · rcases Nat.le_total n l.length with h2 | h2
    · rw [Nat.min_eq_right h1, Nat.min_eq_left h2] at h; rw [List.take_of_length_le h1, ← h, List.take_length]
    · rw [List.take_of_length_le h1, List.take_of_length_le h2]
theorem cutF_all (room : Int) (hr : 16 ≤ room) (d : Dl) (hd : d.length = 4) : pur (cutF room d 4) = cutD ((room - 16) / 2).toNat (pur d) := by
  match d, hd with
  | [(a0, x0), (a1, x1), (a2, x2), (a3, x3)], _ =>
    obtain ⟨m, hm⟩ : ∃ m : Nat, (room - 16) / 2 = m := ⟨((room - 16) / 2).toNat, by omega⟩
    rw [hm, Int.toNat_natCast]
    have e1 : cutF room [(a0, x0), (a1, x1), (a2, x2), (a3, x3)] 1 = [(a0, x0), (a1, x1), (a2, x2), (a3, cutP (cutN room [(a0, x0), (a1, x1), (a2, x2), (a3, x3)] x3) x3)] := rfl
    have n3 : cutN room [(a0, x0), (a1, x1), (a2, x2), (a3, x3)] x3 = min x3.xs.length (m - x0.xs.length - x1.xs.length - x2.xs.length) := by
      simp only [cutN, ovr, cntL, pur, List.map_cons, List.map_nil, List.sum_cons, List.sum_nil]
      omega
    rw [n3] at e1
    generalize hy3 : cutP (min x3.xs.length (m - x0.xs.length - x1.xs.length - x2.xs.length)) x3 = y3 at *
    have l3 : y3.xs.length = min x3.xs.length (m - x0.xs.length - x1.xs.length - x2.xs.length) := by rw [← hy3]; simp only [cutP, List.length_take]; omega
    have t3 : y3.xs = x3.xs.take (m - x0.xs.length - x1.xs.length - x2.xs.length) := by rw [← hy3]; exact take_eq (by omega)
    have e2 : cutF room [(a0, x0), (a1, x1), (a2, x2), (a3, x3)] 2 = [(a0, x0), (a1, x1), (a2, cutP (cutN room [(a0, x0), (a1, x1), (a2, x2), (a3, y3)] x2) x2), (a3, y3)] := by rw [cutF, e1]; rfl
    have n2 : cutN room [(a0, x0), (a1, x1), (a2, x2), (a3, y3)] x2 = min x2.xs.length (m - x0.xs.length - x1.xs.length) := by
      simp only [cutN, ovr, cntL, pur, List.map_cons, List.map_nil, List.sum_cons, List.sum_nil, l3]
      omega
    rw [n2] at e2
    generalize hy2 : cutP (min x2.xs.length (m - x0.xs.length - x1.xs.length)) x2 = y2 at *
    have l2 : y2.xs.length = min x2.xs.length (m - x0.xs.length - x1.xs.length) := by rw [← hy2]; simp only [cutP, List.length_take]; omega
    have t2 : y2.xs = x2.xs.take (m - x0.xs.length - x1.xs.length) := by rw [← hy2]; exact take_eq (by omega)
    have e3 : cutF room [(a0, x0), (a1, x1), (a2, x2), (a3, x3)] 3 = [(a0, x0), (a1, cutP (cutN room [(a0, x0), (a1, x1), (a2, y2), (a3, y3)] x1) x1), (a2, y2), (a3, y3)] := by rw [cutF, e2]; rfl
    have n1 : cutN room [(a0, x0), (a1, x1), (a2, y2), (a3, y3)] x1 = min x1.xs.length (m - x0.xs.length) := by
      simp only [cutN, ovr, cntL, pur, List.map_cons, List.map_nil, List.sum_cons, List.sum_nil, l3, l2]
      omega
    rw [n1] at e3
    generalize hy1 : cutP (min x1.xs.length (m - x0.xs.length)) x1 = y1 at *
    have l1 : y1.xs.length = min x1.xs.length (m - x0.xs.length) := by rw [← hy1]; simp only [cutP, List.length_take]; omega
    have t1 : y1.xs = x1.xs.take (m - x0.xs.length) := by rw [← hy1]; exact take_eq (by omega)
    have e4 : cutF room [(a0, x0), (a1, x1), (a2, x2), (a3, x3)] 4 = [(a0, cutP (cutN room [(a0, x0), (a1, y1), (a2, y2), (a3, y3)] x0) x0), (a1, y1), (a2, y2), (a3, y3)] := by rw [cutF, e3]; rfl
    have n0 : cutN room [(a0, x0), (a1, y1), (a2, y2), (a3, y3)] x0 = min x0.xs.length m := by
      simp only [cutN, ovr, cntL, pur, List.map_cons, List.map_nil, List.sum_cons, List.sum_nil, l3, l2, l1]
      omega
    rw [e4, n0]
    simp only [pur, List.map_cons, List.map_nil, cutD, t1, t2, t3, cutP]
    rw [take_eq (l := x0.xs) (m := min x0.xs.length m) (n := m) (by omega)]
theorem dl_setlog {d : Dl} (hd : d.length = 4) {k : Nat} {x : Int × Pi} (hx : d[k]? = some x) (y : Pi) : setE (dlV d) (4 + k * 1) [.slice y.p y.xs.length y.cap] = some (dlV (d.set k (x.1, y))) := by
  have hk : k < 4 := by rw [← hd]; exact (List.getElem?_eq_some_iff.1 hx).1
  rw [setE_one (by rw [show (dlV d).length = 8 by simp [dlV, fl_pi, iis_len, hd]]; omega)]
  congr 1
  match d, hd, k, hk, hx with
  | [_, _, _, _], _, 0, _, rfl => rfl
  | [_, _, _, _], _, 1, _, rfl => rfl
  | [_, _, _, _], _, 2, _, rfl => rfl
  | [_, _, _, _], _, 3, _, rfl => rfl
theorem backward_ok (p : Option Addr) (n c : Nat) (w : World) : CallM Tryz.prog 153 [.slice p n c] [] w fun v L => ∃ cb, v = .func (.func 204) #[] #[.pointer (some ⟨cb, 0, none⟩)] ∧ L = [(cb, .cells ⟨[.slice p n c]⟩ 87 (0, 0))] := by
  refine enterK (tb := tb) Tryz.func153 rfl Tryz.ntmps153 rfl ?_
  repeat' (first | (apply R.is1; first | (apply R.pure; exact rfl; first | (apply Ok1.assign; exact rfl) | (apply Ok1.makeFunc; exact rfl; exact rfl)) | (apply R.box; (iterate 3 exact rfl); intro)) | apply R.nil | (apply T.is; first | apply T.seq | apply T.region | apply T.ret))
  (apply RetOk.t; exact rfl)
  exact ⟨_, by (focus (repeat' first | exact Keep.nil _ | exact Ext.one _ _ | apply Keep.cons); done), _, rfl, rfl⟩
/-- The blocks of the answer's loop: the delta, the room. -/
def AnL (b5 b10 : Nat) (room : Int) (d : Dl) : Lst := [(b10, .cells ⟨dlV d⟩ 76 (0, 0)), (b5, .cells ⟨[.int .i64 room]⟩ 3 (0, 0))]
theorem backward1_ok (b5 b10 : Nat) (room : Int) (F : Nat → Dl) (hF : ∀ k, (F k).length = 4) (l : Nat) (o : Obj) (cb : Nat)
    (hY : ∀ k x w, k < 4 → (F k)[3 - k]? = some x → YieldM Tryz.prog l [.int .i64 (3 - k), .slice x.2.p x.2.xs.length x.2.cap] ((l, o) :: AnL b5 b10 room (F k)) w fun v L => v = .bool true ∧ ∃ L5, L5 = AnL b5 b10 room (F (k + 1)) ∧ L = (l, o) :: L5) (w : World) :
    CallM Tryz.prog 204 [.func (.yield l) #[] #[], .pointer (some ⟨cb, 0, none⟩)] ((l, o) :: (cb, .cells ⟨[.slice (some ⟨b10, 4, none⟩) 4 4]⟩ 87 (0, 0)) :: AnL b5 b10 room (F 0)) w fun v L => L = (l, o) :: (cb, .cells ⟨[.slice (some ⟨b10, 4, none⟩) 4 4]⟩ 87 (0, 0)) :: AnL b5 b10 room (F 4) := by
  refine enterK (tb := tb) Tryz.func204 rfl Tryz.ntmps204 rfl ?_
  repeat' (first | (apply R.is1; first | (apply R.isBin; (apply R.pure; exact rfl; (apply Ok1.sub64; exact rfl; exact rfl; omega; omega))) | (apply R.isCall; (apply R.pure; exact rfl; (apply Ok1.lenS; (iterate 3 exact rfl)))) | (apply R.pure; exact rfl; first | (apply Ok1.load; exact rfl; (apply Ld.own1; exact rfl; exact rfl; (focus (repeat' first | exact At.head | apply At.tail); done); exact rfl)) | (apply Ok1.assign; exact rfl))) | apply R.nil | (apply T.is; first | apply T.seq | apply T.region | apply T.block))
  apply T.loopK (α := Nat) (I := fun k => k ≤ 4) (σi := fun k => [(0, .func (.yield l) #[] #[]), (1, .pointer (some ⟨cb, 0, none⟩)), (3, .int .i64 (3 - k))])
    (Li := fun k => (l, o) :: (cb, .cells ⟨[.slice (some ⟨b10, 4, none⟩) 4 4]⟩ 87 (0, 0)) :: AnL b5 b10 room (F k)) (μ := fun k => 4 - k) (i0 := 0)
  · exact Nat.zero_le _
  · exact ⟨rfl, rfl, rfl, trivial⟩
  · (focus (repeat' first | exact Keep.nil _ | exact Ext.one _ _ | apply Keep.cons); done)
  · intro k hk
    rcases Nat.lt_or_ge k 4 with hlt | hge
    · obtain ⟨x, hx⟩ : ∃ x, (F k)[3 - k]? = some x := ⟨_, List.getElem?_eq_getElem (by rw [hF]; omega)⟩
      have hlog := dl_log (hF k) hx
      have hyy := hY k x
      have h3 : ((3 - k : Nat) : Int) = 3 - (k : Int) := by omega
      simp only [AnL] at hyy ⊢
      generalize dlV (F k) = D at *
      repeat' (first | (apply RI.yield; (iterate 3 exact rfl); (focus (exact Ext.two _ (Ext.one _ _) (Ext.cons _ (Ext.all _)))); intro w1 hw1; exact hyy w1 hlt hx; rintro v Lo ⟨rfl, L5, rfl, rfl⟩) | (apply R.is1; first | (apply R.isBin; (apply R.pure; exact rfl; first | (apply Ok1.sub64; exact rfl; exact rfl; omega; omega) | (apply Ok1.geq_t; exact rfl; exact rfl; omega))) | (apply R.pure; exact rfl; first | (apply Ok1.load; exact rfl; apply Ld.own1; exact rfl; exact rfl; (focus (repeat' first | exact At.head | apply At.tail); done); rw [show (3 - (k : Int)).toNat = 3 - k by omega]; exact hlog) | (apply Ok1.move; exact rfl) | (apply Ok1.load; exact rfl; (apply Ld.own1; exact rfl; exact rfl; (focus (repeat' first | exact At.head | apply At.tail); done); exact rfl)) | (apply Ok1.assign; exact rfl) | (apply Ok1.indexAddr; (iterate 5 exact rfl); omega; omega) | (apply Ok1.not_t; exact rfl))) | apply R.nil | (apply T.is; first | apply T.regionIn (id := 3) | apply T.seq | apply T.region | apply T.block | apply T.skip | (apply T.cond_t; exact rfl) | (apply T.cond_f; exact rfl)) | (apply RI.step; exact rfl) | apply RI.nil)
      have h4 : (3 : Int) - k - 1 = 3 - ((k + 1 : Nat) : Int) := by omega
      exact ⟨k + 1, by omega, by omega, ⟨rfl, rfl, by rw [← h4]; rfl, trivial⟩, by (focus (repeat' first | exact Keep.nil _ | exact Ext.one _ _ | apply Keep.cons | apply Ext.cons); done)⟩
    · have hk4 : k = 4 := by omega
      subst hk4
      repeat' (first | (apply R.is1; first | (apply R.isBin; (apply R.pure; exact rfl; (apply Ok1.geq_f; exact rfl; exact rfl; omega))) | (apply R.pure; exact rfl; (apply Ok1.move; exact rfl))) | apply R.nil | (apply T.is; first | apply T.seq | apply T.region | apply T.exit | (apply T.cond_f; exact rfl)))
      (apply RetOk.n)
      exact ⟨_, by (focus (repeat' first | exact Keep.nil _ | exact Ext.one _ _ | apply Keep.cons); done), rfl⟩
theorem pur_len9 {d : Dl} {e : List (Int × List Int)} (h : pur d = e) : d.length = e.length := by rw [← h, pur, List.length_map]
theorem cnt_le {d : Dl} (hd : d.length = 4) (h : ∀ x ∈ d, x.2.xs.length ≤ 256) : cntL (pur d) ≤ 1024 := by
  match d, hd with
  | [(a0, x0), (a1, x1), (a2, x2), (a3, x3)], _ =>
    have h0 := h _ (.head _)
    have h1 := h _ (.tail _ (.head _))
    have h2 := h _ (.tail _ (.tail _ (.head _)))
    have h3 := h _ (.tail _ (.tail _ (.tail _ (.head _))))
    simp only at h0 h1 h2 h3
    simp only [cntL, pur, List.map_cons, List.map_nil, List.sum_cons, List.sum_nil]
    omega
theorem answer_bad (bs : Nat) (vs : List Int) (hv : vs.length = 4) (room : Int) (h : ¬ VR vs ∨ room < 16) : CallP Tryz.prog 77 [.pointer (some ⟨bs, 0, none⟩), .agg ⟨iis vs⟩, .int .i64 room] (.tuple #[.agg ⟨noD⟩, .int .i64 (if VR vs then 2 else 10)]) := by
  have hr := vright_ok vs hv
  have hil : (iis vs).length = 4 := by rw [iis_len, hv]
  refine enterP (tb := tb) Tryz.func77 rfl Tryz.ntmps77 rfl fun w => ?_
  by_cases hV : VR vs
  · rw [if_pos hV]
    rw [decide_eq_true hV] at hr
    have hlt : room < 16 := h.resolve_left (fun h => h hV)
    repeat' (first | (apply R.is1; first | (apply R.isBin; (apply R.pure; exact rfl; first | (apply Ok1.lss_t; exact rfl; exact rfl; omega) | (apply Ok1.eqlP; (iterate 5 exact rfl)))) | (apply R.isCall; apply R.callP rfl rfl rfl hr) | (apply R.pure; exact rfl; first | (apply Ok1.load; exact rfl; (apply Ld.ownk; exact rfl; exact rfl; (focus (repeat' first | exact At.head | apply At.tail); done); exact subE_all hil)) | (apply Ok1.move; exact rfl) | (apply Ok1.load; exact rfl; (apply Ld.own1; exact rfl; exact rfl; (focus (repeat' first | exact At.head | apply At.tail); done); exact rfl)) | (apply Ok1.assign; exact rfl) | (apply Ok1.build; (iterate 5 exact rfl)) | (apply Ok1.not_t; exact rfl)) | (apply R.box; (iterate 3 exact rfl); intro) | (apply R.alloc; (iterate 3 exact rfl); intro)) | (apply R.is0; (apply R.store; (iterate 6 exact rfl); exact Upd.head; exact rfl)) | apply R.nil | (apply T.is; first | apply T.seq | apply T.region | apply T.block | apply T.ret | (apply T.cond_t; exact rfl) | (apply T.cond_f; exact rfl)))
    (apply RetOk.ct; exact rfl; ((apply Ld.ownk; exact rfl; exact rfl; exact At.head; exact rfl)); exact rfl)
    rfl
  · rw [if_neg hV]
    rw [decide_eq_false hV] at hr
    repeat' (first | (apply R.is1; first | (apply R.isBin; (apply R.pure; exact rfl; (apply Ok1.eqlP; (iterate 5 exact rfl)))) | (apply R.isCall; apply R.callP rfl rfl rfl hr) | (apply R.pure; exact rfl; first | (apply Ok1.load; exact rfl; (apply Ld.ownk; exact rfl; exact rfl; (focus (repeat' first | exact At.head | apply At.tail); done); exact subE_all hil)) | (apply Ok1.move; exact rfl) | (apply Ok1.assign; exact rfl) | (apply Ok1.build; (iterate 5 exact rfl)) | (apply Ok1.not_f; exact rfl)) | (apply R.box; (iterate 3 exact rfl); intro) | (apply R.alloc; (iterate 3 exact rfl); intro)) | (apply R.is0; (apply R.store; (iterate 6 exact rfl); exact Upd.head; exact rfl)) | apply R.nil | (apply T.is; first | apply T.seq | apply T.region | apply T.block | apply T.ret | (apply T.cond_t; exact rfl) | (apply T.cond_f; exact rfl)))
    (apply RetOk.ct; exact rfl; ((apply Ld.ownk; exact rfl; exact rfl; exact At.head; exact rfl)); exact rfl)
    rfl
theorem min4 (ls : List (List Int)) (v0 v1 v2 v3 : Int) (l0 l1 l2 l3 : List Int) (h : ls = [l0, l1, l2, l3]) : minV ls [v0, v1, v2, v3] = [min v0 l0.length, min v1 l1.length, min v2 l2.length, min v3 l3.length] := by rw [h]; rfl
theorem minV_ok {ls : List (List Int)} {vs : List Int} (h : VR vs) : VOk ls (minV ls vs) := by
  intro x hx
  obtain ⟨i, hi⟩ := List.getElem?_of_mem hx
  rw [List.getElem?_zip_eq_some] at hi
  obtain ⟨h1, h2⟩ := hi
  rw [minV, List.getElem?_map] at h2
  cases hz : (ls.zip vs)[i]? with
  | none => rw [hz] at h2; cases h2
  | some z =>
    rw [hz] at h2
    rw [List.getElem?_zip_eq_some] at hz
    have e1 : x.1 = z.1 := Option.some.inj (h1.symm.trans hz.1)
    have h3 := h z.2 (List.mem_of_getElem? hz.2)
    have h4 := Option.some.inj h2
    rw [e1, ← h4]
    simp only
    omega
theorem minV_len {ls : List (List Int)} {vs : List Int} (h1 : ls.length = 4) (h2 : vs.length = 4) : (minV ls vs).length = 4 := by simp [minV, h1, h2]
theorem answer_ok (bs : Nat) (gs : List Lg) (hg : GOk gs) (v0 v1 v2 v3 : Int) (hV : VR [v0, v1, v2, v3]) (room : Int) (hr16 : 16 ≤ room) (hr63 : room ≤ 9223372036854775807) (w : World) (hs : SetR w bs gs) :
    CallM Tryz.prog 77 [.pointer (some ⟨bs, 0, none⟩), .agg ⟨iis [v0, v1, v2, v3]⟩, .int .i64 room] [] w fun v L => ∃ d, d.length = 4 ∧ v = .tuple #[.agg ⟨dlV d⟩, .int .i64 0] ∧ pur d = cutD ((room - 16) / 2).toNat (sinD (lgs gs) (minV (lgs gs) [v0, v1, v2, v3])) ∧ DlO d L := by
  have hr := vright_ok [v0, v1, v2, v3] rfl
  rw [decide_eq_true hV] at hr
  have hve := fun w1 (hc : Chg [] w w1) => versions_ok bs gs hg w1 (hs.chg hc)
  obtain ⟨g0, g1, g2, g3, rfl⟩ : ∃ g0 g1 g2 g3, gs = [g0, g1, g2, g3] := by
    match gs, hg.len with
    | [a, b, c, d], _ => exact ⟨a, b, c, d, rfl⟩
  have hm4 := min4 (lgs [g0, g1, g2, g3]) v0 v1 v2 v3 g0.xs g1.xs g2.xs g3.xs rfl
  have hmo := minV_ok (ls := lgs [g0, g1, g2, g3]) hV
  have hml := minV_len (ls := lgs [g0, g1, g2, g3]) (vs := [v0, v1, v2, v3]) rfl rfl
  have hsi := fun w1 (hc : Chg [] w w1) => since_ok bs _ hg _ hml w1 (hs.chg hc)
  simp only [if_pos hmo, hmo, not_true_eq_false, true_and, false_and, or_false] at hsi
  have hsl : ∀ d : Dl, pur d = sinD (lgs [g0, g1, g2, g3]) (minV (lgs [g0, g1, g2, g3]) [v0, v1, v2, v3]) → d.length = 4 ∧ ∀ x ∈ d, x.2.xs.length ≤ 256 := fun d h => by
    refine ⟨by rw [pur_len9 h, sinD, List.length_map, List.length_zip, hml]; rfl, fun x hx => ?_⟩
    have h9 : (x.1, x.2.xs) ∈ pur d := List.mem_map.2 ⟨x, hx, rfl⟩
    rw [h, sinD] at h9
    obtain ⟨z, hz, he⟩ := List.mem_map.1 h9
    have h8 := (List.of_mem_zip hz).1
    rw [lgs] at h8
    obtain ⟨g, hgm, hge⟩ := List.mem_map.1 h8
    have h7 := hg.le g hgm
    have h6 : x.2.xs = z.1.drop z.2.toNat := (congrArg Prod.snd he).symm
    rw [h6, List.length_drop, ← hge]
    omega
  generalize hsd : sinD (lgs [g0, g1, g2, g3]) (minV (lgs [g0, g1, g2, g3]) [v0, v1, v2, v3]) = SD at *
  rw [hm4] at hsi
  refine enterF (tb := tb) Tryz.func77 rfl Tryz.ntmps77 rfl ?_
  have hbk := fun p n c w1 => backward_ok p n c w1
  repeat' (first | (apply TF.range2 (gf := 204); exact rfl; exact rfl) | apply TF.seq | (apply R.is1; first | (apply R.isBin; (apply R.pure; exact rfl; first | (apply Ok1.add64; exact rfl; exact rfl; omega; omega) | (apply Ok1.lss_t; exact rfl; exact rfl; omega) | (apply Ok1.lss_f; exact rfl; exact rfl; omega) | (apply Ok1.neq_f; exact rfl; exact rfl; omega) | (apply Ok1.eqlP; (iterate 5 exact rfl)))) | (apply R.isCall; first | apply R.callP rfl rfl rfl hr | (apply R.callV (vs := [.pointer (some ⟨bs, 0, none⟩)]); (iterate 3 exact rfl); intro w1 hw1; exact hve w1 hw1.chg) | (apply R.callE (vs := [.pointer (some ⟨bs, 0, none⟩), .agg ⟨[.int .i64 (min v0 g0.xs.length), .int .i64 (min v1 g1.xs.length), .int .i64 (min v2 g2.xs.length), .int .i64 (min v3 g3.xs.length)]⟩]); (iterate 3 exact rfl); exact Ext.none _; intro w1 hw1; exact hsi w1 hw1.chg; rintro v M ⟨d, rfl, hpd, hdo⟩; obtain ⟨hd4, hd256⟩ := hsl d hpd; have hd8 := dl_len8r hd4; have hd1 := dl_oner d) | (apply R.callE (vs := [.slice (some ⟨_, 4, none⟩) 4 4]); (iterate 3 exact rfl); exact Ext.none _; intro w1 hw1; exact hbk _ _ _ w1; rintro v Lo ⟨cb, rfl, rfl⟩) | (apply R.pure; exact rfl; (apply Ok1.min2; exact rfl; exact rfl))) | (apply R.pure; exact rfl; first | (apply Ok1.sliceArr; (iterate 4 exact rfl)) | (apply Ok1.move; exact rfl) | (apply Ok1.fieldAddr; (iterate 5 exact rfl)) | (apply Ok1.load; exact rfl; first | (apply Ld.own1; exact rfl; exact rfl; (focus (repeat' first | exact At.head | apply At.tail); done); exact rfl) | (apply Ld.ownk; exact rfl; exact rfl; (focus (repeat' first | exact At.head | apply At.tail); done); exact rfl)) | (apply Ok1.assign; exact rfl) | (apply Ok1.indexAddrA; (iterate 5 exact rfl); omega; omega) | (apply Ok1.extract; exact rfl; exact rfl) | (apply Ok1.not_t; exact rfl) | (apply Ok1.index1; (iterate 6 exact rfl); omega; omega; exact rfl)) | (apply R.box; (iterate 3 exact rfl); intro) | (apply R.alloc; (iterate 3 exact rfl); intro)) | (apply R.is0; first | (apply R.store; (iterate 4 exact rfl); exact hd8; exact hd1; exact Upd.head; exact setE_all (by rw [hd8]; rfl)) | (apply R.store; (iterate 6 exact rfl); (focus (repeat' first | exact Upd.head | apply Upd.tail); done); exact rfl)) | apply R.nil | (apply T.is; first | apply T.rounds 5 | apply T.seq | apply T.region | apply T.block | apply T.skip | apply T.exit | (apply T.cond_t; exact rfl) | (apply T.cond_f; exact rfl)))
  rename_i b4 b5 b6 b10
  clear hbk hsi hve hr
  have hFl : ∀ k, (cutF room d k).length = 4 := fun k => (cutF_len room d k).trans hd4
  have hFle := cutF_le room d 256 hd256
  refine ⟨⟨[.pointer (some ⟨cb, 0, none⟩)], (cb, .cells ⟨[.slice (some ⟨b10, 4, none⟩) 4 4]⟩ 87 (0, 0)) :: AnL b5 b10 room (cutF room d 0), (b6, .cells ⟨noD⟩ 76 (0, 0)) :: M, fun Lb => Lb = (cb, .cells ⟨[.slice (some ⟨b10, 4, none⟩) 4 4]⟩ 87 (0, 0)) :: AnL b5 b10 room (cutF room d 4), ?_, rfl, ?_, ?_⟩⟩
  · simp only [AnL, cutF, noD]
    (focus (repeat' first | exact Ext.one _ _ | exact Ext.here _ _ | apply Keep.cons | apply Keep.last | apply Ext.cons | apply Ext.app); done)
  · intro l rec w1 hok _
    refine (backward1_ok b5 b10 room (cutF room d) hFl l _ cb ?_ w1).wk (fun v L h => ⟨_, rfl, h⟩)
    intro k x w2 hk hx
    apply YieldM.of2 (tb := tb) hok.mod hok.params (blt_lt rfl) (blt_lt rfl) hok.state hok.pending
    rw [hok.assign, hok.body]
    repeat' (first | apply TI.seq | (apply TI.region; exact rfl) | (apply R.is1; (apply R.pure; exact rfl; (apply Ok1.assign; exact rfl))) | apply R.nil)
    refine ⟨AnL b5 b10 room (cutF room d k), by simp only [AnL]; (focus (repeat' first | exact Keep.nil _ | exact Ext.one _ _ | apply Keep.cons); done), ?_⟩
    have hsz := dsize_ok (cutF room d k) (hFl k) (fun y hy => by have := hFle k y hy; omega)
    have hcn := cutN_le room (cutF room d k) x.2
    have hx256 := hFle k x (List.mem_of_getElem? hx)
    have hcap := (hdo.cutF room k).cap x (List.mem_of_getElem? hx)
    have hct : cntL (pur (cutF room d k)) ≤ 1024 := cnt_le (hFl k) (hFle k)
    have hnx : cutF room d (k + 1) = (cutF room d k).set (3 - k) (x.1, cutP (cutN room (cutF room d k) x.2) x.2) := by rw [cutF, cutAt, hx]
    have hst := dl_setlog (hFl k) hx (cutP (cutN room (cutF room d k) x.2) x.2)
    rw [← hnx] at hst
    have hov : (max (16 + 2 * (cntL (pur (cutF room d k)) : Int) - room) 0 + 1) / 2 = ovr room (cutF room d k) := rfl
    have hov0 : 0 ≤ ovr room (cutF room d k) ∧ ovr room (cutF room d k) ≤ 2000 := by rw [← hov]; omega
    have hmx : max ((x.2.xs.length : Int) - ovr room (cutF room d k)) 0 = (cutN room (cutF room d k) x.2 : Int) := by unfold cutN; omega
    have hl8 := dl_len8r (hFl k)
    have hcl : (cutP (cutN room (cutF room d k) x.2) x.2).xs.length = cutN room (cutF room d k) x.2 := by simp only [cutP, List.length_take]; omega
    rw [hcl] at hst
    simp only [cutP] at hst
    simp only [AnL]
    generalize dlV (cutF room d (k + 1)) = D2 at *
    generalize cutN room (cutF room d k) x.2 = n at *
    generalize ovr room (cutF room d k) = ov at *
    generalize cntL (pur (cutF room d k)) = c at *
    generalize dlV (cutF room d k) = D1 at *
    apply TI.block
    apply TI.seq
    apply TI.drawC (id := 18) [1,2] (by decide) rfl
    (apply A.tk 0; exact rfl; kernel_rfl; (apply Ok1.load; exact rfl; (apply Ld.ownk; exact rfl; exact rfl; exact At.head; exact subE_all hl8)))
      <;> (apply A.tk 2; exact rfl; kernel_rfl; (apply Ok1.load; exact rfl; (apply Ld.own1; exact rfl; exact rfl; (focus (repeat' first | exact At.head | apply At.tail); done); exact rfl)))
      <;> (apply A.one 1; kernel_rfl; exact rfl; ((apply R.callP rfl rfl rfl hsz)); apply R.nil; refine ⟨?_, ?_⟩; (focus (repeat' first | exact trivial | exact At.head | apply At.tail | refine ⟨?_, ?_⟩)))
      <;> (apply A.tk 3; exact rfl; kernel_rfl; (apply Ok1.sub64; exact rfl; exact rfl; omega; omega))
      <;> (apply A.tk 4; exact rfl; kernel_rfl; (apply Ok1.max2; exact rfl; exact rfl))
      <;> (apply A.tk 5; exact rfl; kernel_rfl; (apply Ok1.add64; exact rfl; exact rfl; omega; omega))
      <;> (apply A.tk 6; exact rfl; kernel_rfl; (apply Ok1.quo64; exact rfl; exact rfl; omega; omega; omega))
      <;> (apply A.tk 7; exact rfl; kernel_rfl; (apply Ok1.assign; exact rfl))
      <;> (apply A.done; kernel_rfl)
    simp only [noQ]
    rw [hov]
    repeat' (first | apply TI.seq | (apply TI.region; exact rfl) | (apply R.is1; first | (apply R.isBin; (apply R.pure; exact rfl; (apply Ok1.sub64; exact rfl; exact rfl; omega; omega))) | (apply R.isCall; first | (apply R.pure; exact rfl; apply Ok1.max2E; exact rfl; exact rfl; exact hmx) | (apply R.pure; exact rfl; (apply Ok1.lenS; (iterate 3 exact rfl)))) | (apply R.pure; exact rfl; first | (apply Ok1.pre3 (j := n); (iterate 6 exact rfl); omega) | (apply Ok1.move; exact rfl) | (apply Ok1.fieldAddr; (iterate 5 exact rfl)) | (apply Ok1.assign; exact rfl) | (apply Ok1.indexAddrA; (iterate 5 exact rfl); omega; omega))) | (apply R.is0; (apply R.store; (iterate 6 exact rfl); (focus (repeat' first | exact Upd.head | apply Upd.tail); done); rw [show (3 - (k : Int)).toNat = 3 - k by omega]; exact hst)) | apply R.nil)
    exact ⟨_, by (focus (repeat' first | exact Keep.nil _ | exact Ext.one _ _ | apply Keep.cons); done), rfl⟩
  · rintro D Lb rfl
    have hl8 := dl_len8r (hFl 4)
    have h1c := dl_oner (cutF room d 4)
    simp only [AnL]
    repeat' (first | apply TD.seq | apply TD.region | apply TD.ret | (apply R.is1; (apply R.pure; exact rfl; first | (apply Ok1.load; exact rfl; (apply Ld.ownk; exact rfl; exact rfl; (focus (repeat' first | exact At.head | apply At.tail); done); exact subE_all hl8)) | (apply Ok1.assign; exact rfl))) | (apply R.is0; (apply R.store; (iterate 4 exact rfl); exact hl8; exact h1c; (focus (repeat' first | exact Upd.head | apply Upd.tail); done); exact setE_all (by rw [hl8]; rfl))) | apply R.nil)
    refine ⟨rfl, (b6, .cells ⟨dlV (cutF room d 4)⟩ 76 (0, 0)) :: M, by (focus (repeat' first | exact Ext.one _ _ | exact Ext.all _ | apply Keep.cons | apply Keep.last | apply Ext.cons); done), ?_⟩
    (apply RetOk.ct; exact rfl; (apply Ld.ownk; exact rfl; exact rfl; (focus (repeat' first | exact At.head | apply At.tail); done); exact subE_all hl8); exact rfl)
    refine ⟨cutF room d 4, hFl 4, rfl, ?_, (hdo.cutF room 4).mono fun z hz => List.mem_cons_of_mem _ hz⟩
    rw [cutF_all room hr16 d hd4, hpd]
theorem ovoff {ov : Ov} {xs : List Value} {e : Nat} {w0 w : World} {S : List Nat} {L Li Lr : Lst} (hw : Hp w0 S L w) (he : Ext L Li Lr) (hin : ∀ z ∈ blkL e ov xs, z ∈ Lr) : Off (ovp ov) (blks Li) := by
  intro a ha
  cases ov with
  | none => cases ha
  | some q =>
    obtain ⟨b, j, junk⟩ := q
    cases ha
    exact RdSl.off hw he (hin _ List.mem_cons_self)
theorem DlO.off {d : Dl} {M : Lst} (h : DlO d M) {w0 w : World} {S : List Nat} {L Li Lr : Lst} (hw : Hp w0 S L w) (he : Ext L Li Lr) (hin : ∀ z ∈ M, z ∈ Lr) : ∀ x ∈ d, x.2.xs ≠ [] → Off x.2.p (blks Li) := by
  intro x hx hne a ha
  obtain ⟨b, o, hp, hb⟩ := h.adr x hx hne
  rw [hp] at ha
  cases ha
  obtain ⟨z, hz, hze⟩ := List.mem_map.1 hb
  obtain ⟨zb, zo⟩ := z
  simp only at hze
  subst hze
  exact RdSl.off hw he (hin _ hz)
/-- The room that is left behind so many logs. -/
def lft : Nat → List (Int × List Int) → Nat → Nat
  | n, _, 0 => n
  | n, [], _ + 1 => n
  | n, x :: r, k + 1 => lft (n - x.2.length) r k
theorem cutD_get : ∀ (dd : List (Int × List Int)) (n i : Nat) (x : Int × List Int), dd[i]? = some x → (cutD n dd)[i]? = some (x.1, x.2.take (lft n dd i)) ∧ lft n dd (i + 1) = lft n dd i - x.2.length
  | [], _, _, _, h => by cases h
  | y :: r, n, 0, x, h => by
    cases h
    exact ⟨rfl, by cases r <;> rfl⟩
  | y :: r, n, i + 1, x, h => cutD_get r (n - y.2.length) i x h
theorem cutD_len : ∀ (dd : List (Int × List Int)) (n : Nat), (cutD n dd).length = dd.length
  | [], _ => rfl
  | y :: r, n => by rw [cutD, List.length_cons, List.length_cons, cutD_len r]
theorem sub_tail : ∀ {xs ys : List Value} {n m : Nat}, xs.length = n → ys.length = m → subE (xs ++ ys) n m = some ys
  | [], ys, n, m, h, h2 => by simp at h; subst h; exact subE_all h2
  | x :: xs, ys, n, m, h, h2 => by
    cases n with
    | zero => simp at h
    | succ n =>
      have := sub_tail (xs := xs) (ys := ys) (n := n) (m := m) (by simpa using h) h2
      cases m with
      | zero =>
        have : ys = [] := List.eq_nil_of_length_eq_zero h2
        subst this
        rfl
      | succ k => exact this
section
variable {X : Cx} {σ : Env} {L : Lst} {ty t : TypeId} {pos : String} {af : Array Edge} {x y : Operand} {r : TRow} {xs ys : List Value} {ks : List TK}
end
theorem dgx {vs p8 : List Int} (hv : vs.length = 4) (hp : p8.length = 8) : ∃ a b c d e f g h i j k l, vs = [a, b, c, d] ∧ p8 = [e, f, g, h, i, j, k, l] := by
  match vs, hv, p8, hp with
  | [a, b, c, d], _, [e, f, g, h, i, j, k, l], _ => exact ⟨a, b, c, d, e, f, g, h, i, j, k, l, rfl, rfl⟩
/-- A digest of which the first so many numbers are there. -/
def dgQ (vs ps : List Int) : List Value := iis (vs ++ List.replicate (4 - vs.length) 0) ++ u8s (ps ++ List.replicate (8 - ps.length) 0)
theorem dgQ0 : dgQ [] [] = dgV [0, 0, 0, 0] [0, 0, 0, 0, 0, 0, 0, 0] := rfl
theorem dgQ_all {vs ps : List Int} (hv : vs.length = 4) (hp : ps.length = 8) : dgQ vs ps = dgV vs ps := by simp [dgQ, dgV, hv, hp]
theorem dgQ_v {vs ps : List Int} {i : Nat} (hv : vs.length = i) (hi : i < 4) (x : Int) : setE (dgQ vs ps) (0 + i * 1) [.int .i64 x] = some (dgQ (vs ++ [x]) ps) := by
  have e : ∀ z : Int, dgQ (vs ++ [z]) ps = iis vs ++ ([.int .i64 z] ++ (iis (List.replicate (3 - i) 0) ++ u8s (ps ++ List.replicate (8 - ps.length) 0))) := fun z => by
    simp only [dgQ, List.length_append, List.length_singleton, hv, iis_app, show 4 - (i + 1) = 3 - i by omega]
    simp [iis]
  have e0 : dgQ vs ps = dgQ (vs ++ [0]) ps := by
    simp only [dgQ, List.length_append, List.length_singleton, hv, show 4 - i = (3 - i) + 1 by omega, show 4 - (i + 1) = 3 - i by omega, List.replicate_succ]
    simp
  have hl : (iis vs).length = 0 + i * 1 := by rw [iis_len, hv]; omega
  rw [e0, e 0, e x, ← hl, setE_mid _ (by simp)]
  simp
theorem dgQ_p {vs ps : List Int} {i : Nat} (hv : vs.length = 4) (hp : ps.length = i) (hi : i < 8) (x : Int) : setE (dgQ vs ps) (4 + i * 1) [.int .u8 x] = some (dgQ vs (ps ++ [x])) := by
  have e : ∀ z : Int, dgQ vs (ps ++ [z]) = (iis vs ++ u8s ps) ++ ([.int .u8 z] ++ u8s (List.replicate (7 - i) 0)) := fun z => by
    simp only [dgQ, List.length_append, List.length_singleton, hp, hv, show 8 - (i + 1) = 7 - i by omega]
    simp [iis, u8s]
  have e0 : dgQ vs ps = dgQ vs (ps ++ [0]) := by
    simp only [dgQ, List.length_append, List.length_singleton, hp, show 8 - i = (7 - i) + 1 by omega, show 8 - (i + 1) = 7 - i by omega, List.replicate_succ]
    simp
  have hl : (iis vs ++ u8s ps).length = 4 + i * 1 := by rw [List.length_append, iis_len, u8s_len, hv, hp]; omega
  rw [e0, e 0, e x, ← hl, setE_mid _ (by simp)]
  simp
/-- A digest's bytes. -/
def encG (vs p8 : List Int) : List Int := numsI 1 vs ++ p8
theorem encG_len {vs p8 : List Int} (hv : vs.length = 4) (hp : p8.length = 8) : (encG vs p8).length = 16 := by rw [encG, List.length_append, nums1_len, hv, hp]
theorem vr_fits {vs : List Int} (h : VR vs) : ∀ x ∈ vs, Fits 1 x := fun x hx => by have := h x hx; exact ⟨this.1, .inr (.inl ⟨rfl, by omega⟩)⟩
theorem by_fits {ps : List Int} (h : Byt ps) : ∀ x ∈ ps, Fits 0 x := fun x hx => by have := h x hx; exact ⟨by omega, .inl ⟨rfl, by omega⟩⟩
theorem num0 {x : Int} (h0 : 0 ≤ x) (h1 : x ≤ 255) : numI 0 x = [x] := by show [x % 256] = [x]; congr 1; omega
theorem dbytes9_ok (vs p8 : List Int) (hv : vs.length = 4) (hp : p8.length = 8) (hV : VR vs) (hb : Byt p8) (w : World) :
    CallM Tryz.prog 78 [.agg ⟨dgV vs p8⟩] [] w fun v L => ∃ ov, OvOk 1 ov (encG vs p8).length (u8s (encG vs p8)) ∧ v = .tuple #[slV ov (encG vs p8).length, .int .i64 0] ∧ L = blkL 5 ov (u8s (encG vs p8)) := by
  have hr := vright_ok vs hv
  rw [decide_eq_true hV] at hr
  have hs4 : subE (dgV vs p8) 0 4 = some (iis vs) := subE_app _ _ (by rw [iis_len, hv])
  have hs8 : subE (dgV vs p8) 4 8 = some (u8s p8) := sub_tail (by rw [iis_len, hv]) (by rw [u8s_len, hp])
  have hn1 := fun bw p w1 h1 h2 => numbers_ok bw none [] (OvOk.start 1) 1 p 4 4 vs hv.symm (vr_fits hV) (by rw [hv]; decide) w1 h1 h2
  have hdr : dgV vs p8 = fl iV vs ++ u8s p8 := by rw [fl_i]; rfl
  refine enterK (tb := tb) Tryz.func78 rfl Tryz.ntmps78 rfl ?_
  repeat' (first | (apply R.is1; first | (apply R.isCall; first | apply R.callP rfl rfl rfl hr | (apply R.callE (Li := WL _ none []) (vs := [.pointer (some ⟨_, 0, none⟩), .int .i64 1, .slice (some ⟨_, 0, none⟩) 4 4]); (iterate 3 exact rfl); (focus ((repeat' (exact Ext.one _ _)); done)); intro w1 hw1; exact hn1 _ _ w1 (RdSl.of hw1 (by (focus (repeat' first | exact At.head | apply At.tail); done)) hdr) (fun _ => Off.of hw1 (by (focus ((repeat' (exact Ext.one _ _)); done))) (by exact At.head)); rintro v Lo ⟨ov1, rfl, hov1, rfl⟩)) | (apply R.pure; exact rfl; first | (apply Ok1.load; exact rfl; first | (apply Ld.ownk; exact rfl; exact rfl; (focus (repeat' first | exact At.head | apply At.tail | apply At.right); done); exact hs4) | (apply Ld.ownk; exact rfl; exact rfl; (focus (repeat' first | exact At.head | apply At.tail | apply At.right); done); exact hs8)) | (apply Ok1.sliceArr; (iterate 4 exact rfl)) | (apply Ok1.move; exact rfl) | (apply Ok1.fieldAddr; (iterate 5 exact rfl)) | (apply Ok1.assign; exact rfl) | (apply Ok1.not_t; exact rfl)) | (apply R.box; (iterate 3 exact rfl); intro) | (apply R.alloc; (iterate 3 exact rfl); intro)) | apply R.nil | (apply T.is; first | apply T.seq | apply T.region | apply T.block | apply T.skip | (apply T.cond_f; exact rfl)))
  rename_i b1 bw
  rw [List.nil_append] at hov1
  rw [List.nil_append]
  apply T.loopK (α := Nat × Ov) (I := fun y => y.1 ≤ 8 ∧ OvOk 1 y.2 (numsI 1 vs ++ p8.take y.1).length (u8s (numsI 1 vs ++ p8.take y.1))) (σi := fun y => [(4, .pointer (some ⟨bw, 0, none⟩)), (15, .agg ⟨u8s p8⟩), (16, .int .i64 y.1)]) (Li := fun y => WL bw y.2 (numsI 1 vs ++ p8.take y.1)) (μ := fun y => 8 - y.1) (i0 := (0, ov1))
  · refine ⟨Nat.zero_le _, ?_⟩
    simp only [List.take_zero, List.append_nil]
    exact hov1
  · exact ⟨rfl, rfl, rfl, trivial⟩
  · simp only [List.take_zero, List.append_nil]
    (focus (repeat' first | exact Ext.one _ _ | exact Ext.here _ _ | apply Keep.cons | apply Keep.last); done)
  · rintro ⟨i, ov⟩ ⟨hi, hov⟩
    simp only at hi hov ⊢
    rcases Nat.lt_or_ge i 8 with hlt | hge
    · obtain ⟨x, hx⟩ : ∃ x, p8[i]? = some x := ⟨_, List.getElem?_eq_getElem (by omega)⟩
      have hxf := by_fits hb x (List.mem_of_getElem? hx)
      have hxb := hb x (List.mem_of_getElem? hx)
      have hpc : (u8s p8)[i * 1]? = some (.int .u8 x) := by rw [Nat.mul_one, u8s, List.getElem?_map, hx]; rfl
      have hnl := nums1_len vs
      have htl : (p8.take i).length = i := by rw [List.length_take]; omega
      have hn := fun bl fz e w1 => number1_ok bw ov (numsI 1 vs ++ p8.take i) hov 0 x hxf (by rw [List.length_append]; omega) bl fz e w1
      have htk : numsI 1 vs ++ p8.take (i + 1) = numsI 1 vs ++ p8.take i ++ numI 0 x := by rw [List.take_add_one, hx, num0 (by omega) (by omega), List.append_assoc]; rfl
      unfold WRes at hn
      rw [← htk] at hn
      repeat' (first | (apply R.is1; first | (apply R.isBin; (apply R.pure; exact rfl; first | (apply Ok1.add64; exact rfl; exact rfl; omega; omega) | (apply Ok1.lss_t; exact rfl; exact rfl; omega))) | (apply R.isCall; (apply R.callE (Li := WL bw ov (numsI 1 vs ++ p8.take i)) (vs := [.pointer (some ⟨bw, 0, none⟩), .int .i64 0, .slice (some ⟨_, 0, none⟩) 1 1]); (iterate 3 exact rfl); (focus (repeat' first | exact Ext.all _ | apply Ext.cons); done); intro w1 hw1; exact hn _ _ _ w1 (hw1.get _ _ (At.mem (by exact At.head))) (RdSl.off hw1 (by (focus (repeat' first | exact Ext.all _ | apply Ext.cons); done)) (At.mem (by exact At.head))); rintro v Lo ⟨ov2, rfl, hov2, rfl⟩)) | (apply R.pure; exact rfl; first | (apply Ok1.index1; (iterate 6 exact rfl); omega; omega; exact hpc) | (apply Ok1.move; exact rfl) | (apply Ok1.assign; exact rfl) | (apply Ok1.convI64; (iterate 5 exact rfl); omega; omega)) | (apply R.buildSlice; (iterate 12 exact rfl); intro)) | apply R.nil | (apply T.is; first | apply T.seq | apply T.region | apply T.block | apply T.skip | (apply T.cond_t; exact rfl)))
      exact ⟨(i + 1, ov2), ⟨by simp only; omega, hov2⟩, by simp only; omega, ⟨rfl, rfl, rfl, trivial⟩, by (focus (repeat' first | exact Ext.one _ _ | exact Ext.here _ _ | apply Keep.cons | apply Keep.last); done)⟩
    · have hi8 : i = 8 := by omega
      subst hi8
      rw [show p8.take 8 = p8 from List.take_of_length_le (by omega)] at hov ⊢
      have hle := encG_len hv hp
      unfold encG at hle ⊢
      have hwo := fun w1 h1 h2 => wout_ok bw ov (numsI 1 vs ++ p8) hov (by omega) w1 h1 h2
      generalize numsI 1 vs ++ p8 = B at *
      simp only [WL]
      repeat' (first | (apply R.is1; first | (apply R.isBin; (apply R.pure; exact rfl; (apply Ok1.lss_f; exact rfl; exact rfl; omega))) | (apply R.isCall; (apply R.callE (vs := [.pointer (some ⟨bw, 0, none⟩)]); (iterate 3 exact rfl); exact Ext.none _; intro w1 hw1; exact hwo w1 (hw1.get _ _ (At.mem (by exact At.head))) (rdown hov hw1 (Ext.mem (by (focus (repeat' first | exact Ext.all _ | apply Ext.cons); done)))); rintro v Lo ⟨ov2, hov2, rfl, rfl⟩)) | (apply R.pure; exact rfl; first | (apply Ok1.assign; exact rfl) | (apply Ok1.extract; exact rfl; exact rfl))) | apply R.nil | (apply T.is; first | apply T.seq | apply T.region | apply T.exit | apply T.ret | (apply T.cond_f; exact rfl)))
      (apply RetOk.tt; exact rfl; exact rfl)
      exact ⟨_, by (focus (repeat' first | exact Ext.here _ _ | apply Keep.last); done), ov2, hov2, rfl, rfl⟩
theorem Rs.ok.fail {s : Rs} {br : Nat} {w : World} (h : s.ok br w) (e : Int) : (s.fail e).ok br w := by
  unfold Rs.fail
  split
  · exact ⟨.inl rfl, Nat.le_refl _, (fun h => absurd rfl h), (fun y hy => by cases hy), Nat.zero_le _⟩
  · exact h
theorem Rs.ok.drop {s : Rs} {br : Nat} {w : World} (h : s.ok br w) {k : Nat} (hk : k ≤ s.xs.length) : (s.drop k).ok br w := by
  refine ⟨h.rd.suf u8V_len hk h.cap, ?_, fun hne => ?_, fun y hy => h.byt y (List.mem_of_mem_drop hy), ?_⟩
  · have := h.cap; simp only [Rs.drop, List.length_drop]; omega
  · exact (h.off (by intro h0; apply hne; simp [Rs.drop, h0])).suf _ _ _
  · have := h.big; simp only [Rs.drop, List.length_drop]; omega
theorem Rs.ok.num {s : Rs} {br : Nat} {w : World} (h : s.ok br w) (k : Nat) : (s.num k).2.2.ok br w := by
  unfold Rs.num
  split
  · exact h.fail 4
  · rename_i hn
    have hk : k ≤ s.xs.length := Nat.le_of_not_lt fun h1 => hn (.inr h1)
    split
    · exact h.drop hk
    · exact (h.drop hk).fail 3
theorem Rs.ok.chg {s : Rs} {br : Nat} {w w1 : World} (h : s.ok br w) {S : List Nat} (hc : Chg S w w1) (hS : S = [br]) : s.ok br w1 := ⟨h.rd.chg' hc (fun h9 => hS ▸ h.off h9), h.cap, h.off, h.byt, h.big⟩
def Rs.nx (s : Rs) (w : Nat) : Nat → Rs
  | 0 => s
  | k + 1 => ((s.nx w k).num w).2.2
def Rs.nv (s : Rs) (w k : Nat) : List Int := (List.range k).map fun j => ((s.nx w j).num w).1
theorem Rs.nv_snoc (s : Rs) (w k : Nat) : s.nv w (k + 1) = s.nv w k ++ [((s.nx w k).num w).1] := by simp [Rs.nv, List.range_succ]
theorem Rs.nv_len (s : Rs) (w k : Nat) : (s.nv w k).length = k := by simp [Rs.nv]
theorem Rs.ok.nx {s : Rs} {br : Nat} {w : World} (h : s.ok br w) (z k : Nat) : (s.nx z k).ok br w := by
  induction k with
  | zero => exact h
  | succ k ih => exact ih.num z
/-- A digest read: the digest, the error, what is left. -/
def Rs.rdF (s : Rs) : Rs := (s.nx 2 4).nx 1 8
def rdD (s : Rs) : List Int × List Int × Int := if s.rdF.e ≠ 0 then ([0, 0, 0, 0], [0, 0, 0, 0, 0, 0, 0, 0], s.rdF.e) else if VR (s.nv 2 4) then (s.nv 2 4, (s.nx 2 4).nv 1 8, 0) else ([0, 0, 0, 0], [0, 0, 0, 0, 0, 0, 0, 0], 3)
theorem rL_blk (s : Rs) (br : Nat) : blks (s.L br) = [br] := rfl
theorem Rs.num1_range (s : Rs) (hb : Byt s.xs) : 0 ≤ (s.num 1).1 ∧ (s.num 1).1 ≤ 255 := by
  unfold Rs.num
  split
  · exact ⟨Int.le_refl _, by simp⟩
  · rename_i hn
    have hl : (s.xs.take 1).length = 1 := by rw [List.length_take]; have := Nat.le_of_not_lt fun h => hn (.inr h); omega
    have hr := be_range 1 (s.xs.take 1) hl fun y hy => hb y (List.mem_of_mem_take hy)
    split
    · exact ⟨hr.1, by have := hr.2; omega⟩
    · exact ⟨Int.le_refl _, by simp⟩
theorem Ext.memI9 {L s L1 : Lst} {x : Nat × Obj} (hm : x ∈ s) (h : Ext L s L1) : x ∈ L := h.mem x hm
theorem read9_ok (br : Nat) (s : Rs) (w : World) (hs : s.ok br w) : CallM Tryz.prog 25 [.pointer (some ⟨br, 0, none⟩)] (s.L br) w fun v L => v = .tuple #[.agg ⟨dgV (rdD s).1 (rdD s).2.1⟩, .int .i64 (rdD s).2.2] ∧ L = s.rdF.L br := by
  refine enterK (tb := tb) Tryz.func25 rfl Tryz.ntmps25 rfl ?_
  repeat' (first | (apply R.is1; first | (apply R.pure; exact rfl; first | (apply Ok1.move; exact rfl) | (apply Ok1.assign; exact rfl)) | (apply R.alloc; (iterate 3 exact rfl); intro)) | apply R.nil | (apply T.is; first | apply T.seq | apply T.region | apply T.block))
  rename_i b2 b4
  apply T.loopK (α := Nat) (I := fun i => i ≤ 4) (σi := fun i => [(0, .pointer (some ⟨br, 0, none⟩)), (2, .pointer (some ⟨b2, 0, none⟩)), (4, .pointer (some ⟨b4, 0, none⟩)), (8, .int .i64 i)]) (Li := fun i => (b2, .cells ⟨dgV [0, 0, 0, 0] [0, 0, 0, 0, 0, 0, 0, 0]⟩ 70 (0, 0)) :: (b4, .cells ⟨dgQ (s.nv 2 i) []⟩ 70 (0, 0)) :: (s.nx 2 i).L br) (μ := fun i => 4 - i) (i0 := 0)
  · exact Nat.zero_le _
  · exact ⟨rfl, rfl, rfl, rfl, trivial⟩
  · show Keep _ ((b2, _) :: (b4, .cells ⟨dgQ [] []⟩ 70 (0, 0)) :: s.L br)
    rw [dgQ0]
    (focus (repeat' first | exact Keep.nil _ | exact Ext.one _ _ | apply Keep.cons | apply Ext.cons); done)
  · intro i hi
    rcases Nat.lt_or_ge i 4 with hlt | hge
    · have hn := fun w1 h1 => rnum_ok br (s.nx 2 i) 1 2 (by decide) u2 w1 h1
      have hok := hs.nx 2 i
      have hst := dgQ_v (ps := []) (s.nv_len 2 i) hlt ((s.nx 2 i).num 2).1
      rw [← Rs.nv_snoc] at hst
      have hnx : s.nx 2 (i + 1) = ((s.nx 2 i).num 2).2.2 := rfl
      have hbl := rL_blk (s.nx 2 i) br
      have hbl0 := rL_blk s br
      rw [← hnx] at hn
      generalize s.nx 2 i = r at *
      generalize hr' : s.nx 2 (i + 1) = r' at *
      generalize hL0 : r.L br = L0 at *
      generalize hL1 : r'.L br = L1 at *
      repeat' (first | (apply R.is1; first | (apply R.isBin; (apply R.pure; exact rfl; first | (apply Ok1.add64; exact rfl; exact rfl; omega; omega) | (apply Ok1.lss_t; exact rfl; exact rfl; omega))) | (apply R.isCall; (apply R.callE (Li := L0) (vs := [.pointer (some ⟨br, 0, none⟩), .int .i64 1]); (iterate 3 exact rfl); (focus (repeat' first | exact Ext.all _ | apply Ext.cons); done); intro w1 hw1; exact hn w1 (hok.chg hw1.chg hbl0); rintro v Lo ⟨rfl, hq⟩; rw [hq]; clear hq)) | (apply R.pure; exact rfl; first | (apply Ok1.move; exact rfl) | (apply Ok1.fieldAddr; (iterate 5 exact rfl)) | (apply Ok1.assign; exact rfl) | (apply Ok1.indexAddrA; (iterate 5 exact rfl); omega; omega))) | (apply R.is0; (apply R.store; (iterate 6 exact rfl); (focus (repeat' first | exact Upd.head | apply Upd.tail | apply Upd.right); done); exact hst)) | apply R.nil | (apply T.is; first | apply T.seq | apply T.region | apply T.block | apply T.skip | (apply T.cond_t; exact rfl)))
      exact ⟨i + 1, by omega, by omega, ⟨rfl, rfl, rfl, rfl, trivial⟩, by simp only [hr', hL1]; (focus (repeat' first | exact Ext.one _ _ | exact Ext.here _ _ | apply Keep.cons | apply Keep.last | apply Ext.app); done)⟩
    · have hi4 : i = 4 := by omega
      subst hi4
      have hvl := s.nv_len 2 4
      have hok4 := hs.nx 2 4
      have hbl0 := rL_blk s br
      have hV4 := vright_ok (s.nv 2 4) hvl
      have hF : s.rdF = (s.nx 2 4).nx 1 8 := rfl
      have hD : rdD s = if s.rdF.e ≠ 0 then ([0, 0, 0, 0], [0, 0, 0, 0, 0, 0, 0, 0], s.rdF.e) else if VR (s.nv 2 4) then (s.nv 2 4, (s.nx 2 4).nv 1 8, 0) else ([0, 0, 0, 0], [0, 0, 0, 0, 0, 0, 0, 0], 3) := rfl
      generalize s.nv 2 4 = vs at *
      generalize hs4 : s.nx 2 4 = s4 at *
      generalize hL0 : s4.L br = L4 at *
      repeat' (first | (apply R.is1; first | (apply R.isBin; (apply R.pure; exact rfl; (apply Ok1.lss_f; exact rfl; exact rfl; omega))) | (apply R.pure; exact rfl; (apply Ok1.move; exact rfl))) | apply R.nil | (apply T.is; first | apply T.seq | apply T.region | apply T.block | apply T.exit | (apply T.cond_f; exact rfl)))
      apply T.loopK (α := Nat) (I := fun i => i ≤ 8) (σi := fun i => [(0, .pointer (some ⟨br, 0, none⟩)), (2, .pointer (some ⟨b2, 0, none⟩)), (4, .pointer (some ⟨b4, 0, none⟩)), (17, .int .i64 i)]) (Li := fun i => (b2, .cells ⟨dgV [0, 0, 0, 0] [0, 0, 0, 0, 0, 0, 0, 0]⟩ 70 (0, 0)) :: (b4, .cells ⟨dgQ vs (s4.nv 1 i)⟩ 70 (0, 0)) :: (s4.nx 1 i).L br) (μ := fun i => 8 - i) (i0 := 0)
      · exact Nat.zero_le _
      · exact ⟨rfl, rfl, rfl, rfl, trivial⟩
      · show Keep _ ((b2, _) :: (b4, .cells ⟨dgQ vs []⟩ 70 (0, 0)) :: s4.L br)
        rw [hL0]
        (focus (repeat' first | exact Ext.one _ _ | exact Ext.all _ | apply Keep.cons | apply Keep.last); done)
      · intro i hi
        rcases Nat.lt_or_ge i 8 with hlt | hge
        · have hn := fun w1 h1 => rnum_ok br (s4.nx 1 i) 0 1 (by decide) rfl w1 h1
          have hok := hok4.nx 1 i
          have hnr := (s4.nx 1 i).num1_range hok.byt
          have hst := dgQ_p hvl (s4.nv_len 1 i) hlt ((s4.nx 1 i).num 1).1
          rw [← Rs.nv_snoc] at hst
          have hnx : s4.nx 1 (i + 1) = ((s4.nx 1 i).num 1).2.2 := rfl
          rw [← hnx] at hn
          generalize s4.nx 1 i = r at *
          generalize hr' : s4.nx 1 (i + 1) = r' at *
          generalize hL0 : r.L br = L0 at *
          generalize hL1 : r'.L br = L1 at *
          repeat' (first | (apply R.is1; first | (apply R.isBin; (apply R.pure; exact rfl; first | (apply Ok1.add64; exact rfl; exact rfl; omega; omega) | (apply Ok1.lss_t; exact rfl; exact rfl; omega))) | (apply R.isCall; (apply R.callE (Li := L0) (vs := [.pointer (some ⟨br, 0, none⟩), .int .i64 0]); (iterate 3 exact rfl); (focus (repeat' first | exact Ext.all _ | apply Ext.cons); done); intro w1 hw1; exact hn w1 (hok.chg hw1.chg hbl0); rintro v Lo ⟨rfl, hq⟩; rw [hq]; clear hq)) | (apply R.pure; exact rfl; first | (apply Ok1.move; exact rfl) | (apply Ok1.fieldAddr; (iterate 5 exact rfl)) | (apply Ok1.assign; exact rfl) | (apply Ok1.indexAddrA; (iterate 5 exact rfl); omega; omega) | (apply Ok1.convU8; (iterate 5 exact rfl); omega; omega))) | (apply R.is0; (apply R.store; (iterate 6 exact rfl); (focus (repeat' first | exact Upd.head | apply Upd.tail | apply Upd.right); done); exact hst)) | apply R.nil | (apply T.is; first | apply T.seq | apply T.region | apply T.block | apply T.skip | (apply T.cond_t; exact rfl)))
          exact ⟨i + 1, by omega, by omega, ⟨rfl, rfl, rfl, rfl, trivial⟩, by simp only [hr', hL1]; (focus (repeat' first | exact Ext.one _ _ | exact Ext.here _ _ | apply Keep.cons | apply Keep.last | apply Ext.app); done)⟩
        · have hi8 : i = 8 := by omega
          subst hi8
          have hpl := s4.nv_len 1 8
          have hre := fun w1 h => rerr_ok br (s4.nx 1 8) w1 h
          rw [dgQ_all hvl hpl]
          rw [← hF] at hre ⊢
          generalize hps : s4.nv 1 8 = ps at *
          have hdl := dg_len hvl hpl
          have hdo := dg_one vs ps
          have hs4' : subE (dgV vs ps) 0 4 = some (iis vs) := subE_app _ _ (by rw [iis_len, hvl])
          generalize s.rdF = F at *
          have hm3 : (br, Obj.cells ⟨[.slice F.q F.xs.length F.cap, .int .i64 F.e]⟩ 205 (0, 0)) ∈ F.L br := by simp [Rs.L]
          generalize hLF : F.L br = LF at *
          by_cases he : F.e = 0
          · rw [if_neg (fun h => h he)] at hD
            rw [he] at hre hm3
            by_cases hV : VR vs
            · rw [decide_eq_true hV] at hV4
              rw [if_pos hV] at hD
              rw [hD]
              generalize dgV vs ps = D at *
              repeat' (first | (apply R.is1; first | (apply R.isBin; (apply R.pure; exact rfl; first | (apply Ok1.lss_f; exact rfl; exact rfl; omega) | (apply Ok1.neq_f; exact rfl; exact rfl; omega))) | (apply R.isCall; first | apply R.callP rfl rfl rfl hV4 | (apply R.callV (vs := [.pointer (some ⟨br, 0, none⟩)]); (iterate 3 exact rfl); intro w1 hw1; (apply hre w1; apply hw1.get; apply Ext.memI9 hm3; (focus (repeat' first | exact Ext.all _ | apply Ext.cons); done)))) | (apply R.pure; exact rfl; first | (apply Ok1.load; exact rfl; first | (apply Ld.ownk; exact rfl; exact rfl; (focus (repeat' first | exact At.head | apply At.tail); done); exact subE_all hdl) | (apply Ld.ownk; exact rfl; exact rfl; (focus (repeat' first | exact At.head | apply At.tail); done); exact hs4')) | (apply Ok1.move; exact rfl) | (apply Ok1.fieldAddr; (iterate 5 exact rfl)) | (apply Ok1.assign; exact rfl) | (apply Ok1.not_t; exact rfl))) | (apply R.is0; (apply R.store; (iterate 4 exact rfl); exact hdl; exact hdo; exact Upd.head; exact setE_all (by rw [hdl]; rfl))) | apply R.nil | (apply T.is; first | apply T.seq | apply T.region | apply T.skip | apply T.exit | apply T.ret | (apply T.cond_f; exact rfl)))
              (apply RetOk.ct; exact rfl; (apply Ld.ownk; exact rfl; exact rfl; exact At.head; exact subE_all hdl); exact rfl)
              exact ⟨_, by (focus (repeat' first | exact Ext.all _ | apply Keep.last | apply Ext.cons); done), rfl, rfl⟩
            · rw [decide_eq_false hV] at hV4
              rw [if_neg hV] at hD
              rw [hD]
              generalize dgV vs ps = D at *
              repeat' (first | (apply R.is1; first | (apply R.isBin; (apply R.pure; exact rfl; first | (apply Ok1.lss_f; exact rfl; exact rfl; omega) | (apply Ok1.neq_f; exact rfl; exact rfl; omega))) | (apply R.isCall; first | apply R.callP rfl rfl rfl hV4 | (apply R.callV (vs := [.pointer (some ⟨br, 0, none⟩)]); (iterate 3 exact rfl); intro w1 hw1; (apply hre w1; apply hw1.get; apply Ext.memI9 hm3; (focus (repeat' first | exact Ext.all _ | apply Ext.cons); done)))) | (apply R.pure; exact rfl; first | (apply Ok1.load; exact rfl; (apply Ld.ownk; exact rfl; exact rfl; (focus (repeat' first | exact At.head | apply At.tail); done); exact hs4')) | (apply Ok1.move; exact rfl) | (apply Ok1.fieldAddr; (iterate 5 exact rfl)) | (apply Ok1.assign; exact rfl) | (apply Ok1.build; (iterate 5 exact rfl)) | (apply Ok1.not_f; exact rfl))) | (apply R.is0; (apply R.store; (iterate 6 exact rfl); exact Upd.head; exact rfl)) | apply R.nil | (apply T.is; first | apply T.seq | apply T.region | apply T.skip | apply T.exit | apply T.ret | (apply T.cond_t; exact rfl) | (apply T.cond_f; exact rfl)))
              (apply RetOk.ct; exact rfl; ((apply Ld.ownk; exact rfl; exact rfl; exact At.head; exact rfl)); exact rfl)
              exact ⟨_, by (focus (repeat' first | exact Ext.all _ | apply Keep.last | apply Ext.cons); done), rfl, rfl⟩
          · rw [if_pos he] at hD
            rw [hD]
            generalize dgV vs ps = D at *
            repeat' (first | (apply R.is1; first | (apply R.isBin; (apply R.pure; exact rfl; first | (apply Ok1.lss_f; exact rfl; exact rfl; omega) | (apply Ok1.neq_t; exact rfl; exact rfl; omega))) | (apply R.isCall; (apply R.callV (vs := [.pointer (some ⟨br, 0, none⟩)]); (iterate 3 exact rfl); intro w1 hw1; (apply hre w1; apply hw1.get; apply Ext.memI9 hm3; (focus (repeat' first | exact Ext.all _ | apply Ext.cons); done)))) | (apply R.pure; exact rfl; first | (apply Ok1.move; exact rfl) | (apply Ok1.assign; exact rfl) | (apply Ok1.build; (iterate 5 exact rfl)))) | (apply R.is0; (apply R.store; (iterate 6 exact rfl); exact Upd.head; exact rfl)) | apply R.nil | (apply T.is; first | apply T.seq | apply T.region | apply T.exit | apply T.ret | (apply T.cond_t; exact rfl) | (apply T.cond_f; exact rfl)))
            (apply RetOk.ct; exact rfl; ((apply Ld.ownk; exact rfl; exact rfl; exact At.head; exact rfl)); exact rfl)
            exact ⟨_, by (focus (repeat' first | exact Ext.all _ | apply Keep.last | apply Ext.cons); done), rfl, rfl⟩
theorem Rs.num2_is {s : Rs} {a b : Int} {r : List Int} (h : s.is (a :: b :: r) 0) (ha : 0 ≤ a ∧ a ≤ 255) (hb : 0 ≤ b ∧ b ≤ 255) : (s.num 2).1 = 256 * a + b ∧ (s.num 2).2.2.is r 0 := by
  obtain ⟨hx, he⟩ := h
  have e1 : s.xs.take 2 = [a, b] := by rw [hx]; rfl
  have e2 : beN [a, b] = 256 * a + b := by simp only [beN, List.foldl_cons, List.foldl_nil]; omega
  unfold Rs.num
  rw [if_neg, e1, e2, if_pos (by omega)]
  · exact ⟨rfl, by simp only [Rs.drop]; rw [hx]; rfl, he⟩
  · rw [hx]
    rintro (h | h)
    · exact h he
    · simp only [List.length_cons] at h; omega
theorem Rs.num1_is {s : Rs} {a : Int} {r : List Int} (h : s.is (a :: r) 0) (ha : 0 ≤ a ∧ a ≤ 255) : (s.num 1).1 = a ∧ (s.num 1).2.2.is r 0 := by
  obtain ⟨hx, he⟩ := h
  have e1 : s.xs.take 1 = [a] := by rw [hx]; rfl
  have e2 : beN [a] = a := by simp only [beN, List.foldl_cons, List.foldl_nil]; omega
  unfold Rs.num
  rw [if_neg, e1, e2, if_pos (by omega)]
  · exact ⟨rfl, by simp only [Rs.drop]; rw [hx]; rfl, he⟩
  · rw [hx]
    rintro (h | h)
    · exact h he
    · simp only [List.length_cons] at h; omega
def pairN (xs : List Int) (j : Nat) : Int := 256 * xs.getD (2 * j) 0 + xs.getD (2 * j + 1) 0
theorem Rs.nv2_is {s : Rs} {xs : List Int} (h : s.is xs 0) (hb : Byt xs) : ∀ k, 2 * k ≤ xs.length → (s.nx 2 k).is (xs.drop (2 * k)) 0 ∧ s.nv 2 k = (List.range k).map (pairN xs) := by
  intro k
  induction k with
  | zero => exact fun _ => ⟨h, rfl⟩
  | succ k ih =>
    intro hk
    obtain ⟨h1, h2⟩ := ih (by omega)
    have e1 : xs.drop (2 * k) = xs[2 * k] :: xs[2 * k + 1] :: xs.drop (2 * (k + 1)) := by
      rw [show 2 * (k + 1) = 2 * k + 1 + 1 by omega, List.drop_eq_getElem_cons (by omega), List.drop_eq_getElem_cons (by omega)]
    rw [e1] at h1
    obtain ⟨h3, h4⟩ := Rs.num2_is h1 (hb _ (List.getElem_mem _)) (hb _ (List.getElem_mem _))
    refine ⟨h4, ?_⟩
    rw [Rs.nv_snoc, h2, h3, List.range_succ, List.map_append]
    simp only [List.map_cons, List.map_nil, pairN, List.getD_eq_getElem?_getD]
    rw [List.getElem?_eq_getElem (by omega), List.getElem?_eq_getElem (by omega)]
    rfl
theorem Rs.nv1_is {s : Rs} {xs : List Int} (h : s.is xs 0) (hb : Byt xs) : ∀ k, k ≤ xs.length → (s.nx 1 k).is (xs.drop k) 0 ∧ s.nv 1 k = xs.take k := by
  intro k
  induction k with
  | zero => exact fun _ => ⟨h, rfl⟩
  | succ k ih =>
    intro hk
    obtain ⟨h1, h2⟩ := ih (by omega)
    have e1 : xs.drop k = xs[k] :: xs.drop (k + 1) := by rw [List.drop_eq_getElem_cons (by omega)]
    rw [e1] at h1
    obtain ⟨h3, h4⟩ := Rs.num1_is h1 (hb _ (List.getElem_mem _))
    refine ⟨h4, ?_⟩
    rw [Rs.nv_snoc, h2, h3, List.take_add_one, List.getElem?_eq_getElem (by omega)]
    rfl
theorem rd_long {s : Rs} {xs : List Int} (h : s.is xs 0) (hb : Byt xs) (hl : 16 ≤ xs.length) : s.rdF.is (xs.drop 16) 0 ∧ s.nv 2 4 = (List.range 4).map (pairN xs) ∧ (s.nx 2 4).nv 1 8 = (xs.drop 8).take 8 := by
  obtain ⟨h1, h2⟩ := Rs.nv2_is h hb 4 (by omega)
  obtain ⟨h3, h4⟩ := Rs.nv1_is (xs := xs.drop 8) h1 (fun y hy => hb y (List.mem_of_mem_drop hy)) 8 (by rw [List.length_drop]; omega)
  refine ⟨?_, h2, h4⟩
  rw [List.drop_drop] at h3
  exact h3
theorem enc_read {vs p8 : List Int} (hv : vs.length = 4) (hp : p8.length = 8) (hV : VR vs) (y : Int) : (List.range 4).map (pairN (encG vs p8 ++ [y])) = vs ∧ ((encG vs p8 ++ [y]).drop 8).take 8 = p8 ∧ (encG vs p8 ++ [y]).drop 16 = [y] := by
  obtain ⟨a, b, c, d, e, f, g, h, i, j, k, l, rfl, rfl⟩ := dgx hv hp
  have ha := hV a (by simp)
  have hb := hV b (by simp)
  have hc := hV c (by simp)
  have hd := hV d (by simp)
  have e0 : encG [a, b, c, d] [e, f, g, h, i, j, k, l] ++ [y] = [a / 256 % 256, a % 256, b / 256 % 256, b % 256, c / 256 % 256, c % 256, d / 256 % 256, d % 256, e, f, g, h, i, j, k, l, y] := rfl
  rw [e0]
  refine ⟨?_, rfl, rfl⟩
  have e1 : (List.range 4).map (pairN [a / 256 % 256, a % 256, b / 256 % 256, b % 256, c / 256 % 256, c % 256, d / 256 % 256, d % 256, e, f, g, h, i, j, k, l, y]) = [256 * (a / 256 % 256) + a % 256, 256 * (b / 256 % 256) + b % 256, 256 * (c / 256 % 256) + c % 256, 256 * (d / 256 % 256) + d % 256] := rfl
  rw [e1]
  simp only [List.cons.injEq, and_true]
  omega
theorem encG_byt {vs p8 : List Int} (h : Byt p8) : Byt (encG vs p8) := fun y hy => by
  rcases List.mem_append.1 hy with h1 | h1
  · exact nums_byt _ _ y h1
  · exact h y h1
end Go.Proofs.YtolnagbahceebaaGreat
set_option linter.unusedSimpArgs false
set_option linter.unusedVariables false
namespace Go.Proofs.YtolnagbahceebaaGreat
open Go.ChangeShapes Go.WideShapes Go.ChangeAt Go.RowKit
theorem ownJ : ownKnob Tryz.prog.godebug = none := by kernel_rfl
theorem laidJ : laidOutB Tryz.prog = true := by kernel_rfl
theorem and_tt {a b : Bool} (h1 : a = true) (h2 : b = true) : (a && b) = true := by rw [h1, h2]; rfl
theorem joined_of {P : Program} {f : FuncId} {fn : Func} {s : ChangeSpec} {c : OpenClaim} (k0 : (c.wf (OpenSpec.ofChange s)) = true) (k1 : (laidOutB P) = true) (k2 : (mapsRowed P) = true) (k3 : (fn.params.all (P.readableRec ·)) = true) (k4 : (namedTie P c.named s.vars) = true) (k5 : (c.stops == []) = true) (k6 : (P.stops == []) = true) (k7 : (c.knobs == []) = true) (k8 : (P.stopKnobs == []) = true) (k9 : (c.inPlace == P.inPlace f) = true) (k10 : (c.unfollowed == P.unfollowed f) = true) (k11 : (c.recurses == P.recurses f) = true) (k12 : (c.named == P.varsNamed f) = true) (k13 : (c.maps == (fn.params.toList ++ s.plain.varTypes P).any (P.mapsRec ·)) = true) (k14 : (c.ifaces == (fn.params.toList ++ s.plain.varTypes P).any (P.ifacesRec ·)) = true) (k15 : (c.mapsOut == P.mapsAmong fn.resultTypes.toList) = true) (k16 : (c.loops == (fn.params.toList ++ s.plain.varTypes P).any (P.loopsFrom ·)) = true) (k17 : (c.wideKeys == (fn.params.toList ++ s.plain.varTypes P ++ fn.resultTypes.toList).any (P.wideKeysFrom ·)) = true) (k18 : (s.vars.all (P.varReadable ·)) = true) (k19 : (fn.resultTypes.all (fun t => P.readableRec t && decide (t < P.types.size))) = true) (k20 : (c.ifacesOut == fn.resultTypes.toList.any (P.ifacesRec ·)) = true) (k21 : (c.loopsOut == fn.resultTypes.toList.any (P.loopsFrom ·)) = true) (k22 : (c.plainKeys == P.plainKeys) = true) (k23 : (c.shortTexts.isNone) = true) (k24 : (P.stopsHeard) = true) (k25 : (P.mayEnter) = true) (k26 : (c.lifted == P.liftsFinal) = true) (k27 : (P.make == some c.make) = true) (k28 : (c.kinds == (if c.domain.isEmpty then [] else fn.params.toList.map fun t => match P.underlying t with | some (.int k) => some k | _ => none)) = true) (k29 : (c.pinned == c.pinnedBy) = true) (k30 : (c.veiled == (fn.params.toList ++ s.plain.varTypes P ++ fn.resultTypes.toList).any (P.veiledRec ·)) = true) (k31 : (c.veiledFits P fn.params.toList (fn.params.toList ++ s.plain.varTypes P ++ fn.resultTypes.toList)) = true) : joinedFacts P f fn s c = true := by
  unfold joinedFacts
  exact and_tt (and_tt (and_tt (and_tt (and_tt (and_tt (and_tt (and_tt (and_tt (and_tt (and_tt (and_tt (and_tt (and_tt (and_tt (and_tt (and_tt (and_tt (and_tt (and_tt (and_tt (and_tt (and_tt (and_tt (and_tt (and_tt (and_tt (and_tt (and_tt (and_tt (and_tt (k0) k1) k2) k3) k4) k5) k6) k7) k8) k9) k10) k11) k12) k13) k14) k15) k16) k17) k18) k19) k20) k21) k22) k23) k24) k25) k26) k27) k28) k29) k30) k31
end Go.Proofs.YtolnagbahceebaaGreat
set_option linter.unusedSimpArgs false
set_option linter.unusedVariables false
namespace Go.Proofs.YtolnagbahceebaaGreat
open Go.RowKit Go.Shelf
set_option maxRecDepth 100000
theorem u64_rangeM (v : Int) : 0 ≤ IntKind.u64.wrap v ∧ IntKind.u64.wrap v ≤ 18446744073709551615 := by
  have : IntKind.u64.wrap v = v % 18446744073709551616 := by simp [IntKind.wrap, IntKind.bits, IntKind.signed]
  omega
end Go.Proofs.YtolnagbahceebaaGreat
set_option linter.unusedSimpArgs false
set_option linter.unusedVariables false
namespace Go.Proofs.YtolnagbahceebaaGreat
open Go.ChangeShapes Go.WideShapes Go.ChangeAt Go.RowKit
theorem int1_decJ {cs : List Value} (h : allW [.int .i64] cs) : ∃ a : Int, cs = [.int .i64 a] := by
  match cs, h with
  | [.int k1 a], h =>
    obtain ⟨⟨rfl, _⟩, _⟩ := h
    exact ⟨a, rfl⟩
section
variable {H : Type} {enc : TypeId × Value → H} {w : World} {base : Nat} {spare : Nat → Bool} {held : Bool}
theorem u8_opensJ : Opens enc Tryz.prog w base spare held 5 fun cs => ∃ x : Int, u8V x = cs ∧ (0 ≤ x ∧ x ≤ 255) :=
  (Opens.flat (ks := [.int .u8]) tb rfl rfl rfl).mono fun cs h => by
    match cs, h with
    | [.int k1 a], h =>
      obtain ⟨⟨rfl, h2⟩, _⟩ := h
      have e0 : IntKind.u8.min = 0 := rfl
      have e1 : IntKind.u8.max = 255 := rfl
      exact ⟨a, rfl, by omega⟩
end
end Go.Proofs.YtolnagbahceebaaGreat
set_option linter.unusedSimpArgs false
set_option linter.unusedVariables false
namespace Go.Proofs.YtolnagbahceebaaGreat
open Go.RowKit Go.Shelf
structure Ak where
  seed : Int
  tick : Int
  a : Int
  b : Int
  c : Int
  d : Int
  e : Int
  f : Int
  g : Int
  h : Int
def Ak.dr (x : Ak) : List Int := [x.a, x.b, x.c, x.d, x.e, x.f, x.g, x.h]
def Ak.v (x : Ak) : List Value := [.int .i64 x.seed, .int .i64 x.tick, .int .u8 x.a, .int .u8 x.b, .int .u8 x.c, .int .u8 x.d, .int .u8 x.e, .int .u8 x.f, .int .u8 x.g, .int .u8 x.h]
theorem Ak.v_len (x : Ak) : x.v.length = 10 := rfl
theorem Ak.v_one (x : Ak) : x.v.all Value.oneCell' = true := rfl
def Ak.op (x : Ak) (tick : Int) : Bool := decide (x.tick > tick - 64)
def Ak.is (seed tick : Int) (dr : List Int) (x : Ak) : Bool := decide (x.seed = seed) && x.op tick && decide (x.dr = dr)
def apos (al : List Ak) (seed tick : Int) (dr : List Int) : Nat := al.findIdx (Ak.is seed tick dr)
def ak (seed tick : Int) (dr : List Int) : Ak := ⟨seed, tick, dr.getD 0 0, dr.getD 1 0, dr.getD 2 0, dr.getD 3 0, dr.getD 4 0, dr.getD 5 0, dr.getD 6 0, dr.getD 7 0⟩
def Rgt (seed tick : Int) : Prop := 0 ≤ seed ∧ seed < 4 ∧ 0 ≤ tick ∧ tick ≤ 1073741824
instance (seed tick : Int) : Decidable (Rgt seed tick) := by unfold Rgt; infer_instance
def lensI (ls : List (List Int)) : List Int := ls.map fun x => (x.length : Int)
structure FM where
  ls : List (List Int)
  al : List Ak
  since : Int
  is : Bool
def opn (al : List Ak) (tick : Int) : List Ak := al.filter fun x => x.op tick
def FM.askE (m : FM) (seed tick : Int) (dr : List Int) : Int := if ¬ Rgt seed tick then 10 else if apos (opn m.al tick) seed tick dr < (opn m.al tick).length then 8 else if 8 ≤ (opn m.al tick).length then 6 else 0
def FM.ask (m : FM) (seed tick : Int) (dr : List Int) : FM :=
  if ¬ Rgt seed tick then m else if m.askE seed tick dr = 0 then { m with al := opn m.al tick ++ [ak seed tick dr] } else { m with al := opn m.al tick }
def FM.askB (m : FM) (seed tick : Int) (dr : List Int) : List Int := if m.askE seed tick dr = 0 then dr ++ numsI 1 (lensI m.ls) else []
def FM.takeE (m : FM) (seed tick : Int) (dr : List Int) (dd : List (Int × List Int)) : Int := if apos m.al seed tick dr < m.al.length then appX m.ls dd else 7
instance (us vs : List Int) : Decidable (Cov us vs) := by unfold Cov; infer_instance
def FM.takeY (m : FM) (seed tick : Int) (dr vs : List Int) (dd : List (Int × List Int)) : Bool := decide (m.takeE seed tick dr dd = 0) && decide (Cov (lensI (appL m.ls dd)) vs)
def FM.take (m : FM) (seed tick : Int) (dr vs : List Int) (dd : List (Int × List Int)) : FM :=
  if m.takeE seed tick dr dd = 0 then
    ⟨appL m.ls dd, m.al.eraseIdx (apos m.al seed tick dr), if Cov (lensI (appL m.ls dd)) vs then max m.since ((m.al[apos m.al seed tick dr]?.map Ak.tick).getD 0) else m.since, m.is || decide (Cov (lensI (appL m.ls dd)) vs)⟩
  else m
def Pre (fs ss : List (List Int)) : Prop := fs.length = ss.length ∧ ∀ (i : Nat) (f s : List Int), fs[i]? = some f → ss[i]? = some s → f <+: s
theorem Pre.refl (fs : List (List Int)) : Pre fs fs := ⟨rfl, fun i f s h1 h2 => by rw [h1] at h2; cases h2; exact List.prefix_refl _⟩
theorem Pre.trans {a b c : List (List Int)} (h1 : Pre a b) (h2 : Pre b c) : Pre a c := ⟨h1.1.trans h2.1, fun i f s hf hs => by
  obtain ⟨x, hx⟩ : ∃ x, b[i]? = some x := ⟨_, List.getElem?_eq_getElem (by have := (List.getElem?_eq_some_iff.1 hf).1; have := h1.1; omega)⟩
  exact (h1.2 i f x hf hx).trans (h2.2 i x s hx hs)⟩
theorem jall_pre {xs s : List Int} {k n : Nat} (h : xs <+: s) (hk : k ≤ xs.length) : jAll xs ((s.drop k).take n) k <+: s := by
  obtain ⟨t, rfl⟩ := h
  have hd : (xs ++ t).drop k = xs.drop k ++ t := List.drop_append_of_le_length hk
  unfold jAll both
  rw [hd, List.take_append]
  rw [List.length_append, List.length_take, List.length_take, List.length_drop]
  rcases Nat.lt_or_ge n (xs.length - k) with h1 | h1
  · rw [List.drop_of_length_le (by simp only [List.length_append, List.length_take, List.length_drop]; omega), List.append_nil]
    exact List.prefix_append _ _
  · rw [List.take_of_length_le (l := xs.drop k) (by rw [List.length_drop]; omega), List.drop_append]
    rw [List.drop_of_length_le (l := xs.drop k) (by rw [List.length_drop]; omega), List.nil_append, List.length_drop]
    rw [List.prefix_append_right_inj]
    rw [show min (xs.length - k) (min n (xs.length - k) + min (n - (xs.length - k)) t.length) - (xs.length - k) = 0 by omega, List.drop_zero]
    exact List.take_prefix _ _
theorem app_get {fs : List (List Int)} {dd : List (Int × List Int)} (h0 : appX fs dd = 0) {i : Nat} {f : List Int} {d : Int × List Int} (hf : fs[i]? = some f) (hd : dd[i]? = some d) :
    (appL fs dd)[i]? = some (jAll f d.2 d.1.toNat) ∧ d.1.toNat ≤ f.length := by
  have hz : (fs.zip dd)[i]? = some (f, d) := by rw [List.getElem?_zip_eq_some]; exact ⟨hf, hd⟩
  have hm := List.mem_of_getElem? hz
  unfold appX at h0
  split at h0
  · rename_i hDR
    have hE : appE (fs.zip dd) = 0 := h0
    unfold appE at h0
    split at h0
    · omega
    · rename_i h9
      split at h0
      · omega
      · rename_i h3
        split at h0
        · omega
        · rename_i h6
          have hj : JE (f, d) = 0 := by rcases je_cases (f, d) with h | h | h; exact h; exact absurd ⟨_, hm, h⟩ h3; exact absurd ⟨_, hm, h⟩ h6
          have hle : ¬ ((f.length : Int) < d.1) := fun h => h9 ⟨_, hm, h⟩
          refine ⟨?_, by omega⟩
          have hX : appX fs dd = 0 := by rw [appX, if_pos hDR, hE]
          rw [appL, if_pos hX, List.getElem?_map, hz, Option.map_some]
          congr 1
          show jL f d.2 d.1.toNat = _
          exact if_pos hj
  · omega
theorem app_len {fs : List (List Int)} {dd : List (Int × List Int)} (h : dd.length = fs.length) : (appL fs dd).length = fs.length := by
  unfold appL
  split
  · rw [List.length_map, List.length_zip]; omega
  · rfl
theorem pre_grow {fs : List (List Int)} {dd : List (Int × List Int)} (hl : dd.length = fs.length) (h0 : appX fs dd = 0) : Pre fs (appL fs dd) := by
  have hlen := app_len hl
  refine ⟨hlen.symm, fun i f g hf hg => ?_⟩
  have hi := (List.getElem?_eq_some_iff.1 hf).1
  obtain ⟨d, hdi⟩ : ∃ d, dd[i]? = some d := ⟨_, List.getElem?_eq_getElem (by omega)⟩
  rw [(app_get h0 hf hdi).1] at hg
  cases hg
  exact List.prefix_append _ _
theorem pre_app {fs ss : List (List Int)} {dd : List (Int × List Int)} (hp : Pre fs ss) (hl : dd.length = fs.length) (hd : ∀ (i : Nat) (d : Int × List Int) (s : List Int), dd[i]? = some d → ss[i]? = some s → ∃ n, d.2 = (s.drop d.1.toNat).take n) (h0 : appX fs dd = 0) : Pre (appL fs dd) ss := by
  have hlen := app_len hl
  refine ⟨hlen.trans hp.1, fun i g s hg hs => ?_⟩
  have hi : i < fs.length := by have := (List.getElem?_eq_some_iff.1 hg).1; omega
  obtain ⟨f, hf⟩ : ∃ f, fs[i]? = some f := ⟨_, List.getElem?_eq_getElem hi⟩
  obtain ⟨d, hdi⟩ : ∃ d, dd[i]? = some d := ⟨_, List.getElem?_eq_getElem (by omega)⟩
  obtain ⟨h1, h2⟩ := app_get h0 hf hdi
  rw [h1] at hg
  cases hg
  obtain ⟨n, hn⟩ := hd i d s hdi hs
  rw [hn]
  exact jall_pre (hp.2 i f s hf hs) h2
theorem cut_sin {ss : List (List Int)} {vs : List Int} (n : Nat) {i : Nat} {d : Int × List Int} {s : List Int} (hd : (cutD n (sinD ss vs))[i]? = some d) (hs : ss[i]? = some s) : ∃ n, d.2 = (s.drop d.1.toNat).take n := by
  have hi : i < (sinD ss vs).length := by have := (List.getElem?_eq_some_iff.1 hd).1; rwa [cutD_len] at this
  have hi2 : i < vs.length := by simp only [sinD, List.length_map, List.length_zip] at hi; omega
  obtain ⟨v, hv⟩ : ∃ v, vs[i]? = some v := ⟨_, List.getElem?_eq_getElem hi2⟩
  have h1 := sin_get hs hv
  obtain ⟨h2, _⟩ := cutD_get _ n i _ h1
  rw [h2] at hd
  cases hd
  exact ⟨_, rfl⟩
theorem pre_all {fs ss : List (List Int)} (hp : Pre fs ss) (hc : Cov (lensI fs) (lensI ss)) : fs = ss := by
  apply List.ext_getElem? 
  intro i
  rcases Nat.lt_or_ge i fs.length with hi | hi
  · have hi2 : i < ss.length := by have := hp.1; omega
    have hf := List.getElem?_eq_getElem hi
    have hs := List.getElem?_eq_getElem hi2
    have h1 := hp.2 i _ _ hf hs
    have h2 := hc ((fs[i].length : Int), (ss[i].length : Int)) (List.mem_of_getElem? (i := i) (by rw [List.getElem?_zip_eq_some]; exact ⟨by rw [lensI, List.getElem?_map, hf]; rfl, by rw [lensI, List.getElem?_map, hs]; rfl⟩))
    have h3 : ss[i].length ≤ fs[i].length := by simpa using h2
    rw [hf, hs, h1.eq_of_length_le h3]
  · rw [List.getElem?_eq_none hi, List.getElem?_eq_none (by have := hp.1; omega)]
theorem pre_rev {fs ss : List (List Int)} (hp : Pre fs ss) (seed : Int) (xs : List Int) : Pre fs (revL ss seed xs) := by
  unfold revL
  split
  · refine hp.trans ⟨by rw [List.length_set], fun i f s hf hs => ?_⟩
    rw [List.getElem?_set] at hs
    split at hs
    · rename_i h
      split at hs
      · cases hs
        rw [List.getD_eq_getElem?_getD, h, hf]
        exact List.prefix_append _ _
      · cases hs
    · rw [hf] at hs; cases hs; exact List.prefix_refl _
  · exact hp
theorem pre_mem {fs ss : List (List Int)} (hp : Pre fs ss) {x : Int} (h : ∃ l ∈ fs, x ∈ l) : ∃ l ∈ ss, x ∈ l := by
  obtain ⟨l, hl, hx⟩ := h
  obtain ⟨i, hi, rfl⟩ := List.getElem_of_mem hl
  have hi2 : i < ss.length := by have := hp.1; omega
  have := hp.2 i _ _ (List.getElem?_eq_getElem hi) (List.getElem?_eq_getElem hi2)
  exact ⟨_, List.getElem_mem hi2, this.subset hx⟩
structure HInv (tick : Int) (ss : List (List Int)) (m : FM) (had : List (List Int)) (when : List Int) : Prop where
  pre : Pre m.ls ss
  at_ : ∀ a ∈ m.al, a.tick ≤ tick
  si : m.since ≤ tick
  len : had.length = when.length
  old : ∀ h ∈ had, ∀ x ∈ h, ∃ l ∈ ss, x ∈ l
  is : m.is = true → ∀ (k : Nat) (h : List Int) (t : Int), had[k]? = some h → when[k]? = some t → t < m.since → ∀ x ∈ h, ∃ l ∈ m.ls, x ∈ l
theorem HInv.next {tick tick' : Int} {ss : List (List Int)} {m : FM} {had : List (List Int)} {when : List Int} (h : HInv tick ss m had when) (ht : tick ≤ tick') {hh : List Int} (hx : ∀ x ∈ hh, ∃ l ∈ ss, x ∈ l) : HInv tick' ss m (had ++ [hh]) (when ++ [tick']) := by
  have hsi := h.si
  refine ⟨h.pre, fun a ha => Int.le_trans (h.at_ a ha) ht, by omega, by simp [h.len], fun y hy => ?_, fun his k y t hk hw hlt => ?_⟩
  · rcases List.mem_append.1 hy with h1 | h1
    · exact h.old y h1
    · rw [List.mem_singleton.1 h1]; exact hx
  · rcases Nat.lt_or_ge k had.length with hlk | hge
    · rw [List.getElem?_append_left hlk] at hk
      rw [List.getElem?_append_left (by rw [← h.len]; exact hlk)] at hw
      exact h.is his k y t hk hw hlt
    · rw [List.getElem?_append_right (by rw [← h.len]; exact hge)] at hw
      have : t = tick' := by
        have := List.mem_of_getElem? hw
        simpa using this
      omega
theorem opn_mem {al : List Ak} {t : Int} {a : Ak} (h : a ∈ opn al t) : a ∈ al := (List.mem_filter.1 h).1
theorem HInv.ask {tick : Int} {ss : List (List Int)} {m : FM} {had : List (List Int)} {when : List Int} (h : HInv tick ss m had when) (seed : Int) (dr : List Int) : HInv tick ss (m.ask seed tick dr) had when := by
  unfold FM.ask
  split
  · exact h
  · split
    · refine ⟨h.pre, fun a ha => ?_, h.si, h.len, h.old, h.is⟩
      rcases List.mem_append.1 ha with h1 | h1
      · exact h.at_ a (opn_mem h1)
      · rw [List.mem_singleton.1 h1]; exact Int.le_refl _
    · exact ⟨h.pre, fun a ha => h.at_ a (opn_mem ha), h.si, h.len, h.old, h.is⟩
theorem HInv.take {tick : Int} {ss : List (List Int)} {m : FM} {had : List (List Int)} {when : List Int} (h : HInv tick ss m had when) (seed : Int) (dr : List Int) {dd : List (Int × List Int)} (hl : dd.length = m.ls.length)
    (hd : ∀ (i : Nat) (d : Int × List Int) (s : List Int), dd[i]? = some d → ss[i]? = some s → ∃ n, d.2 = (s.drop d.1.toNat).take n) : HInv tick ss (m.take seed tick dr (lensI ss) dd) had when := by
  unfold FM.take
  split
  · rename_i h0
    have hX : appX m.ls dd = 0 ∧ apos m.al seed tick dr < m.al.length := by
      unfold FM.takeE at h0
      split at h0
      · rename_i hlt; exact ⟨h0, hlt⟩
      · omega
    have hp := pre_app h.pre hl hd hX.1
    obtain ⟨a, ha⟩ : ∃ a, m.al[apos m.al seed tick dr]? = some a := ⟨_, List.getElem?_eq_getElem hX.2⟩
    have hat := h.at_ a (List.mem_of_getElem? ha)
    have hsi := h.si
    refine ⟨hp, fun x hx => h.at_ x ((List.eraseIdx_sublist _ _).subset hx), ?_, h.len, h.old, ?_⟩
    · rw [ha]
      simp only [Option.map_some, Option.getD_some]
      split <;> omega
    · intro his k y t hk hw hlt x hx
      by_cases hc : Cov (lensI (appL m.ls dd)) (lensI ss)
      · have := pre_all hp hc
        simp only at *
        rw [this]
        exact h.old y (List.mem_of_getElem? hk) x hx
      · simp only [if_neg hc, decide_eq_false hc, Bool.or_false] at his hlt
        have h1 := h.is his k y t hk hw hlt x hx
        exact pre_mem (pre_grow hl hX.1) h1
  · exact h
theorem HInv.rev {tick : Int} {ss : List (List Int)} {m : FM} {had : List (List Int)} {when : List Int} (h : HInv tick ss m had when) (seed : Int) (xs : List Int) : HInv tick (revL ss seed xs) m had when :=
  ⟨pre_rev h.pre seed xs, h.at_, h.si, h.len, fun y hy x hx => pre_mem (pre_rev (Pre.refl ss) seed xs) (h.old y hy x hx), h.is⟩
structure FAct where
  kind : Int
  seed : Int
  tick : Int
  room : Int
  a : Int
  b : Int
  c : Int
  d : Int
  e : Int
  f : Int
  g : Int
  h : Int
  p : Option Addr
  cap : Nat
  xs : List Int
instance : Inhabited FAct := ⟨⟨0, 0, 0, 0, 0, 0, 0, 0, 0, 0, 0, 0, none, 0, []⟩⟩
def FAct.dr (x : FAct) : List Int := [x.a, x.b, x.c, x.d, x.e, x.f, x.g, x.h]
def FAct.v (x : FAct) : List Value := [.int .i64 x.kind, .int .i64 x.seed, .int .i64 x.tick, .int .i64 x.room, .int .u8 x.a, .int .u8 x.b, .int .u8 x.c, .int .u8 x.d, .int .u8 x.e, .int .u8 x.f, .int .u8 x.g, .int .u8 x.h, .slice x.p x.xs.length x.cap]
theorem FAct.v_len (x : FAct) : x.v.length = 13 := rfl
structure FAct.okR (w : World) (x : FAct) : Prop where
  rd : RdSl w x.p u8V x.xs
  byt : Byt x.xs
  cap : x.xs.length ≤ x.cap
end Go.Proofs.YtolnagbahceebaaGreat
set_option linter.unusedSimpArgs false
set_option linter.unusedVariables false
namespace Go.Proofs.YtolnagbahceebaaGreat
open Go.ChangeShapes Go.WideShapes Go.ChangeAt Go.RowKit
theorem cut9f (cs : List Value) (a n m : Nat) (h : a + n = m) : (cs.drop a).take n ++ cs.drop m = cs.drop a := by
  have e := List.take_append_drop n (cs.drop a)
  rw [List.drop_drop, h] at e
  exact e
theorem u8n_decF (n : Nat) : ∀ cs, allW (List.replicate n (.int .u8)) cs → ∃ t : List Int, t.length = n ∧ u8s t = cs := by
  induction n with
  | zero =>
    intro cs h
    match cs, h with
    | [], _ => exact ⟨[], rfl, rfl⟩
  | succ n ih =>
    intro cs h
    rw [List.replicate_succ] at h
    match cs, h with
    | .int k1 a :: r, h =>
      obtain ⟨⟨rfl, _⟩, h2⟩ := h
      obtain ⟨t, h3, h4⟩ := ih r h2
      exact ⟨a :: t, by rw [List.length_cons, h3], by rw [← h4]; rfl⟩
section
variable {H : Type} {enc : TypeId × Value → H} {w : World} {base : Nat} {spare : Nat → Bool} {held : Bool}
theorem fa_opens : Opens enc Tryz.prog w base spare held 60 fun cs => ∃ x : FAct, x.v = cs ∧ x.okR w := by
  have hi : Opens enc Tryz.prog w base spare held 3 fun cs => ∃ a : Int, cs = [.int .i64 a] := (Opens.flat (ks := [.int .i64]) tb rfl rfl rfl).mono fun cs h => int1_decJ h
  have h0 := Opens.field (enc := enc) (w := w) (base := base) (spare := spare) (held := held) tb (t := 60) rfl rfl 0 rfl hi
  have h1 := Opens.field (enc := enc) (w := w) (base := base) (spare := spare) (held := held) tb (t := 60) rfl rfl 1 rfl hi
  have h2 := Opens.field (enc := enc) (w := w) (base := base) (spare := spare) (held := held) tb (t := 60) rfl rfl 2 rfl hi
  have h3 := Opens.field (enc := enc) (w := w) (base := base) (spare := spare) (held := held) tb (t := 60) rfl rfl 3 rfl hi
  have h4 := Opens.field (enc := enc) (w := w) (base := base) (spare := spare) (held := held) tb (t := 60) rfl rfl 4 rfl ((Opens.flat (ks := List.replicate 8 (.int .u8)) tb rfl rfl rfl).mono (u8n_decF 8))
  have h5 := Opens.field (enc := enc) (w := w) (base := base) (spare := spare) (held := held) tb (t := 60) rfl rfl 5 rfl (Opens.slice u8V (fun x => 0 ≤ x ∧ x ≤ 255) tb rfl rfl rfl rfl (fun _ => rfl) u8_opensJ)
  refine (((((h0.and h1).and h2).and h3).and h4).and h5).mono ?_
  rintro cs ⟨⟨⟨⟨⟨⟨hl, k, e0⟩, ⟨_, s, e1⟩⟩, ⟨_, t, e2⟩⟩, ⟨_, r, e3⟩⟩, ⟨_, z, hz, e4⟩⟩, ⟨_, p, xs, cap, e5, q1, q2, _, q4, _⟩⟩
  match z, hz with
  | [z0, z1, z2, z3, z4, z5, z6, z7], _ =>
  refine ⟨⟨k, s, t, r, z0, z1, z2, z3, z4, z5, z6, z7, p, cap, xs⟩, ?_, q1, q4, q2⟩
  replace hl : cs.length = 13 := hl
  have z5' : (cs.drop 12).take 1 = cs.drop 12 := List.take_of_length_le (by rw [List.length_drop, hl]; decide)
  have e6 : FAct.v ⟨k, s, t, r, z0, z1, z2, z3, z4, z5, z6, z7, p, cap, xs⟩ = [.int .i64 k] ++ ([.int .i64 s] ++ ([.int .i64 t] ++ ([.int .i64 r] ++ (u8s [z0, z1, z2, z3, z4, z5, z6, z7] ++ [.slice p xs.length cap])))) := rfl
  rw [e6, ← e0, ← e1, ← e2, ← e3, e4, ← e5, z5', cut9f cs 4 8 12 rfl, cut9f cs 3 1 4 rfl, cut9f cs 2 1 3 rfl, cut9f cs 1 1 2 rfl, cut9f cs 0 1 1 rfl]
  rfl
end
end Go.Proofs.YtolnagbahceebaaGreat
set_option linter.unusedSimpArgs false
set_option linter.unusedVariables false
namespace Go.Proofs.YtolnagbahceebaaGreat
open Go.RowKit Go.Shelf
section
variable {X : Cx} {σ : Env} {L L' : Lst} {ty : TypeId} {pos : String} {af : Array Edge} {x y : Operand} {t t2 e te : TypeId} {r r2 re : TRow} {b o n m j cap : Nat} {cs cs' : List Value} {all : Array Oper} {rest : List Oper} {K : Env → Lst → Prop} {dd : Nat}
theorem R.appendIn {e2 : Nat} {old news junk : List Value} {s2 : Value} (hn : Nat.blt dd X.n = true) (ht : X.tb.row t = some r) (hk : r.k = .slice e) (he : X.tb.row e = some re) (ht2 : X.tb.row t2 = some r2) (hk2 : r2.k = .slice e2)
    (hx : ev σ x = some (.slice (some ⟨b, 0, none⟩) n cap)) (hcp : n + j = cap) (hy : ev σ y = some s2) (hs2 : Builtin.lenOf s2 = Pure.pure m) (ho : old.length = n * re.size) (hj : junk.length = j * re.size)
    (hu : Upd L b (.cells ⟨old ++ junk⟩ te (0, 0)) (.cells ⟨old ++ news ++ junk.drop news.length⟩ te (0, 0)) L') (hh : ∀ w, Hp X.w0 X.S L w → Holds w s2 news) (hlen : news.length = m * re.size)
    (h1 : news.all Value.oneCell' = true) (hm : m ≤ j) (h : R X all rest K ((dd, .slice (some ⟨b, 0, none⟩) (n + m) cap) :: σ) L') :
    R X all (⟨some dd, .call { callee := .builtin .append, args := #[x, y], argTypes := #[t, t2] }, ty, pos, af, none⟩ :: rest) K σ L :=
  R.value rfl rfl hn fun a w ha hw => by
    subst hcp
    have hu1 : X.P.underlying t = some (.slice e) := by have := (X.tb.get ht).is; rw [hk] at this; exact this
    have hu2 : X.P.underlying t2 = some (.slice e2) := by have := (X.tb.get ht2).is; rw [hk2] at this; exact this
    have hset := setE_mid old (vs := news) (junk := junk) (by rw [hlen, hj]; exact Nat.mul_le_mul_right _ hm)
    have hb := hw.get _ _ hu.mem
    obtain ⟨w', g1, g2, g3⟩ := run_stores X.P ((⟨b, 0, none⟩ : Addr).add (n * re.size)) (by rw [Addr.add_none]) te news 0 w (old ++ junk) (old ++ news ++ junk.drop news.length) h1 (by rw [Addr.add_none]; exact hb) (by rw [Addr.add_none]; simpa [ho] using hset)
    rw [Addr.add_none] at g1 g2 g3
    have hf2 := first_run (P := X.P) (hh w hw) hlen
    refine ⟨.slice (some ⟨b, 0, none⟩) (n + m) (n + j), w', L', ?_, hw.upd hu g3 g2, h⟩
    have hrun : (Builtin.append_ #[t, t2] ty #[.slice (some ⟨b, 0, none⟩) n (n + j), s2]).run X.P w = .ok (.slice (some ⟨b, 0, none⟩) (n + m) (n + j)) w' := by
      unfold Builtin.append_
      simp only [List.getElem?_toArray, List.getElem?_cons_zero, List.getElem?_cons_succ, Sem.run_bind, run_underlying hu1, run_underlying hu2, Result.andThen_ok, (X.tb.get he).size, Sem.run_pure, Bool.false_eq_true, if_false, hs2, Bool.not_false, if_true,
        show n + m ≤ n + j by omega, Sem.run_ite, hf2, Addr.add_none, g1]
    simp [execOp, resolve, ha.ev hx, ha.ev hy, invoke, builtin, hrun]
theorem zc_gen {zero : Array Value} {zc : List Value} (hk : 0 < zc.length) (hz : zero = ⟨zc⟩) : ∀ n, (Builtin.zeroCells zero n).toList = (List.replicate n zc).flatten
  | 0 => by subst hz; simp [Builtin.zeroCells]
  | n + 1 => by
    have ih := zc_gen hk hz n
    subst hz
    simp only [Builtin.zeroCells, Array.toList_map, Array.toList_range] at ih ⊢
    rw [List.replicate_succ', List.flatten_append, ← ih, show (n + 1) * (⟨zc⟩ : Array Value).size = n * (⟨zc⟩ : Array Value).size + (⟨zc⟩ : Array Value).size by rw [Nat.add_mul, Nat.one_mul], List.range_add, List.map_append]
    congr 1
    simp only [List.map_map, List.flatten_cons, List.flatten_nil, List.append_nil]
    apply List.ext_getElem
    · simp
    · intro i h1 h2
      have hi : i < zc.length := h2
      have hm : (n * zc.length + i) % zc.length = i := by rw [Nat.add_comm, Nat.add_mul_mod_self_right, Nat.mod_eq_of_lt hi]
      simp [hm, hi]
theorem R.clearG {zc : List Value} (ht : X.tb.row t = some r) (hk : r.k = .slice e) (he : X.tb.row e = some re) (hz : cellsE re.zero = some zc) (hk0 : 0 < zc.length) (h10 : zc.all Value.oneCell' = true) (hx : ev σ x = some (.slice (some ⟨b, o, none⟩) n cap)) (hn : 0 < n)
    (hu : Upd L b (.cells ⟨cs⟩ te (0, 0)) (.cells ⟨cs'⟩ te (0, 0)) L') (hc : setE cs o (List.replicate n zc).flatten = some cs') (h : R X all rest K σ L') :
    R X all (⟨none, .call { callee := .builtin .clear, args := #[x], argTypes := #[t] }, ty, pos, af, none⟩ :: rest) K σ L :=
  R.value0 rfl rfl fun a w ha hw => by
    have hall : ((List.replicate n zc).flatten).all Value.oneCell' = true := by
      rw [List.all_eq_true] at h10 ⊢
      intro v hv
      obtain ⟨l, hl, hvl⟩ := List.mem_flatten.1 hv
      rw [(List.mem_replicate.1 hl).2] at hvl
      exact h10 v hvl
    obtain ⟨w', h2, h3, h4⟩ := run_stores X.P ⟨b, o, none⟩ rfl te (List.replicate n zc).flatten 0 w cs cs' hall (hw.get _ _ hu.mem) hc
    have hcs := cellsE_eq hz
    have hzc := zc_gen hk0 hcs n
    have hu1 : X.P.underlying t = some (.slice e) := by have := (X.tb.get ht).is; rw [hk] at this; exact this
    refine ⟨.tuple #[], w', L', ?_, hw.upd hu h4 h3, h⟩
    obtain ⟨n, rfl⟩ : ∃ m, n = m + 1 := ⟨n - 1, by omega⟩
    simp [execOp, resolve, ha.ev hx, invoke, builtin, Builtin.clear_, run_underlying hu1, (X.tb.get he).zero, hzc, h2]
theorem Ok1.sufB {d : Option Nat} {g : Option (Nat × Bool)} {lo : Operand} {i sz : Nat} (ht : X.tb.row t = some r) (hk : r.k = .slice e) (he : X.tb.row e = some re) (hsz : re.size = sz) (hx : ev σ x = some (.slice (some ⟨b, 0, none⟩) n cap)) (hl : ev σ lo = some (.int .i64 i)) (h1 : i ≤ n) (h2 : n ≤ cap) (h3 : i < cap) :
    Ok1 X ⟨d, .slice t x (some lo) none none, ty, pos, af, g⟩ σ L (.slice (some ⟨b, i * sz, none⟩) (n - i) (cap - i)) := .mk fun a w ha hw => by
  subst hsz
  rw [slice_run (l := (i : Int)) (h := (n : Int)) (m := (cap : Int)) X.tb ht hk he ha hx rfl rfl (by simp [bd, hl]) (by omega) (by omega) (by omega) (by omega) (.inl rfl)]
  simp only [Int.toNat_natCast, Option.map_some, Addr.add_none, Nat.zero_add, if_neg (show ¬ cap = i by omega)]
theorem Ok1.preB {d : Option Nat} {g : Option (Nat × Bool)} {hi : Operand} {i : Nat} (ht : X.tb.row t = some r) (hk : r.k = .slice e) (he : X.tb.row e = some re) (hx : ev σ x = some (.slice (some ⟨b, 0, none⟩) n cap)) (hl : ev σ hi = some (.int .i64 i)) (h2 : i ≤ cap) :
    Ok1 X ⟨d, .slice t x none (some hi) none, ty, pos, af, g⟩ σ L (.slice (some ⟨b, 0, none⟩) i cap) := .mk fun a w ha hw => by
  rw [slice_run (l := 0) (h := (i : Int)) (m := (cap : Int)) X.tb ht hk he ha hx rfl (by simp [bd, hl]) rfl (by omega) (by omega) (by omega) (by omega) (.inl rfl)]
  simp [Addr.add_none]
theorem Ok1.midB {d : Option Nat} {g : Option (Nat × Bool)} {lo hi : Operand} {i m sz : Nat} (ht : X.tb.row t = some r) (hk : r.k = .slice e) (he : X.tb.row e = some re) (hsz : re.size = sz) (hx : ev σ x = some (.slice (some ⟨b, 0, none⟩) n cap)) (hl : ev σ lo = some (.int .i64 i)) (hh : ev σ hi = some (.int .i64 m)) (h1 : i ≤ m) (h2 : m ≤ cap) (h3 : i < cap) :
    Ok1 X ⟨d, .slice t x (some lo) (some hi) none, ty, pos, af, g⟩ σ L (.slice (some ⟨b, i * sz, none⟩) (m - i) (cap - i)) := .mk fun a w ha hw => by
  subst hsz
  rw [slice_run (l := (i : Int)) (h := (m : Int)) (m := (cap : Int)) X.tb ht hk he ha hx rfl (by simp [bd, hh]) (by simp [bd, hl]) (by omega) (by omega) (by omega) (by omega) (.inl rfl)]
  simp only [Int.toNat_natCast, Option.map_some, Addr.add_none, Nat.zero_add, if_neg (show ¬ cap = i by omega)]
theorem Ok1.mid3B {d : Option Nat} {g : Option (Nat × Bool)} {lo hi mx : Operand} {i m q sz : Nat} (ht : X.tb.row t = some r) (hk : r.k = .slice e) (he : X.tb.row e = some re) (hsz : re.size = sz) (hx : ev σ x = some (.slice (some ⟨b, 0, none⟩) n cap)) (hl : ev σ lo = some (.int .i64 i)) (hh : ev σ hi = some (.int .i64 m)) (hm : ev σ mx = some (.int .i64 q)) (h1 : i ≤ m) (h2 : m ≤ q) (h4 : q ≤ cap) (h3 : i < q) :
    Ok1 X ⟨d, .slice t x (some lo) (some hi) (some mx), ty, pos, af, g⟩ σ L (.slice (some ⟨b, i * sz, none⟩) (m - i) (q - i)) := .mk fun a w ha hw => by
  subst hsz
  rw [slice_run (l := (i : Int)) (h := (m : Int)) (m := (q : Int)) X.tb ht hk he ha hx (by simp [bd, hm]) (by simp [bd, hh]) (by simp [bd, hl]) (by omega) (by omega) (by omega) (by omega) (.inr (by simp))]
  simp only [Int.toNat_natCast, Option.map_some, Addr.add_none, Nat.zero_add, if_neg (show ¬ q = i by omega)]
end
set_option maxRecDepth 100000
def posI (xs : List Ak) (pr : Ak → Bool) : Int := if xs.findIdx pr < xs.length then (xs.findIdx pr : Int) else -1
theorem posI_at {xs : List Ak} {pr : Ak → Bool} {i : Nat} {x : Ak} (h : ∀ y ∈ xs.take i, pr y = false) (hx : xs[i]? = some x) (hp : pr x = true) : posI xs pr = i := by
  obtain ⟨hi, rfl⟩ := List.getElem?_eq_some_iff.1 hx
  have : xs.findIdx pr = i := by
    rw [List.findIdx_eq hi]
    refine ⟨hp, fun j hj => ?_⟩
    exact h _ (List.mem_of_getElem? (i := j) (by rw [List.getElem?_take_of_lt hj, List.getElem?_eq_getElem (by omega)]))
  rw [posI, this, if_pos hi]
theorem posI_none {xs : List Ak} {pr : Ak → Bool} (h : ∀ y ∈ xs, pr y = false) : posI xs pr = -1 := by
  rw [posI, if_neg]
  rw [List.findIdx_lt_length]
  rintro ⟨y, hy, hp⟩
  rw [h y hy] at hp; cases hp
theorem aidx_ok (p : Option Addr) (cap : Nat) (xs : List Ak) (hbig : xs.length ≤ 1000000) (g : Nat) (hgc : tb.fns.contains g = true) (cb : List Value) (pr : Ak → Bool) (w : World) (hg : ∀ x w1, Chg [] w w1 → CallW Tryz.prog g ([.agg ⟨Ak.v x⟩] ++ cb) w1 fun v _ => v = .bool (pr x)) (hp : RdSl w p Ak.v xs) :
    CallW Tryz.prog 143 [.slice p xs.length cap, .func (.func g) #[] cb.toArray] w fun v _ => v = .int .i64 (posI xs pr) := by
  refine enterW (tb := tb) Tryz.func143 rfl Tryz.ntmps143 rfl ?_
  repeat' (first | (apply R.is1; first | (apply R.isCall; (apply R.pure; exact rfl; (apply Ok1.lenS; (iterate 3 exact rfl)))) | (apply R.pure; exact rfl; first | (apply Ok1.move; exact rfl) | (apply Ok1.assign; exact rfl))) | apply R.nil | (apply T.is; first | apply T.seq | apply T.region | apply T.block))
  apply T.loopK (α := Nat) (I := fun i => i ≤ xs.length ∧ ∀ x ∈ xs.take i, pr x = false) (σi := fun i => [(0, .slice p xs.length cap), (1, .func (.func g) #[] cb.toArray), (7, .int .i64 xs.length), (8, .int .i64 i)]) (Li := fun _ => []) (μ := fun i => xs.length - i) (i0 := 0)
  · exact ⟨Nat.zero_le _, by simp⟩
  · exact ⟨rfl, rfl, rfl, rfl, trivial⟩
  · (focus ((repeat' (exact Keep.nil _)); done))
  · intro i ⟨hi, hall⟩
    rcases Nat.lt_or_ge i xs.length with hlt | hge
    · obtain ⟨x, hx⟩ : ∃ x, xs[i]? = some x := ⟨_, List.getElem?_eq_getElem (by omega)⟩
      obtain ⟨bb, o, hpe, H⟩ := hp.at hx
      replace H := H 10 Ak.v_len
      have hgx := hg x
      cases hxi : pr x with
      | true =>
        simp only [hxi] at hgx
        repeat' (first | (apply R.is1; first | (apply R.isBin; (apply R.pure; exact rfl; (apply Ok1.lss_t; exact rfl; exact rfl; omega))) | (apply R.isCall; (apply R.callFV (fa := []) (cb := cb) (vs := [.agg ⟨x.v⟩]); exact rfl; exact hgc; exact rfl; exact rfl; intro w1 hw1; exact hgx w1 hw1.chg)) | (apply R.pure; exact rfl; first | (apply Ok1.indexAddrP; (iterate 4 exact rfl); exact hpe; exact rfl; omega; omega) | (apply Ok1.load; exact rfl; apply Ld.rowk0 H; exact rfl; exact List.not_mem_nil; (iterate 3 exact rfl)) | (apply Ok1.move; exact rfl) | (apply Ok1.assign; exact rfl))) | apply R.nil | (apply T.is; first | apply T.seq | apply T.region | apply T.block | apply T.skip | apply T.ret | (apply T.cond_t; exact rfl)))
        (apply RetOk.t; exact rfl)
        rw [posI_at hall hx hxi]
      | false =>
        simp only [hxi] at hgx
        repeat' (first | (apply R.is1; first | (apply R.isBin; (apply R.pure; exact rfl; first | (apply Ok1.add64; exact rfl; exact rfl; omega; omega) | (apply Ok1.lss_t; exact rfl; exact rfl; omega))) | (apply R.isCall; (apply R.callFV (fa := []) (cb := cb) (vs := [.agg ⟨x.v⟩]); exact rfl; exact hgc; exact rfl; exact rfl; intro w1 hw1; exact hgx w1 hw1.chg)) | (apply R.pure; exact rfl; first | (apply Ok1.indexAddrP; (iterate 4 exact rfl); exact hpe; exact rfl; omega; omega) | (apply Ok1.load; exact rfl; apply Ld.rowk0 H; exact rfl; exact List.not_mem_nil; (iterate 3 exact rfl)) | (apply Ok1.move; exact rfl) | (apply Ok1.assign; exact rfl))) | apply R.nil | (apply T.is; first | apply T.seq | apply T.region | apply T.block | apply T.skip | (apply T.cond_t; exact rfl) | (apply T.cond_f; exact rfl)))
        refine ⟨i + 1, ⟨by omega, ?_⟩, by omega, ⟨rfl, rfl, rfl, rfl, trivial⟩, by (focus ((repeat' (exact Keep.nil _)); done))⟩
        intro y hy
        rw [List.take_add_one, hx] at hy
        rcases List.mem_append.1 hy with h | h
        · exact hall y h
        · simp only [Option.toList, List.mem_singleton] at h
          rw [h]; exact hxi
    · have him : i = xs.length := by omega
      subst him
      rw [List.take_length] at hall
      repeat' (first | (apply R.is1; first | (apply R.isBin; (apply R.pure; exact rfl; (apply Ok1.lss_f; exact rfl; exact rfl; omega))) | (apply R.pure; exact rfl; (apply Ok1.assign; exact rfl))) | apply R.nil | (apply T.is; first | apply T.seq | apply T.region | apply T.exit | apply T.ret | (apply T.cond_f; exact rfl)))
      (apply RetOk.t; exact rfl)
      rw [posI_none hall]
def ak0 : Ak := ⟨0, 0, 0, 0, 0, 0, 0, 0, 0, 0⟩
theorem filt_none {xs : List Ak} {pr : Ak → Bool} (h : ¬ xs.findIdx pr < xs.length) : xs.filter (fun x => !pr x) = xs := by
  rw [List.filter_eq_self]
  intro x hx
  cases hp : pr x with
  | false => rfl
  | true => exact absurd (List.findIdx_lt_length.2 ⟨x, hx, hp⟩) h
theorem filt_pre {xs : List Ak} {pr : Ak → Bool} : (xs.take (xs.findIdx pr + 1)).filter (fun x => !pr x) = xs.take (xs.findIdx pr) := by
  rcases Nat.lt_or_ge (xs.findIdx pr) xs.length with h | h
  · rw [List.take_add_one, List.getElem?_eq_getElem h, List.filter_append]
    have h1 : (xs.take (xs.findIdx pr)).filter (fun x => !pr x) = xs.take (xs.findIdx pr) := by
      rw [List.filter_eq_self]
      intro x hx
      obtain ⟨i, hi, rfl⟩ := List.getElem_of_mem hx
      rw [List.getElem_take]
      rw [List.length_take] at hi
      have := List.not_of_lt_findIdx (p := pr) (xs := xs) (i := i) (by omega)
      simpa using this
    have h2 := List.findIdx_getElem (p := pr) (xs := xs) (w := h)
    rw [h1]
    simp [h2]
  · rw [List.take_of_length_le (by omega), List.take_of_length_le h]
    exact filt_none (by omega)
theorem adel_ok (ov : Ov) (xs : List Ak) (hov : OvOk 10 ov xs.length (fl Ak.v xs)) (hbig : xs.length ≤ 1000000) (g : Nat) (hgc : tb.fns.contains g = true) (cb : List Value) (pr : Ak → Bool) (w : World) (hg : ∀ x w1, Chg (blks (blkL 164 ov (fl Ak.v xs))) w w1 → CallW Tryz.prog g ([.agg ⟨Ak.v x⟩] ++ cb) w1 fun v _ => v = .bool (pr x)) :
    CallM Tryz.prog 66 [slV ov xs.length, .func (.func g) #[] cb.toArray] (blkL 164 ov (fl Ak.v xs)) w fun v L => ∃ ov', OvOk 10 ov' (xs.filter (fun x => !pr x)).length (fl Ak.v (xs.filter (fun x => !pr x))) ∧ v = slV ov' (xs.filter (fun x => !pr x)).length ∧ L = blkL 164 ov' (fl Ak.v (xs.filter (fun x => !pr x))) := by
  have hidx := fun w1 (hw1 : Hp w (blks (blkL 164 ov (fl Ak.v xs))) (blkL 164 ov (fl Ak.v xs)) w1) => aidx_ok (ovp ov) (ovc ov xs.length) xs hbig g hgc cb pr w1 (fun x w2 hc => hg x w2 (hw1.chg.trans (hc.mono (by simp)))) (RdSl.own' hw1 (fun _ h => h) hov Ak.v_len)
  rw [← slV_eq hov] at hidx
  by_cases hf : xs.findIdx pr < xs.length
  · have hpi : posI xs pr = ((xs.findIdx pr : Nat) : Int) := by rw [posI, if_pos hf]
    rw [hpi] at hidx
    have hpre := filt_pre (xs := xs) (pr := pr)
    generalize hi0 : xs.findIdx pr = i0 at *
    match ov, hov with
    | none, hov => exact absurd hov.2 (by omega)
    | some (b, j, junk), hov =>
    have hjl : junk.length = j * 10 := hov.2
    refine enterK (tb := tb) Tryz.func66 rfl Tryz.ntmps66 rfl ?_
    repeat' (first | (apply R.is1; first | (apply R.isBin; (apply R.pure; exact rfl; first | (apply Ok1.add64; exact rfl; exact rfl; omega; omega) | (apply Ok1.eql_f; exact rfl; exact rfl; omega))) | (apply R.isCall; (apply R.callV (vs := [slV (some (b, j, junk)) xs.length, .func (.func g) #[] cb.toArray]); (iterate 3 exact rfl); intro w1 hw1; exact hidx w1 hw1)) | (apply R.pure; exact rfl; first | (apply Ok1.move; exact rfl) | (apply Ok1.assign; exact rfl))) | apply R.nil | (apply T.is; first | apply T.seq | apply T.region | apply T.block | apply T.skip | (apply T.cond_f; exact rfl)))
    apply T.loopK (α := Nat × Nat × List Ak) (I := fun y => y.1 < y.2.1 ∧ y.2.1 ≤ xs.length ∧ y.2.2.length = xs.length ∧ y.2.2.take y.1 = (xs.take y.2.1).filter (fun x => !pr x) ∧ y.2.2.drop y.2.1 = xs.drop y.2.1)
      (σi := fun y => [(0, .slice (some ⟨b, 0, none⟩) xs.length (xs.length + j)), (1, .func (.func g) #[] cb.toArray), (5, .int .i64 y.1), (6, .int .i64 y.2.1)]) (Li := fun y => [(b, .cells ⟨fl Ak.v y.2.2 ++ junk⟩ 164 (0, 0))]) (μ := fun y => xs.length - y.2.1) (i0 := (i0, i0 + 1, xs))
    · exact ⟨by simp, by simp only; omega, rfl, hpre.symm, rfl⟩
    · exact ⟨rfl, rfl, rfl, rfl, trivial⟩
    · (focus (repeat' first | exact Keep.nil _ | exact Ext.one _ _ | apply Keep.cons); done)
    · rintro ⟨i, k, cur⟩ ⟨hik, hkn, hcl, htk, hdk⟩
      simp only at hik hkn hcl htk hdk ⊢
      rcases Nat.lt_or_ge k xs.length with hlt | hge
      · obtain ⟨x, hx⟩ : ∃ x, xs[k]? = some x := ⟨_, List.getElem?_eq_getElem (by omega)⟩
        have hxc : cur[k]? = some x := by
          have h1 : (cur.drop k)[0]? = (xs.drop k)[0]? := by rw [hdk]
          simpa [hx] using h1
        have hset := setE_row (v := Ak.v) Ak.v_len (l := cur) (i := i) (by omega) x junk
        have hd2 : cur.drop (k + 1) = xs.drop (k + 1) := by
          have := congrArg (List.drop 1) hdk
          simpa [List.drop_drop] using this
        have htk2 : (cur.set i x).take (i + 1) = cur.take i ++ [x] := by
          rw [List.take_add_one, List.take_set_of_le (Nat.le_refl _), List.getElem?_set_self (by omega)]
          rfl
        have hgx := fun w1 (hc : Chg [b] w w1) => hg x w1 hc
        cases hpx : pr x with
        | true =>
          simp only [hpx] at hgx
          have hft : (xs.take (k + 1)).filter (fun x => !pr x) = (xs.take k).filter (fun x => !pr x) := by
            rw [List.take_add_one, hx, List.filter_append]
            simp [hpx]
          repeat' (first | (apply R.is1; first | (apply R.isBin; (apply R.pure; exact rfl; first | (apply Ok1.add64; exact rfl; exact rfl; omega; omega) | (apply Ok1.lss_t; exact rfl; exact rfl; omega))) | (apply R.isCall; first | (apply R.callFV (fa := []) (cb := cb) (vs := [.agg ⟨x.v⟩]); exact rfl; exact hgc; exact rfl; exact rfl; intro w1 hw1; exact hgx w1 hw1.chg) | (apply R.pure; exact rfl; (apply Ok1.lenS; (iterate 3 exact rfl)))) | (apply R.pure; exact rfl; first | (apply Ok1.indexAddr; (iterate 5 exact rfl); omega; omega) | (apply Ok1.load; exact rfl; first | (apply Ld.ownrowk (f := 0); (focus (repeat' first | exact At.head | apply At.tail); done); exact Ak.v_len; exact hxc; (focus ((simp; done))); (iterate 3 exact rfl)) | (apply Ld.ownk; exact rfl; exact rfl; exact At.head; exact rfl)) | (apply Ok1.move; exact rfl) | (apply Ok1.assign; exact rfl) | (apply Ok1.not_t; exact rfl)) | (apply R.alloc; (iterate 3 exact rfl); intro)) | (apply R.is0; (apply R.store; (iterate 6 exact rfl); exact Upd.head; exact rfl)) | apply R.nil | (apply T.is; first | apply T.seq | apply T.region | apply T.block | apply T.skip | (apply T.cond_t; exact rfl) | (apply T.cond_f; exact rfl)))
          exact ⟨(i, k + 1, cur), ⟨by simp only; omega, by simp only; omega, hcl, by simp only; rw [hft]; exact htk, hd2⟩, by simp only; omega, ⟨rfl, rfl, rfl, rfl, trivial⟩, by (focus (repeat' first | exact Keep.nil _ | exact Ext.one _ _ | apply Keep.cons | apply Ext.cons); done)⟩
        | false =>
          simp only [hpx] at hgx
          have hft : (xs.take (k + 1)).filter (fun x => !pr x) = (xs.take k).filter (fun x => !pr x) ++ [x] := by
            rw [List.take_add_one, hx, List.filter_append]
            simp [hpx]
          repeat' (first | (apply R.is1; first | (apply R.isBin; (apply R.pure; exact rfl; first | (apply Ok1.add64; exact rfl; exact rfl; omega; omega) | (apply Ok1.lss_t; exact rfl; exact rfl; omega))) | (apply R.isCall; first | (apply R.callFV (fa := []) (cb := cb) (vs := [.agg ⟨x.v⟩]); exact rfl; exact hgc; exact rfl; exact rfl; intro w1 hw1; exact hgx w1 hw1.chg) | (apply R.pure; exact rfl; (apply Ok1.lenS; (iterate 3 exact rfl)))) | (apply R.pure; exact rfl; first | (apply Ok1.indexAddr; (iterate 5 exact rfl); omega; omega) | (apply Ok1.load; exact rfl; first | (apply Ld.ownrowk (f := 0); (focus (repeat' first | exact At.head | apply At.tail); done); exact Ak.v_len; exact hxc; (focus ((simp; done))); (iterate 3 exact rfl)) | (apply Ld.ownk; exact rfl; exact rfl; exact At.head; exact rfl)) | (apply Ok1.move; exact rfl) | (apply Ok1.assign; exact rfl) | (apply Ok1.not_f; exact rfl)) | (apply R.alloc; (iterate 3 exact rfl); intro)) | (apply R.is0; first | (apply R.store; (iterate 5 exact rfl); exact Ak.v_one x; (focus (repeat' first | exact Upd.head | apply Upd.tail); done); exact hset) | (apply R.store; (iterate 6 exact rfl); exact Upd.head; exact rfl)) | apply R.nil | (apply T.is; first | apply T.seq | apply T.region | apply T.block | apply T.skip | (apply T.cond_t; exact rfl)))
          exact ⟨(i + 1, k + 1, cur.set i x), ⟨by simp only; omega, by simp only; omega, by simp only; rw [List.length_set]; exact hcl, by simp only; rw [hft, htk2, htk], by simp only; rw [List.drop_set_of_lt (by omega)]; exact hd2⟩, by simp only; omega, ⟨rfl, rfl, rfl, rfl, trivial⟩, by (focus (repeat' first | exact Keep.nil _ | exact Ext.one _ _ | apply Keep.cons | apply Ext.cons); done)⟩
      · have hkn' : k = xs.length := by omega
        subst hkn'
        rw [List.take_length] at htk
        have hfl : (xs.filter fun x => !pr x).length = i := by rw [← htk, List.length_take]; omega
        have hflen : (fl Ak.v (cur.drop i)).length = (xs.length - i) * 10 := by rw [fl_len Ak.v_len, List.length_drop, hcl]
        have hcells : fl Ak.v cur ++ junk = fl Ak.v (cur.take i) ++ (fl Ak.v (cur.drop i) ++ junk) := by
          rw [← List.append_assoc, ← fl_app, List.take_append_drop]
        have hzl : (List.replicate (xs.length - i) (Ak.v ak0)).flatten.length = (xs.length - i) * 10 := by simp [Ak.v_len]
        have hclr : setE (fl Ak.v cur ++ junk) (i * 10) (List.replicate (xs.length - i) (Ak.v ak0)).flatten = some (fl Ak.v (cur.take i) ++ ((List.replicate (xs.length - i) (Ak.v ak0)).flatten ++ junk)) := by
          rw [hcells]
          have h1 := setE_mid (fl Ak.v (cur.take i)) (vs := (List.replicate (xs.length - i) (Ak.v ak0)).flatten) (junk := fl Ak.v (cur.drop i) ++ junk) (by rw [hzl, List.length_append, hflen]; omega)
          rw [show (fl Ak.v (cur.take i)).length = i * 10 by rw [fl_len Ak.v_len, List.length_take]; congr 1; omega] at h1
          rw [h1, hzl, ← hflen, List.drop_left, List.append_assoc]
        repeat' (first | (apply R.is1; first | (apply R.isBin; (apply R.pure; exact rfl; (apply Ok1.lss_f; exact rfl; exact rfl; omega))) | (apply R.isCall; (apply R.pure; exact rfl; (apply Ok1.lenS; (iterate 3 exact rfl)))) | (apply R.pure; exact rfl; first | (apply Ok1.sufB (sz := 10); (iterate 6 exact rfl); omega; omega; omega) | (apply Ok1.preB; (iterate 5 exact rfl); omega) | (apply Ok1.move; exact rfl) | (apply Ok1.assign; exact rfl))) | (apply R.is0; (apply R.clearG (zc := Ak.v ak0) (n := xs.length - i); (iterate 4 exact rfl); exact (by decide); exact rfl; exact rfl; omega; exact Upd.head; exact hclr)) | apply R.nil | (apply T.is; first | apply T.seq | apply T.region | apply T.exit | apply T.ret | (apply T.cond_f; exact rfl)))
        (apply RetOk.t; exact rfl)
        refine ⟨_, ?_, some (b, j + (xs.length - i), (List.replicate (xs.length - i) (Ak.v ak0)).flatten ++ junk), ⟨?_, ?_⟩, ?_, rfl⟩
        · rw [← htk]
          (focus (repeat' first | exact Keep.nil _ | exact Ext.one _ _ | apply Keep.cons); done)
        · rw [fl_len Ak.v_len]
        · show _ = _
          rw [List.length_append, hzl, hjl, Nat.add_mul]; omega
        · rw [hfl]
          show Value.slice _ _ _ = Value.slice _ _ _
          rw [show i + (j + (xs.length - i)) = xs.length + j by omega]
  · have hpi : posI xs pr = -1 := by rw [posI, if_neg hf]
    rw [hpi] at hidx
    rw [filt_none hf]
    have hbb : blks (blkL 164 ov (fl Ak.v xs)) = blks (blkL 164 ov (fl Ak.v xs)) := rfl
    refine enterK (tb := tb) Tryz.func66 rfl Tryz.ntmps66 rfl ?_
    repeat' (first | (apply R.is1; first | (apply R.isBin; (apply R.pure; exact rfl; (apply Ok1.eql_t; exact rfl; exact rfl; omega))) | (apply R.isCall; (apply R.callV (vs := [slV ov xs.length, .func (.func g) #[] cb.toArray]); (iterate 3 exact rfl); intro w1 hw1; exact hidx w1 hw1)) | (apply R.pure; exact rfl; first | (apply Ok1.move; exact rfl) | (apply Ok1.assign; exact rfl))) | apply R.nil | (apply T.is; first | apply T.seq | apply T.region | apply T.ret | (apply T.cond_t; exact rfl)))
    (apply RetOk.t; exact rfl)
    exact ⟨_, by (focus (repeat' first | exact Ext.all _ | apply Keep.last); done), ov, hov, rfl, rfl⟩
theorem RdSl.ofOffF {α : Type} {v : α → List Value} {rs : List α} {w0 w : World} {S : List Nat} {L : Lst} {b o : Nat} {e : TypeId} {fz : Nat × Nat} {cs pre junk : List Value} (hw : Hp w0 S L w) (hat : At L b (.cells ⟨cs⟩ e fz)) (hc : cs = pre ++ (fl v rs ++ junk)) (ho : pre.length = o) : RdSl w (some ⟨b, o, none⟩) v rs := by
  subst hc
  right
  refine ⟨b, o, rfl, fun k hk => ?_⟩
  have := hw.get b _ hat.mem
  simp only [World.cell?, this]
  subst ho
  show (Array.mk (pre ++ (fl v rs ++ junk)))[pre.length + k]? = _
  rw [List.getElem?_toArray, List.getElem?_append_right (by omega), Nat.add_sub_cancel_left, List.getElem?_append_left hk]
theorem beqs_ok (p1 p2 : Option Addr) (n1 n2 c1 c2 : Nat) (xs ys : List Int) (hn1 : n1 = xs.length) (hn2 : n2 = ys.length) (hbig : n1 ≤ 1000000000) (w : World) (h1 : RdSl w p1 u8V xs) (h2 : RdSl w p2 u8V ys) : CallW Tryz.prog 145 [.slice p1 n1 c1, .slice p2 n2 c2] w fun v _ => v = .bool (decide (xs = ys)) := by
  subst hn1 hn2
  refine enterW (tb := tb) Tryz.func145 rfl Tryz.ntmps145 rfl ?_
  by_cases hne : xs.length = ys.length
  · repeat' (first | (apply R.is1; first | (apply R.isBin; (apply R.pure; exact rfl; (apply Ok1.neq_f; exact rfl; exact rfl; omega))) | (apply R.isCall; (apply R.pure; exact rfl; (apply Ok1.lenS; (iterate 3 exact rfl)))) | (apply R.pure; exact rfl; first | (apply Ok1.move; exact rfl) | (apply Ok1.assign; exact rfl))) | apply R.nil | (apply T.is; first | apply T.seq | apply T.region | apply T.block | apply T.skip | (apply T.cond_f; exact rfl)))
    apply T.loopK (α := Nat) (I := fun i => i ≤ xs.length ∧ xs.take i = ys.take i) (σi := fun i => [(0, .slice p1 xs.length c1), (1, .slice p2 ys.length c2), (12, .int .i64 xs.length), (13, .int .i64 i)]) (Li := fun _ => []) (μ := fun i => xs.length - i) (i0 := 0)
    · exact ⟨Nat.zero_le _, rfl⟩
    · exact ⟨rfl, rfl, rfl, rfl, trivial⟩
    · (focus ((repeat' (exact Keep.nil _)); done))
    · intro i ⟨hi, htk⟩
      rcases Nat.lt_or_ge i xs.length with hlt | hge
      · obtain ⟨x, hx⟩ : ∃ x, xs[i]? = some x := ⟨_, List.getElem?_eq_getElem (by omega)⟩
        obtain ⟨y, hy⟩ : ∃ y, ys[i]? = some y := ⟨_, List.getElem?_eq_getElem (by omega)⟩
        obtain ⟨b1, o1, hpe1, H1⟩ := h1.at hx
        obtain ⟨b2, o2, hpe2, H2⟩ := h2.at hy
        replace H1 := H1 1 (fun _ => rfl)
        replace H2 := H2 1 (fun _ => rfl)
        by_cases hxy : x = y
        · repeat' (first | (apply R.is1; first | (apply R.isBin; (apply R.pure; exact rfl; first | (apply Ok1.add64; exact rfl; exact rfl; omega; omega) | (apply Ok1.lss_t; exact rfl; exact rfl; omega))) | (apply R.pure; exact rfl; first | (apply Ok1.move; exact rfl) | (apply Ok1.assign; exact rfl))) | apply R.nil | (apply T.is; first | (apply T.drawC (id := 6) [] (by decide); ((apply A.tk 0; exact rfl; kernel_rfl; (apply Ok1.move; exact rfl)) <;> (apply A.tk 1; exact rfl; kernel_rfl; (apply Ok1.move; exact rfl)) <;> (apply A.tk 2; exact rfl; kernel_rfl; (apply Ok1.indexAddrP; (iterate 4 exact rfl); (exact hpe1); exact rfl; omega; omega)) <;> (apply A.tk 3; exact rfl; kernel_rfl; (apply Ok1.load; exact rfl; (apply Ld.row0 H1; exact rfl; exact List.not_mem_nil; (iterate 3 exact rfl)))) <;> (apply A.tk 4; exact rfl; kernel_rfl; (apply Ok1.move; exact rfl)) <;> (apply A.tk 5; exact rfl; kernel_rfl; (apply Ok1.move; exact rfl)) <;> (apply A.tk 6; exact rfl; kernel_rfl; (apply Ok1.indexAddrP; (iterate 4 exact rfl); (exact hpe2); exact rfl; omega; omega)) <;> (apply A.tk 7; exact rfl; kernel_rfl; (apply Ok1.load; exact rfl; (apply Ld.row0 H2; exact rfl; exact List.not_mem_nil; (iterate 3 exact rfl)))) <;> ((apply A.tk 8; exact rfl; kernel_rfl; (apply Ok1.neq_f; exact rfl; exact rfl; omega))) <;> (apply A.done; kernel_rfl))) | apply T.seq | apply T.region | apply T.block | apply T.skip | (apply T.cond_t; exact rfl) | (apply T.cond_f; exact rfl)))
          refine ⟨i + 1, ⟨by omega, ?_⟩, by omega, ⟨rfl, rfl, rfl, rfl, trivial⟩, by (focus ((repeat' (exact Keep.nil _)); done))⟩
          rw [List.take_add_one, List.take_add_one, htk, hx, hy, hxy]
        · repeat' (first | (apply R.is1; first | (apply R.isBin; (apply R.pure; exact rfl; (apply Ok1.lss_t; exact rfl; exact rfl; omega))) | (apply R.pure; exact rfl; first | (apply Ok1.move; exact rfl) | (apply Ok1.assign; exact rfl))) | apply R.nil | (apply T.is; first | (apply T.drawC (id := 6) [] (by decide); ((apply A.tk 0; exact rfl; kernel_rfl; (apply Ok1.move; exact rfl)) <;> (apply A.tk 1; exact rfl; kernel_rfl; (apply Ok1.move; exact rfl)) <;> (apply A.tk 2; exact rfl; kernel_rfl; (apply Ok1.indexAddrP; (iterate 4 exact rfl); (exact hpe1); exact rfl; omega; omega)) <;> (apply A.tk 3; exact rfl; kernel_rfl; (apply Ok1.load; exact rfl; (apply Ld.row0 H1; exact rfl; exact List.not_mem_nil; (iterate 3 exact rfl)))) <;> (apply A.tk 4; exact rfl; kernel_rfl; (apply Ok1.move; exact rfl)) <;> (apply A.tk 5; exact rfl; kernel_rfl; (apply Ok1.move; exact rfl)) <;> (apply A.tk 6; exact rfl; kernel_rfl; (apply Ok1.indexAddrP; (iterate 4 exact rfl); (exact hpe2); exact rfl; omega; omega)) <;> (apply A.tk 7; exact rfl; kernel_rfl; (apply Ok1.load; exact rfl; (apply Ld.row0 H2; exact rfl; exact List.not_mem_nil; (iterate 3 exact rfl)))) <;> ((apply A.tk 8; exact rfl; kernel_rfl; (apply Ok1.neq_t; exact rfl; exact rfl; omega))) <;> (apply A.done; kernel_rfl))) | apply T.seq | apply T.region | apply T.block | apply T.skip | apply T.ret | (apply T.cond_t; exact rfl)))
          all_goals (apply RetOk.t; exact rfl)
          all_goals rw [decide_eq_false]
          intro e
          rw [e, hy] at hx
          cases hx
          exact hxy rfl
      · repeat' (first | (apply R.is1; first | (apply R.isBin; (apply R.pure; exact rfl; (apply Ok1.lss_f; exact rfl; exact rfl; omega))) | (apply R.pure; exact rfl; (apply Ok1.assign; exact rfl))) | apply R.nil | (apply T.is; first | apply T.seq | apply T.region | apply T.exit | apply T.ret | (apply T.cond_f; exact rfl)))
        (apply RetOk.t; exact rfl)
        rw [List.take_of_length_le hge, List.take_of_length_le (by omega)] at htk
        rw [decide_eq_true htk]
  · repeat' (first | (apply R.is1; first | (apply R.isBin; (apply R.pure; exact rfl; (apply Ok1.neq_t; exact rfl; exact rfl; omega))) | (apply R.isCall; (apply R.pure; exact rfl; (apply Ok1.lenS; (iterate 3 exact rfl)))) | (apply R.pure; exact rfl; first | (apply Ok1.move; exact rfl) | (apply Ok1.assign; exact rfl))) | apply R.nil | (apply T.is; first | apply T.seq | apply T.region | apply T.ret | (apply T.cond_t; exact rfl)))
    all_goals (apply RetOk.t; exact rfl)
    all_goals rw [decide_eq_false]
    exact fun e => hne (by rw [e])
theorem aopen_ok (x : Ak) (tick : Int) (h0 : 0 ≤ tick) (h1 : tick ≤ 1073741824) : CallP Tryz.prog 68 [.agg ⟨x.v⟩, .int .i64 tick] (.bool (x.op tick)) := by
  refine enterP (tb := tb) Tryz.func68 rfl Tryz.ntmps68 rfl fun w => ?_
  unfold Ak.op
  simp only [Ak.v]
  repeat' (first | (apply R.is1; first | (apply R.isBin; first | (apply R.pure; exact rfl; (apply Ok1.sub64; exact rfl; exact rfl; omega; omega)) | (apply R.gtr rfl rfl rfl <;> intro)) | (apply R.pure; exact rfl; first | (apply Ok1.move; exact rfl) | (apply Ok1.fieldAddr; (iterate 5 exact rfl)) | (apply Ok1.load; exact rfl; (apply Ld.own1; exact rfl; exact rfl; exact At.head; exact rfl)) | (apply Ok1.assign; exact rfl)) | (apply R.box; (iterate 3 exact rfl); intro)) | apply R.nil | (apply T.is; first | apply T.seq | apply T.region | apply T.ret))
  all_goals (apply RetOk.t; exact rfl)
  all_goals simp_all
theorem ask1_ok (b : Nat) (x : Ak) (tick : Int) (h0 : 0 ≤ tick) (h1 : tick ≤ 1073741824) (w : World) (hb : w.heap[b]? = some (.cells ⟨[.int .i64 tick]⟩ 3 (0, 0))) : CallW Tryz.prog 67 [.agg ⟨x.v⟩, .pointer (some ⟨b, 0, none⟩)] w fun v _ => v = .bool (!x.op tick) := by
  have h := aopen_ok x tick h0 h1
  have hl : x.v.length = 10 := rfl
  have ho := x.v_one
  cases hx : x.op tick <;> rw [hx] at h
  all_goals
    refine enterW (tb := tb) Tryz.func67 rfl Tryz.ntmps67 rfl ?_
    generalize x.v = xv at *
    repeat' (first | (apply R.is1; first | (apply R.box; (iterate 3 exact rfl); intro b9) | (apply R.isCall; apply R.callP rfl rfl rfl h) | (apply R.pure; exact rfl; first | (apply Ok1.load; exact rfl; first | (apply Ld.blk1; exact rfl; exact rfl; exact hb; exact List.not_mem_nil; exact rfl) | (apply Ld.ownk; exact rfl; exact rfl; exact At.head; exact subE_all hl)) | (apply Ok1.assign; exact rfl) | (apply Ok1.not_t; exact rfl) | (apply Ok1.not_f; exact rfl))) | apply R.nil | (apply T.is; first | apply T.seq | apply T.region | apply T.ret))
    (apply RetOk.t; exact rfl)
    rfl
theorem Ak.v_dr (x : Ak) : x.v = [.int .i64 x.seed, .int .i64 x.tick] ++ u8s x.dr := rfl
theorem find1_ok (b1 b2 b3 : Nat) (x : Ak) (seed tick : Int) (h0 : 0 ≤ tick) (h1 : tick ≤ 1073741824) (p : Option Addr) (cap : Nat) (ds : List Int) (w : World) (e1 : w.heap[b1]? = some (.cells ⟨[.int .i64 seed]⟩ 3 (0, 0))) (e2 : w.heap[b2]? = some (.cells ⟨[.int .i64 tick]⟩ 3 (0, 0))) (e3 : w.heap[b3]? = some (.cells ⟨[.slice p ds.length cap]⟩ 22 (0, 0))) (hd : RdSl w p u8V ds) :
    CallW Tryz.prog 144 [.agg ⟨x.v⟩, .pointer (some ⟨b1, 0, none⟩), .pointer (some ⟨b2, 0, none⟩), .pointer (some ⟨b3, 0, none⟩)] w fun v _ => v = .bool (Ak.is seed tick ds x) := by
  have h := aopen_ok x tick h0 h1
  have hq := fun q w1 h2 h3 => beqs_ok (some ⟨q, 2, none⟩) p 8 ds.length 8 cap x.dr ds rfl rfl (by decide) w1 h2 h3
  have hl : x.v.length = 10 := rfl
  have hfx : (x.v)[0]? = some (.int .i64 x.seed) := rfl
  have hvd := x.v_dr
  have hfl : x.v = [.int .i64 x.seed, .int .i64 x.tick] ++ (fl u8V x.dr ++ []) := by rw [List.append_nil]; rfl
  unfold Ak.is
  generalize x.v = xv at *
  generalize x.dr = xd at *
  refine enterW (tb := tb) Tryz.func144 rfl Tryz.ntmps144 rfl ?_
  by_cases c1 : x.seed = seed
  · rw [decide_eq_true c1]
    cases hx : x.op tick <;> rw [hx] at h
    · repeat' (first | (apply R.is1; first | (apply R.box; (iterate 3 exact rfl); intro b9) | (apply R.pure; exact rfl; (apply Ok1.assign; exact rfl))) | apply R.nil | (apply T.is; first | (apply T.drawC (id := 1) [0] (by decide); ((apply A.tk 0; exact rfl; kernel_rfl; (apply Ok1.fieldAddr; (iterate 5 exact rfl))) <;> (apply A.tk 1; exact rfl; kernel_rfl; (apply Ok1.load; exact rfl; (apply Ld.own1; exact rfl; exact rfl; exact At.head; exact hfx))) <;> (apply A.tk 2; exact rfl; kernel_rfl; (apply Ok1.load; exact rfl; (apply Ld.blk1; exact rfl; exact rfl; exact e1; exact List.not_mem_nil; exact rfl))) <;> ((apply A.tk 3; exact rfl; kernel_rfl; (apply Ok1.eql_t; exact rfl; exact rfl; omega))) <;> (apply A.tk 4; exact rfl; kernel_rfl; (apply Ok1.move; exact rfl)) <;> ((apply A.tkG 5; (iterate 3 exact rfl); kernel_rfl; (apply Ok1.load; exact rfl; (apply Ld.ownk; exact rfl; exact rfl; exact At.head; exact subE_all hl)))) <;> ((apply A.tkG 6; (iterate 3 exact rfl); kernel_rfl; (apply Ok1.load; exact rfl; (apply Ld.blk1; exact rfl; exact rfl; exact e2; exact List.not_mem_nil; exact rfl)))) <;> (apply A.one 7; kernel_rfl; exact rfl; (((apply R.isG; apply R.guard_run; exact rfl; exact rfl; (apply R.callP rfl rfl rfl h)))); apply R.nil; refine ⟨?_, ?_⟩; (focus ((repeat' (first | exact trivial | (refine ⟨?_, ?_⟩; exact At.head)))))) <;> (apply A.tk 8; exact rfl; kernel_rfl; (apply Ok1.pick_t; exact rfl; exact rfl)) <;> (apply A.tk 9; exact rfl; kernel_rfl; (apply Ok1.move; exact rfl)) <;> ((apply A.skG 10; (iterate 3 exact rfl); kernel_rfl)) <;> ((apply A.skG 11; (iterate 3 exact rfl); kernel_rfl)) <;> ((apply A.skG 12; (iterate 3 exact rfl); kernel_rfl)) <;> (apply A.one 13; kernel_rfl; exact rfl; (((apply R.isG; (apply R.guard_not; (iterate 3 exact rfl))))); apply R.nil; refine ⟨?_, ?_⟩; (focus ((repeat' (first | exact trivial | (refine ⟨?_, ?_⟩; exact At.head)))))) <;> (apply A.tk 14; exact rfl; kernel_rfl; (apply Ok1.pick_f; exact rfl; exact rfl)) <;> (apply A.tk 15; exact rfl; kernel_rfl; (apply Ok1.assign; exact rfl)) <;> (apply A.done; kernel_rfl))) | apply T.seq | apply T.region | apply T.ret))
      all_goals (apply RetOk.t; exact rfl)
      all_goals rfl
    · cases hdd : decide (xd = ds) <;> simp only [hdd] at hq
      all_goals
        repeat' (first | (apply R.is1; first | (apply R.box; (iterate 3 exact rfl); intro b9) | (apply R.pure; exact rfl; (apply Ok1.assign; exact rfl))) | apply R.nil | (apply T.is; first | (apply T.drawC (id := 1) [0] (by decide); ((apply A.tk 0; exact rfl; kernel_rfl; (apply Ok1.fieldAddr; (iterate 5 exact rfl))) <;> (apply A.tk 1; exact rfl; kernel_rfl; (apply Ok1.load; exact rfl; (apply Ld.own1; exact rfl; exact rfl; exact At.head; exact hfx))) <;> (apply A.tk 2; exact rfl; kernel_rfl; (apply Ok1.load; exact rfl; (apply Ld.blk1; exact rfl; exact rfl; exact e1; exact List.not_mem_nil; exact rfl))) <;> ((apply A.tk 3; exact rfl; kernel_rfl; (apply Ok1.eql_t; exact rfl; exact rfl; omega))) <;> (apply A.tk 4; exact rfl; kernel_rfl; (apply Ok1.move; exact rfl)) <;> ((apply A.tkG 5; (iterate 3 exact rfl); kernel_rfl; (apply Ok1.load; exact rfl; (apply Ld.ownk; exact rfl; exact rfl; exact At.head; exact subE_all hl)))) <;> ((apply A.tkG 6; (iterate 3 exact rfl); kernel_rfl; (apply Ok1.load; exact rfl; (apply Ld.blk1; exact rfl; exact rfl; exact e2; exact List.not_mem_nil; exact rfl)))) <;> (apply A.one 7; kernel_rfl; exact rfl; (((apply R.isG; apply R.guard_run; exact rfl; exact rfl; (apply R.callP rfl rfl rfl h)))); apply R.nil; refine ⟨?_, ?_⟩; (focus ((repeat' (first | exact trivial | (refine ⟨?_, ?_⟩; exact At.head)))))) <;> (apply A.tk 8; exact rfl; kernel_rfl; (apply Ok1.pick_t; exact rfl; exact rfl)) <;> (apply A.tk 9; exact rfl; kernel_rfl; (apply Ok1.move; exact rfl)) <;> ((apply A.tkG 10; (iterate 3 exact rfl); kernel_rfl; (apply Ok1.fieldAddr; (iterate 5 exact rfl)))) <;> ((apply A.tkG 11; (iterate 3 exact rfl); kernel_rfl; (apply Ok1.sliceArr; (iterate 4 exact rfl)))) <;> ((apply A.tkG 12; (iterate 3 exact rfl); kernel_rfl; (apply Ok1.load; exact rfl; (apply Ld.blk1; exact rfl; exact rfl; exact e3; exact List.not_mem_nil; exact rfl)))) <;> (apply A.one 13; kernel_rfl; exact rfl; (((apply R.isG; apply R.guard_run; exact rfl; exact rfl; ((apply R.callV; (iterate 3 exact rfl); intro w1 hw1; exact hq _ w1 (RdSl.ofOffF hw1 (by exact At.head) hfl rfl) (hd.chg' hw1.chg (fun _ => Off.nil _))))))); apply R.nil; refine ⟨?_, ?_⟩; (focus ((repeat' (first | exact trivial | (refine ⟨?_, ?_⟩; exact At.head)))))) <;> (apply A.tk 14; exact rfl; kernel_rfl; (apply Ok1.pick_t; exact rfl; exact rfl)) <;> (apply A.tk 15; exact rfl; kernel_rfl; (apply Ok1.assign; exact rfl)) <;> (apply A.done; kernel_rfl))) | apply T.seq | apply T.region | apply T.ret))
        all_goals (apply RetOk.t; exact rfl)
        all_goals rfl
  · rw [decide_eq_false c1]
    repeat' (first | (apply R.is1; first | (apply R.box; (iterate 3 exact rfl); intro b9) | (apply R.pure; exact rfl; (apply Ok1.assign; exact rfl))) | apply R.nil | (apply T.is; first | (apply T.drawC (id := 1) [0] (by decide); ((apply A.tk 0; exact rfl; kernel_rfl; (apply Ok1.fieldAddr; (iterate 5 exact rfl))) <;> (apply A.tk 1; exact rfl; kernel_rfl; (apply Ok1.load; exact rfl; (apply Ld.own1; exact rfl; exact rfl; exact At.head; exact hfx))) <;> (apply A.tk 2; exact rfl; kernel_rfl; (apply Ok1.load; exact rfl; (apply Ld.blk1; exact rfl; exact rfl; exact e1; exact List.not_mem_nil; exact rfl))) <;> ((apply A.tk 3; exact rfl; kernel_rfl; (apply Ok1.eql_f; exact rfl; exact rfl; omega))) <;> (apply A.tk 4; exact rfl; kernel_rfl; (apply Ok1.move; exact rfl)) <;> ((apply A.skG 5; (iterate 3 exact rfl); kernel_rfl)) <;> ((apply A.skG 6; (iterate 3 exact rfl); kernel_rfl)) <;> (apply A.one 7; kernel_rfl; exact rfl; (((apply R.isG; (apply R.guard_not; (iterate 3 exact rfl))))); apply R.nil; refine ⟨?_, ?_⟩; (focus ((repeat' (first | exact trivial | (refine ⟨?_, ?_⟩; exact At.head)))))) <;> (apply A.tk 8; exact rfl; kernel_rfl; (apply Ok1.pick_f; exact rfl; exact rfl)) <;> (apply A.tk 9; exact rfl; kernel_rfl; (apply Ok1.move; exact rfl)) <;> ((apply A.skG 10; (iterate 3 exact rfl); kernel_rfl)) <;> ((apply A.skG 11; (iterate 3 exact rfl); kernel_rfl)) <;> ((apply A.skG 12; (iterate 3 exact rfl); kernel_rfl)) <;> (apply A.one 13; kernel_rfl; exact rfl; (((apply R.isG; (apply R.guard_not; (iterate 3 exact rfl))))); apply R.nil; refine ⟨?_, ?_⟩; (focus ((repeat' (first | exact trivial | (refine ⟨?_, ?_⟩; exact At.head)))))) <;> (apply A.tk 14; exact rfl; kernel_rfl; (apply Ok1.pick_f; exact rfl; exact rfl)) <;> (apply A.tk 15; exact rfl; kernel_rfl; (apply Ok1.assign; exact rfl)) <;> (apply A.done; kernel_rfl))) | apply T.seq | apply T.region | apply T.ret))
    all_goals (apply RetOk.t; exact rfl)
    all_goals rfl
theorem adelete_ok (b j : Nat) (junk : List Value) (xs : List Ak) (hov : OvOk 10 (some (b, j, junk)) xs.length (fl Ak.v xs)) (hbig : xs.length ≤ 1000000) (i : Nat) (hi : i < xs.length) (w : World) :
    CallM Tryz.prog 74 [.slice (some ⟨b, 0, none⟩) xs.length (xs.length + j), .int .i64 i, .int .i64 (i + 1)] (blkL 164 (some (b, j, junk)) (fl Ak.v xs)) w fun v L => ∃ ov', OvOk 10 ov' (xs.eraseIdx i).length (fl Ak.v (xs.eraseIdx i)) ∧ v = slV ov' (xs.eraseIdx i).length ∧ L = blkL 164 ov' (fl Ak.v (xs.eraseIdx i)) := by
  have hjl : junk.length = j * 10 := hov.2
  have hel : (xs.eraseIdx i).length = xs.length - 1 := by rw [List.length_eraseIdx, if_pos hi]
  have hee : fl Ak.v (xs.eraseIdx i) = fl Ak.v (xs.take i) ++ fl Ak.v (xs.drop (i + 1)) := by rw [List.eraseIdx_eq_take_drop_succ, fl_app]
  have hO : (fl Ak.v (xs.take i)).length = i * 10 := by rw [fl_len Ak.v_len, List.length_take]; congr 1; omega
  have hNl : (fl Ak.v (xs.drop (i + 1))).length = (xs.length - (i + 1)) * 10 := by rw [fl_len Ak.v_len, List.length_drop]
  have hDl : (fl Ak.v (xs.drop i)).length = (xs.length - i) * 10 := by rw [fl_len Ak.v_len, List.length_drop]
  have hcells : fl Ak.v xs ++ junk = fl Ak.v (xs.take i) ++ (fl Ak.v (xs.drop i) ++ junk) := by rw [← List.append_assoc, ← fl_app, List.take_append_drop]
  have hon : (fl Ak.v (xs.drop (i + 1))).all Value.oneCell' = true := fl_oneG Ak.v_one _
  have hhold : ∀ w1 S L1, Hp w S L1 w1 → At L1 b (.cells ⟨fl Ak.v (xs.take i) ++ (fl Ak.v (xs.drop i) ++ junk)⟩ 164 (0, 0)) → Holds w1 (sufV (some (b, j, junk)) 10 xs.length (i + 1)) (fl Ak.v (xs.drop (i + 1))) := by
    intro w1 S L1 hw1 hat
    refine sufV_g (e2 := 164) Ak.v_len hov (by omega) (fun x hx => ?_) hw1
    have : x = (b, .cells ⟨fl Ak.v xs ++ junk⟩ 164 (0, 0)) := by simpa [blkL] using hx
    rw [this, hcells]
    exact hat.mem
  have hslen := sufV_len hov (i := i + 1) (by omega)
  simp only [blkL]
  rw [hcells, hee, hel]
  have hJd : (fl Ak.v (xs.drop i) ++ junk).length = (xs.length - i + j) * 10 := by rw [List.length_append, hDl, hjl, Nat.add_mul]
  generalize fl Ak.v (xs.drop i) ++ junk = J at *
  generalize hNe : fl Ak.v (xs.drop (i + 1)) = N at *
  generalize hOe : fl Ak.v (xs.take i) = O at *
  have hON : (O ++ N).length = (xs.length - 1) * 10 := by rw [List.length_append, hO, hNl, ← Nat.add_mul]; congr 1; omega
  have hJ2 : (J.drop N.length).length = (j + 1) * 10 := by rw [List.length_drop, hJd, hNl, ← Nat.sub_mul]; congr 1; omega
  have hclr : setE (O ++ N ++ J.drop N.length) ((xs.length - 1) * 10) (List.replicate 1 (Ak.v ak0)).flatten = some (O ++ N ++ (Ak.v ak0 ++ (J.drop N.length).drop 10)) := by
    have h1 := setE_mid (O ++ N) (vs := Ak.v ak0) (junk := J.drop N.length) (by rw [hJ2, Ak.v_len]; omega)
    rw [hON] at h1
    rw [show (List.replicate 1 (Ak.v ak0)).flatten = Ak.v ak0 by simp]
    rw [h1, List.append_assoc (O ++ N), Ak.v_len]
  have hk1 : xs.length - (xs.length - 1) = 1 := by omega
  have hq1 : i + (xs.length - (i + 1)) = xs.length - 1 := by omega
  have hclr2 : setE (O ++ N ++ J.drop N.length) ((i + (xs.length - (i + 1))) * 10) (List.replicate (xs.length - (i + (xs.length - (i + 1)))) (Ak.v ak0)).flatten = some (O ++ N ++ (Ak.v ak0 ++ (J.drop N.length).drop 10)) := by rw [hq1, hk1]; exact hclr
  refine enterK (tb := tb) Tryz.func74 rfl Tryz.ntmps74 rfl ?_
  repeat' (first | (apply R.is1; first | (apply R.isBin; (apply R.pure; exact rfl; (apply Ok1.eql_f; exact rfl; exact rfl; omega))) | (apply R.isCall; (apply R.pure; exact rfl; (apply Ok1.lenS; (iterate 3 exact rfl)))) | (apply R.pure; exact rfl; first | (apply Ok1.mid3B (i := i) (m := i + 1) (q := xs.length) (sz := 10); (iterate 8 exact rfl); omega; omega; omega; omega) | (apply Ok1.midB (i := i + (xs.length - (i + 1))) (m := xs.length) (sz := 10); (iterate 7 exact rfl); omega; omega; omega) | (apply Ok1.move; exact rfl) | (apply Ok1.assign; exact rfl))) | (apply R.is0; (apply R.clearG (zc := Ak.v ak0); (iterate 4 exact rfl); exact (by decide); exact rfl; exact rfl; omega; exact Upd.head; exact hclr2)) | apply R.nil | (apply T.is; first | (apply T.drawC (id := 5) [] (by decide); ((apply A.tk 0; exact rfl; kernel_rfl; (apply Ok1.move; exact rfl)) <;> (apply A.tk 1; exact rfl; kernel_rfl; (apply Ok1.move; exact rfl)) <;> (apply A.tk 2; exact rfl; kernel_rfl; (apply Ok1.sliceTo; (iterate 6 exact rfl); omega; omega; omega; (exact Or.inl rfl))) <;> (apply A.tk 3; exact rfl; kernel_rfl; (apply Ok1.move; exact rfl)) <;> (apply A.tk 4; exact rfl; kernel_rfl; (apply Ok1.move; exact rfl)) <;> (apply A.tk 5; exact rfl; kernel_rfl; (apply Ok1.sliceSuf (ov := some (b, j, junk)) (sz := 10) (n := xs.length) (i := i + 1); (iterate 5 exact rfl); exact hov; exact rfl; omega)) <;> (apply A.one 6; kernel_rfl; exact rfl; (((apply R.appendIn (n := i) (m := xs.length - (i + 1)) (j := xs.length + j - i) (old := O) (news := N) (junk := J); (iterate 7 exact rfl); omega; exact rfl; exact hslen; exact hO; (rw [hJd]; congr 1; omega); exact Upd.head; (intro w1 hw1; exact hhold _ _ _ hw1 (by exact At.head)); exact hNl; exact hon; omega))); apply R.nil; refine ⟨?_, ?_⟩; (focus ((repeat' (exact trivial))))) <;> (apply A.tk 7; exact rfl; kernel_rfl; (apply Ok1.assign; exact rfl)) <;> (apply A.done; kernel_rfl))) | apply T.seq | apply T.region | apply T.skip | apply T.ret | (apply T.cond_f; exact rfl)))
  (apply RetOk.t; exact rfl)
  refine ⟨_, ?_, some (b, j + 1, Ak.v ak0 ++ (J.drop N.length).drop 10), ⟨?_, ?_⟩, ?_, rfl⟩
  · (focus (repeat' first | exact Keep.nil _ | exact Ext.one _ _ | apply Keep.cons); done)
  · exact hON
  · show _ = _
    rw [List.length_append, List.length_drop, hJ2, Ak.v_len]; omega
  · rw [hq1]
    show Value.slice _ _ _ = Value.slice _ _ _
    congr 1
    omega
end Go.Proofs.YtolnagbahceebaaGreat
