/- Contracts of revoke: the digest of all logs. -/
import Derived.Test.YtligpachgcmkcaaRv3
import Derived.Test.YtligpachgcmkcaaDg7
set_option linter.unusedSimpArgs false
set_option linter.unusedVariables false
namespace Go.Proofs.Ytligpachgcmkcaa
open Go.RowKit Go.Shelf
set_option maxRecDepth 100000

def ru0 : RS := ⟨false, ⟨0, 0, 0, 0, 0, 0, 0, 0⟩, none, [], none, 0, 0, [], 0⟩
theorem ru0_ok : RuI ru0 [] := ⟨OvOk.start 1, Sfx.refl _ _, rfl, Nat.le_refl _, rfl, rfl, (fun x hx => by cases hx), (fun h => by cases h), fun _ => rfl⟩
/-- A number's two bytes; those of a log; those of all logs. -/
def pB (n : Int) : List Int := [IntKind.u8.wrap (n / 256), IntKind.u8.wrap n]
def lB (xs : List Int) : List Int := ((xs.length : Int) :: xs).flatMap pB
def prI (ls : List (List Int)) : List Int := ls.flatMap lB
theorem pB_byt (n : Int) : Byt (pB n) := by
  intro x hx
  simp only [pB, List.mem_cons, List.not_mem_nil, or_false] at hx
  rcases hx with rfl | rfl <;> (rw [u8_mod]; omega)
theorem fpB_len (zs : List Int) : (zs.flatMap pB).length = 2 * zs.length := by
  induction zs with
  | nil => rfl
  | cons z zs ih => rw [List.flatMap_cons, List.length_append, ih]; simp [pB]; omega
theorem pr_len {ls : List (List Int)} (h : ∀ xs ∈ ls, xs.length ≤ 256) : (prI ls).length ≤ 514 * ls.length := by
  induction ls with
  | nil => simp [prI]
  | cons x ls ih =>
    have h1 := h x List.mem_cons_self
    have h2 := ih fun y hy => h y (List.mem_cons_of_mem _ hy)
    have h3 : (lB x).length = 2 * (x.length + 1) := by rw [lB, fpB_len, List.length_cons]
    simp only [prI, List.flatMap_cons, List.length_append, List.length_cons] at *
    omega
theorem pr_snoc {ls : List (List Int)} {i : Nat} {xs : List Int} (h : ls[i]? = some xs) : prI (ls.take (i + 1)) = prI (ls.take i) ++ lB xs := by
  unfold prI
  rw [List.take_add_one, h, List.flatMap_append]
  simp
theorem print_gen (s : Value) (ls : List (List Int)) (hl : ls.length = 4) (hle : ∀ xs ∈ ls, xs.length ≤ 256) (w : World)
    (hlog : ∀ (i : Nat) (xs : List Int), ls[i]? = some xs → ∀ w1, Chg [] w w1 → CallM Try.prog 26 [s, .int .i64 i] [] w1 fun v L => ∃ ov, OvOk 1 ov xs.length (iis xs) ∧ v = slV ov xs.length ∧ L = blkL 3 ov (iis xs)) :
    CallW Try.prog 27 [s] w fun v _ => v = .agg ⟨u8s (shaI (prI ls))⟩ := by
  refine enterW (tb := tb) Try.func27 rfl Try.ntmps27 rfl ?_
  repeat' (first | (apply R.is1; first | (apply R.pure; exact rfl; (apply Ok1.move; exact rfl)) | (apply R.alloc; (iterate 3 exact rfl); intro)) | apply R.nil | (apply T.is; first | apply T.seq | apply T.region | apply T.block))
  rename_i b2 b3
  apply T.loopK (α := Nat × RS) (I := fun y => y.1 ≤ 4 ∧ RuI y.2 (prI (ls.take y.1))) (σi := fun y => [(0, s), (2, .pointer (some ⟨b2, 0, none⟩)), (3, .pointer (some ⟨b3, 0, none⟩)), (8, .int .i64 y.1)])
    (Li := fun y => (b2, .cells ⟨List.replicate 32 (.int .u8 0)⟩ 54 (0, 0)) :: RL b3 y.2) (μ := fun y => 4 - y.1) (i0 := (0, ru0))
  · exact ⟨Nat.zero_le _, ru0_ok⟩
  · exact ⟨rfl, rfl, rfl, rfl, trivial⟩
  · simp only [RL]
    (focus ((repeat' (first | exact Keep.nil _ | exact Ext.one _ _ | apply Keep.cons | apply Ext.cons)); done))
  · rintro ⟨i, st⟩ ⟨hi, hI⟩
    simp only at hi hI ⊢
    have hpl := pr_len (ls := ls.take i) fun xs hx => hle xs (List.mem_of_mem_take hx)
    have htl : (ls.take i).length ≤ 4 := by rw [List.length_take, hl]; omega
    rcases Nat.lt_or_ge i 4 with hlt | hge
    · obtain ⟨xs, hx⟩ : ∃ xs, ls[i]? = some xs := ⟨_, List.getElem?_eq_getElem (by omega)⟩
      have hxl := hle xs (List.mem_of_getElem? hx)
      have h1 := hlog i xs hx
      have hsn := pr_snoc hx
      have hlb : lB xs = ((xs.length : Int) :: xs).flatMap pB := rfl
      rw [hlb] at hsn
      have hcat : ∀ p1 p2 c2, icat [⟨p1, 1, [(xs.length : Int)]⟩, ⟨p2, c2, xs⟩] = (xs.length : Int) :: xs := fun _ _ _ => by simp [icat]
      have hcon : ∀ (bq b1 : Nat) (ov : Ov) w1, OvOk 1 ov xs.length (iis xs) → RdSl w1 (some ⟨bq, 0, none⟩) Pi.v [⟨some ⟨b1, 0, none⟩, 1, [(xs.length : Int)]⟩, ⟨ovp ov, ovc ov xs.length, xs⟩] → RdSl w1 (some ⟨b1, 0, none⟩) iV [(xs.length : Int)] → RdSl w1 (ovp ov) iV xs → CallM Try.prog 57 [.slice (some ⟨bq, 0, none⟩) 2 2] [] w1 fun v L => ∃ ov', OvOk 1 ov' ((xs.length : Int) :: xs).length (iis ((xs.length : Int) :: xs)) ∧ v = slV ov' ((xs.length : Int) :: xs).length ∧ L = blkL 3 ov' (iis ((xs.length : Int) :: xs)) := by
        intro bq b1 ov w1 hov h2 h3 h4
        have := iconcat_ok (some ⟨bq, 0, none⟩) 2 2 [⟨some ⟨b1, 0, none⟩, 1, [(xs.length : Int)]⟩, ⟨ovp ov, ovc ov xs.length, xs⟩] rfl (by rw [hcat, List.length_cons]; omega) (by decide) w1 h2 (by
          intro z hz
          simp only [List.mem_cons, List.not_mem_nil, or_false] at hz
          rcases hz with rfl | rfl
          · exact h3
          · exact h4)
        rw [hcat] at this
        exact this
      have hzl : ((xs.length : Int) :: xs).length ≤ 257 := by rw [List.length_cons]; omega
      repeat' (first | (apply R.is1; first | (apply R.isBin; (apply R.pure; exact rfl; (apply Ok1.lss_t; exact rfl; exact rfl; omega))) | (apply R.isCall; first | (apply R.callE (vs := [s, .int .i64 i]); (iterate 3 exact rfl); exact Ext.none _; intro w1 hw1; exact h1 w1 hw1.chg; rintro v Lo ⟨ov, hov, rfl, rfl⟩; rw [slV_eq hov]) | (apply R.callE (vs := [.slice (some ⟨_, 0, none⟩) 2 2]); (iterate 3 exact rfl); exact Ext.none _; intro w1 hw1; exact hcon _ _ ov w1 hov (RdSl.of (junk := []) hw1 (by exact At.head) rfl) (RdSl.of (junk := []) hw1 (by (focus ((repeat' (first | exact At.head | apply At.tail)); done))) rfl) (irdown hov hw1 (Ext.mem (by (focus ((repeat' (first | exact Ext.here _ _ | apply Ext.cons)); done))))); rintro v Lo ⟨ovz, hovz, rfl, rfl⟩; rw [slV_eq hovz]) | (apply R.pure; exact rfl; (apply Ok1.lenS; (iterate 3 exact rfl)))) | (apply R.pure; exact rfl; first | (apply Ok1.move; exact rfl) | (apply Ok1.assign; exact rfl)) | (apply R.buildSlice; (iterate 12 exact rfl); intro)) | apply R.nil | (apply T.is; first | apply T.seq | apply T.region | apply T.block | apply T.skip | (apply T.cond_t; exact rfl)))
      generalize ((xs.length : Int) :: xs) = zs at *
      apply T.loopK (α := Nat × RS) (I := fun y => y.1 ≤ zs.length ∧ RuI y.2 (prI (ls.take i) ++ (zs.take y.1).flatMap pB)) (σi := fun y => [(0, s), (2, .pointer (some ⟨b2, 0, none⟩)), (3, .pointer (some ⟨b3, 0, none⟩)), (8, .int .i64 i), (19, .slice (ovp ovz) zs.length (ovc ovz zs.length)), (20, .int .i64 zs.length), (21, .int .i64 y.1)])
        (Li := fun y => (b2, .cells ⟨List.replicate 32 (.int .u8 0)⟩ 54 (0, 0)) :: (RL b3 y.2 ++ blkL 3 ovz (iis zs))) (μ := fun y => zs.length - y.1) (i0 := (0, st))
      · exact ⟨Nat.zero_le _, by simpa using hI⟩
      · exact ⟨rfl, rfl, rfl, rfl, rfl, rfl, rfl, trivial⟩
      · (focus ((repeat' (first | exact Ext.one _ _ | exact Ext.here _ _ | exact Ext.all _ | apply Keep.cons | apply Keep.app | apply Keep.last | apply Ext.cons | apply Ext.app)); done))
      · rintro ⟨j, st1⟩ ⟨hj, hI1⟩
        simp only at hj hI1 ⊢
        rcases Nat.lt_or_ge j zs.length with hjl | hjg
        · obtain ⟨y, hy⟩ : ∃ y, zs[j]? = some y := ⟨_, List.getElem?_eq_getElem (by omega)⟩
          obtain ⟨b9, j9, k9, rfl⟩ := ovsome hovz (by omega)
          have hcy : ∀ w1, RdSl w1 (ovp (some (b9, j9, k9))) iV zs → w1.cell? ⟨b9, 0 + j * 1, none⟩ = some (.int .i64 y) := by
            intro w1 h1
            obtain ⟨b', o', hpe', H'⟩ := h1.at hy
            cases hpe'
            exact H' 1 iV_len 0 (by decide)
          have hbl : (prI (ls.take i) ++ (zs.take j).flatMap pB).length ≤ 3000 := by
            rw [List.length_append, fpB_len, List.length_take]
            omega
          have hca : ∀ bp : Nat, cat [⟨some ⟨bp, 0, none⟩, 2, pB y⟩] = pB y := fun _ => by simp [cat]
          have hpl2 : (pB y).length = 2 := rfl
          have hbd : ∀ bp : Nat, ((prI (ls.take i) ++ (zs.take j).flatMap pB) ++ cat [⟨some ⟨bp, 0, none⟩, 2, pB y⟩]).length ≤ 1000000000 := fun bp => by rw [hca, List.length_append, hpl2]; omega
          have hadd := fun (bp bq : Nat) w1 h2 h3 h4 h5 => rAdd_ok b3 st1 (prI (ls.take i) ++ (zs.take j).flatMap pB) hI1 (some ⟨bq, 0, none⟩) 1 1 [⟨some ⟨bp, 0, none⟩, 2, pB y⟩] rfl (by rw [hca]; exact pB_byt y) (hbd bp) (by decide) w1 h2 h3 (fun z hz => by rw [List.mem_singleton.1 hz]; exact ⟨h4, h5⟩)
          have hnx : prI (ls.take i) ++ (zs.take (j + 1)).flatMap pB = (prI (ls.take i) ++ (zs.take j).flatMap pB) ++ pB y := by
            rw [List.take_add_one, hy, List.flatMap_append, List.append_assoc]
            simp
          repeat' (first | (apply R.is1; first | (apply R.isBin; (apply R.pure; exact rfl; first | (apply Ok1.lss_t; exact rfl; exact rfl; omega) | (apply Ok1.shr; exact rfl; exact rfl; omega; exact Nat.le_of_ble_eq_true rfl; (exact pwE8)))) | (apply R.pure; exact rfl; first | (apply Ok1.indexAddrP (b := b9) (o := 0); (iterate 6 exact rfl); omega; omega) | (apply Ok1.load; exact rfl; apply Ld.of1; exact rfl; exact rfl; intro w1 hw1; exact hcy w1 (irdown hovz hw1 (Ext.mem (by (focus ((repeat' (first | exact Ext.one _ _ | apply Ext.cons | apply Ext.app)); done)))))) | (apply Ok1.move; exact rfl) | (apply Ok1.assign; exact rfl) | (apply Ok1.conv; (iterate 5 exact rfl))) | (apply R.buildSlice; (iterate 12 exact rfl); intro)) | apply R.nil | (apply T.is; first | apply T.seq | apply T.region | apply T.block | apply T.skip | (apply T.cond_t; exact rfl)))
          rename_i bp bq
          repeat' (first | (apply R.is1; first | (apply R.isBin; (apply R.pure; exact rfl; (apply Ok1.add64; exact rfl; exact rfl; omega; omega))) | (apply R.isCall; (apply R.callE (Li := RL b3 st1) (vs := [.pointer (some ⟨b3, 0, none⟩), .slice (some ⟨bq, 0, none⟩) 1 1]); (iterate 3 exact rfl); (focus ((repeat' (first | exact Ext.here _ _ | apply Ext.cons)); done)); intro w1 hw1; exact hadd bp bq w1 (RdSl.of (junk := []) hw1 (by exact At.head) rfl) (fun _ => Off.of (k := 0) hw1 (by (focus ((repeat' (first | exact Ext.here _ _ | apply Ext.cons)); done))) (by exact At.head)) (RdSl.of (v := u8V) (rs := pB y) (junk := []) hw1 (by (focus ((repeat' (first | exact At.head | apply At.tail)); done))) rfl) (fun _ => Off.of (k := 0) hw1 (by (focus ((repeat' (first | exact Ext.here _ _ | apply Ext.cons)); done))) (by (focus ((repeat' (first | exact At.head | apply At.tail)); done)))); rintro v Lo ⟨st2, rfl, rfl, hI2, hon2⟩; rw [hca] at hI2)) | (apply R.pure; exact rfl; (apply Ok1.move; exact rfl))) | apply R.nil | (apply T.is; apply T.region))
          exact ⟨(j + 1, st2), ⟨by simp only; omega, by simp only [hnx]; exact hI2⟩, by simp only; omega, ⟨rfl, rfl, rfl, rfl, rfl, rfl, rfl, trivial⟩, by (focus ((repeat' (first | exact Keep.nil _ | exact Ext.one _ _ | exact Ext.here _ _ | apply Keep.cons | apply Keep.app | apply Ext.cons | apply Ext.app)); done))⟩
        · have hjz : j = zs.length := by omega
          subst hjz
          rw [List.take_length, ← hsn] at hI1
          repeat' (first | (apply R.is1; first | (apply R.isBin; (apply R.pure; exact rfl; first | (apply Ok1.add64; exact rfl; exact rfl; omega; omega) | (apply Ok1.lss_f; exact rfl; exact rfl; omega))) | (apply R.pure; exact rfl; (apply Ok1.move; exact rfl))) | apply R.nil | (apply T.is; first | apply T.seq | apply T.region | apply T.exit | (apply T.cond_f; exact rfl)))
          exact ⟨(i + 1, st1), ⟨by simp only; omega, hI1⟩, by simp only; omega, ⟨rfl, rfl, rfl, rfl, trivial⟩, by (focus ((repeat' (first | exact Ext.one _ _ | exact Ext.here _ _ | apply Keep.cons | apply Keep.last)); done))⟩
    · have him : i = 4 := by omega
      subst him
      rw [List.take_of_length_le (by omega)] at hI hpl
      have hsum := fun w1 hb h2 => rSum_ok b3 st (prI ls) hI (by omega) w1 hb h2
      have hls : (u8s (shaI (prI ls))).length = 32 := by rw [u8s_len, sha_len]
      have hone := u8s_one (shaI (prI ls))
      have hset : ∀ cs : List Value, cs.length = 32 → setE cs 0 (u8s (shaI (prI ls))) = some (u8s (shaI (prI ls))) := fun cs h => setE_all (by rw [hls, h])
      have hsub := subE_all hls
      generalize shaI (prI ls) = d0 at *
      repeat' (first | (apply R.is1; first | (apply R.isBin; (apply R.pure; exact rfl; (apply Ok1.lss_f; exact rfl; exact rfl; omega))) | (apply R.isCall; (apply R.callV (vs := [.pointer (some ⟨b3, 0, none⟩)]); (iterate 3 exact rfl); intro w1 hw1; exact hsum w1 (hw1.get _ _ (List.mem_cons_of_mem _ List.mem_cons_self)) (hI.rd hw1 (fun z hz => List.mem_cons_of_mem _ (List.mem_cons_of_mem _ hz)))))) | (apply R.is0; (apply R.store; (iterate 4 exact rfl); exact hls; exact hone; exact Upd.head; exact hset _ rfl)) | apply R.nil | (apply T.is; first | apply T.seq | apply T.region | apply T.exit | apply T.ret | (apply T.cond_f; exact rfl)))
      all_goals apply RetOk.c
      all_goals first | exact rfl | skip
      all_goals (apply Ld.ownk; exact rfl; exact rfl; exact At.head; exact hsub)
theorem print_ok (bs : Nat) (gs : List Lg) (hg : GOk gs) (w : World) (hs : SetR w bs gs) : CallW Try.prog 27 [.pointer (some ⟨bs, 0, none⟩)] w fun v _ => v = .agg ⟨u8s (shaI (prI (lgs gs)))⟩ :=
  print_gen _ (lgs gs) (by rw [lgs, List.length_map, hg.len]) (fun xs hx => by obtain ⟨g, hgm, rfl⟩ := List.mem_map.1 hx; exact hg.le g hgm) w fun i xs hi w1 hc => by
    rw [lgs, List.getElem?_map] at hi
    cases hgi : gs[i]? with
    | none => rw [hgi] at hi; cases hi
    | some g =>
      rw [hgi] at hi
      cases hi
      exact log_ok bs gs hg i g hgi w1 (hs.chg hc)
theorem print_nil (w : World) : CallW Try.prog 27 [.pointer none] w fun v _ => v = .agg ⟨u8s (shaI (prI [[], [], [], []]))⟩ :=
  print_gen _ [[], [], [], []] rfl (fun xs hx => by simp only [List.mem_cons, List.not_mem_nil, or_false, or_self] at hx; rw [hx]; decide) w fun i xs hi w1 hc => by
    have : xs = [] := by
      have := List.mem_of_getElem? hi
      simpa using this
    subst this
    exact ((log_nil i).w w1).toM.to fun v L ⟨h1, h2⟩ => ⟨none, ⟨rfl, rfl⟩, h1, h2⟩
theorem lst32 {α : Type} : ∀ (l : List α), l.length = 32 → ∃ x0 x1 x2 x3 x4 x5 x6 x7 x8 x9 x10 x11 x12 x13 x14 x15 x16 x17 x18 x19 x20 x21 x22 x23 x24 x25 x26 x27 x28 x29 x30 x31, l = [x0, x1, x2, x3, x4, x5, x6, x7, x8, x9, x10, x11, x12, x13, x14, x15, x16, x17, x18, x19, x20, x21, x22, x23, x24, x25, x26, x27, x28, x29, x30, x31] := by
  intro l h
  match l, h with
  | [x0, x1, x2, x3, x4, x5, x6, x7, x8, x9, x10, x11, x12, x13, x14, x15, x16, x17, x18, x19, x20, x21, x22, x23, x24, x25, x26, x27, x28, x29, x30, x31], _ => exact ⟨x0, x1, x2, x3, x4, x5, x6, x7, x8, x9, x10, x11, x12, x13, x14, x15, x16, x17, x18, x19, x20, x21, x22, x23, x24, x25, x26, x27, x28, x29, x30, x31, rfl⟩
theorem allc32 (l : List Int) (h : l.length = 32) : allOk (repK [.int .u8] 32) (u8s l) = true := by
  obtain ⟨x0, x1, x2, x3, x4, x5, x6, x7, x8, x9, x10, x11, x12, x13, x14, x15, x16, x17, x18, x19, x20, x21, x22, x23, x24, x25, x26, x27, x28, x29, x30, x31, rfl⟩ := lst32 l h
  rfl
end Go.Proofs.Ytligpachgcmkcaa
