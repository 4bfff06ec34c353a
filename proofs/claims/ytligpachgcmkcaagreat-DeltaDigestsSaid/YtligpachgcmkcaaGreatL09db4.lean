/- Texts of the proof: Rp1, Dn1, Rd6, Eng30, Rr1, Rb5, Da2, Rg0, Rg1, Da4, Dn2, Sm1, Rf1, Rf2. -/
import Derived.Test.YtligpachgcmkcaaGreatL09db3
import Derived.OrdersIn
set_option linter.unusedSimpArgs false
set_option linter.unusedVariables false
namespace Go.Proofs.YtligpachgcmkcaaGreat
open Go.RowKit Go.Shelf
set_option maxRecDepth 100000
def ru0 : RS := ⟨false, ⟨0, 0, 0, 0, 0, 0, 0, 0⟩, none, [], none, 0, 0, [], 0⟩
theorem ru0_ok : RuI ru0 [] := ⟨OvOk.start 1, Sfx.refl _ _, rfl, Nat.le_refl _, rfl, rfl, (fun x hx => by cases hx), (fun h => by cases h), fun _ => rfl⟩
/-- A number's two bytes; those of a log; those of all logs. -/
def pB (n : Int) : List Int := [IntKind.u8.wrap (n / 256), IntKind.u8.wrap n]
def lB (xs : List Int) : List Int := ((xs.length : Int) :: xs).flatMap pB
def prI (ls : List (List Int)) : List Int := ls.flatMap lB
theorem pB_byt (n : Int) : Byt (pB n) := by
  intro x hx
  simp only [pB, List.mem_cons, List.not_mem_nil, or_false] at hx
  rcases hx with rfl | rfl <;> (rw [u8_mod]; omega)
theorem fpB_len (zs : List Int) : (zs.flatMap pB).length = 2 * zs.length := by
  induction zs with
  | nil => rfl
  | cons z zs ih => rw [List.flatMap_cons, List.length_append, ih]; simp [pB]; omega
theorem pr_len {ls : List (List Int)} (h : ∀ xs ∈ ls, xs.length ≤ 256) : (prI ls).length ≤ 514 * ls.length := by
  induction ls with
  | nil => simp [prI]
  | cons x ls ih =>
    have h1 := h x List.mem_cons_self
    have h2 := ih fun y hy => h y (List.mem_cons_of_mem _ hy)
    have h3 : (lB x).length = 2 * (x.length + 1) := by rw [lB, fpB_len, List.length_cons]
    simp only [prI, List.flatMap_cons, List.length_append, List.length_cons] at *
    omega
theorem pr_snoc {ls : List (List Int)} {i : Nat} {xs : List Int} (h : ls[i]? = some xs) : prI (ls.take (i + 1)) = prI (ls.take i) ++ lB xs := by
  unfold prI
  rw [List.take_add_one, h, List.flatMap_append]
  simp
theorem print_gen (s : Value) (ls : List (List Int)) (hl : ls.length = 4) (hle : ∀ xs ∈ ls, xs.length ≤ 256) (w : World)
    (hlog : ∀ (i : Nat) (xs : List Int), ls[i]? = some xs → ∀ w1, Chg [] w w1 → CallM Tryz.prog 40 [s, .int .i64 i] [] w1 fun v L => ∃ ov, OvOk 1 ov xs.length (iis xs) ∧ v = slV ov xs.length ∧ L = blkL 3 ov (iis xs)) :
    CallW Tryz.prog 23 [s] w fun v _ => v = .agg ⟨u8s (shaI (prI ls))⟩ := by
  refine enterW (tb := tb) Tryz.func23 rfl Tryz.ntmps23 rfl ?_
  repeat' (first | (apply R.is1; first | (apply R.isBin; first | (apply R.pure; exact rfl; first | (apply Ok1.add64; exact rfl; exact rfl; omega; omega) | (apply Ok1.lss_t; exact rfl; exact rfl; omega) | (apply Ok1.lss_f; exact rfl; exact rfl; omega) | (apply Ok1.shr; exact rfl; exact rfl; omega; exact Nat.le_of_ble_eq_true rfl; (first | exact pwE1 | exact pwE2 | exact pwE3 | exact pwE4 | exact pwE5 | exact pwE6 | exact pwE7 | exact pwE8 | exact pwE16 | exact pwE24 | exact pwE32 | exact rfl))) | (apply R.lss rfl rfl rfl <;> intro)) | (apply R.isCall; first | (apply R.pure; exact rfl; first | (apply Ok1.lenS; (iterate 3 exact rfl)) | (apply Ok1.lenStr; (iterate 3 exact rfl)) | (apply Ok1.lenMm; (iterate 3 exact rfl); (focus ((repeat' (first | exact At.head | apply At.tail | apply At.right)); done))) | (apply Ok1.lenM_nil; (iterate 3 exact rfl)))) | (apply R.pure; exact rfl; first | (apply Ok1.move; exact rfl) | (apply Ok1.load; exact rfl; first | (apply Ld.own1; exact rfl; exact rfl; (focus ((repeat' (first | exact At.head | apply At.tail | apply At.right)); done)); exact rfl) | (apply Ld.ownk; exact rfl; exact rfl; (focus ((repeat' (first | exact At.head | apply At.tail | apply At.right)); done)); exact rfl) | (apply Ld.old1; exact rfl; exact rfl; assumption; (first | exact List.not_mem_nil | assumption)) | (apply Ld.blk1; exact rfl; exact rfl; assumption; (first | exact List.not_mem_nil | assumption); exact rfl) | (apply Ld.blkk; exact rfl; exact rfl; assumption; (first | exact List.not_mem_nil | assumption); exact rfl)) | (apply Ok1.assign; exact rfl) | (apply Ok1.indexAddr; (iterate 5 exact rfl); omega; omega) | (apply Ok1.indexAddrA; (iterate 5 exact rfl); omega; omega) | (apply Ok1.convI64; (iterate 5 exact rfl); omega; omega) | (apply Ok1.convU64; (iterate 5 exact rfl); omega; omega) | (apply Ok1.convU32; (iterate 5 exact rfl); omega; omega) | (apply Ok1.convU8; (iterate 5 exact rfl); omega; omega) | (apply Ok1.conv; (iterate 5 exact rfl))) | (apply R.alloc; (iterate 3 exact rfl); intro) | (apply R.buildSlice; (iterate 12 exact rfl); intro)) | (apply R.is0; first | (apply R.store; (iterate 6 exact rfl); (focus ((repeat' (first | exact Upd.head | apply Upd.tail | apply Upd.right)); done)); exact rfl) | fail) | (apply R.isG; first | (apply R.guard_run; exact rfl; exact rfl) | (apply R.guard_not; (iterate 3 exact rfl)) | (apply R.guard_not0; exact rfl; exact rfl) | (apply R.guard_un; (iterate 3 exact rfl)) | (apply R.guard_un0; exact rfl; exact rfl) | (apply R.guard rfl rfl ?_ (fun h => ⟨rfl, ?_⟩) <;> try intro)) | apply R.nil | (apply T.is; first | apply T.seq | apply T.region | apply T.block | apply T.scope | apply T.label | apply T.skip | apply T.exit | apply T.ret | (apply T.cond_t; exact rfl) | (apply T.cond_f; exact rfl) | (apply T.cond_h; exact rfl; assumption) | (apply T.cond_n; exact rfl; assumption) | (apply T.cond rfl <;> intro)) | apply Rnd.step)
  rename_i b2 b3
  apply T.loopK (α := Nat × RS) (I := fun y => y.1 ≤ 4 ∧ RuI y.2 (prI (ls.take y.1))) (σi := fun y => [(0, s), (2, .pointer (some ⟨b2, 0, none⟩)), (3, .pointer (some ⟨b3, 0, none⟩)), (8, .int .i64 y.1)])
    (Li := fun y => (b2, .cells ⟨List.replicate 32 (.int .u8 0)⟩ 67 (0, 0)) :: RL b3 y.2) (μ := fun y => 4 - y.1) (i0 := (0, ru0))
  · exact ⟨Nat.zero_le _, ru0_ok⟩
  · exact ⟨rfl, rfl, rfl, rfl, trivial⟩
  · simp only [RL]
    (focus ((repeat' (first | exact Keep.nil _ | exact Ext.one _ _ | exact Ext.here _ _ | exact Ext.all _ | apply Keep.cons | apply Keep.app | apply Keep.last | apply Ext.cons | apply Ext.app)); done))
  · rintro ⟨i, st⟩ ⟨hi, hI⟩
    simp only at hi hI ⊢
    have hpl := pr_len (ls := ls.take i) fun xs hx => hle xs (List.mem_of_mem_take hx)
    have htl : (ls.take i).length ≤ 4 := by rw [List.length_take, hl]; omega
    rcases Nat.lt_or_ge i 4 with hlt | hge
    · obtain ⟨xs, hx⟩ : ∃ xs, ls[i]? = some xs := ⟨_, List.getElem?_eq_getElem (by omega)⟩
      have hxl := hle xs (List.mem_of_getElem? hx)
      have h1 := hlog i xs hx
      have hsn := pr_snoc hx
      have hlb : lB xs = ((xs.length : Int) :: xs).flatMap pB := rfl
      rw [hlb] at hsn
      have hcat : ∀ p1 p2 c2, icat [⟨p1, 1, [(xs.length : Int)]⟩, ⟨p2, c2, xs⟩] = (xs.length : Int) :: xs := fun _ _ _ => by simp [icat]
      have hcon : ∀ (bq b1 : Nat) (ov : Ov) w1, OvOk 1 ov xs.length (iis xs) → RdSl w1 (some ⟨bq, 0, none⟩) Pi.v [⟨some ⟨b1, 0, none⟩, 1, [(xs.length : Int)]⟩, ⟨ovp ov, ovc ov xs.length, xs⟩] → RdSl w1 (some ⟨b1, 0, none⟩) iV [(xs.length : Int)] → RdSl w1 (ovp ov) iV xs → CallM Tryz.prog 37 [.slice (some ⟨bq, 0, none⟩) 2 2] [] w1 fun v L => ∃ ov', OvOk 1 ov' ((xs.length : Int) :: xs).length (iis ((xs.length : Int) :: xs)) ∧ v = slV ov' ((xs.length : Int) :: xs).length ∧ L = blkL 3 ov' (iis ((xs.length : Int) :: xs)) := by
        intro bq b1 ov w1 hov h2 h3 h4
        have := iconcat_ok (some ⟨bq, 0, none⟩) 2 2 [⟨some ⟨b1, 0, none⟩, 1, [(xs.length : Int)]⟩, ⟨ovp ov, ovc ov xs.length, xs⟩] rfl (by rw [hcat, List.length_cons]; omega) (by decide) w1 h2 (by
          intro z hz
          simp only [List.mem_cons, List.not_mem_nil, or_false] at hz
          rcases hz with rfl | rfl
          · exact h3
          · exact h4)
        rw [hcat] at this
        exact this
      have hzl : ((xs.length : Int) :: xs).length ≤ 257 := by rw [List.length_cons]; omega
      repeat' (first | (apply R.is1; first | (apply R.isBin; first | (apply R.pure; exact rfl; first | (apply Ok1.add64; exact rfl; exact rfl; omega; omega) | (apply Ok1.lss_t; exact rfl; exact rfl; omega) | (apply Ok1.lss_f; exact rfl; exact rfl; omega) | (apply Ok1.shr; exact rfl; exact rfl; omega; exact Nat.le_of_ble_eq_true rfl; (first | exact pwE1 | exact pwE2 | exact pwE3 | exact pwE4 | exact pwE5 | exact pwE6 | exact pwE7 | exact pwE8 | exact pwE16 | exact pwE24 | exact pwE32 | exact rfl))) | (apply R.lss rfl rfl rfl <;> intro)) | (apply R.isCall; first | (apply R.callE (vs := [s, .int .i64 i]); (iterate 3 exact rfl); exact Ext.none _; intro w1 hw1; exact h1 w1 hw1.chg; rintro v Lo ⟨ov, hov, rfl, rfl⟩; rw [slV_eq hov]) | (apply R.callE (vs := [.slice (some ⟨_, 0, none⟩) 2 2]); (iterate 3 exact rfl); exact Ext.none _; intro w1 hw1; exact hcon _ _ ov w1 hov (RdSl.of (junk := []) hw1 (by (focus ((repeat' (first | exact At.head | apply At.tail | apply At.right)); done))) rfl) (RdSl.of (junk := []) hw1 (by (focus ((repeat' (first | exact At.head | apply At.tail | apply At.right)); done))) rfl) (irdown hov hw1 (Ext.mem (by (focus ((repeat' (first | exact Ext.none _ | exact Ext.one _ _ | exact Ext.here _ _ | exact Ext.all _ | apply Ext.cons | apply Ext.app | apply Ext.two)); done))))); rintro v Lo ⟨ovz, hovz, rfl, rfl⟩; rw [slV_eq hovz]) | (apply R.pure; exact rfl; first | (apply Ok1.lenS; (iterate 3 exact rfl)) | (apply Ok1.lenStr; (iterate 3 exact rfl)) | (apply Ok1.lenMm; (iterate 3 exact rfl); (focus ((repeat' (first | exact At.head | apply At.tail | apply At.right)); done))) | (apply Ok1.lenM_nil; (iterate 3 exact rfl)))) | (apply R.pure; exact rfl; first | (apply Ok1.move; exact rfl) | (apply Ok1.load; exact rfl; first | (apply Ld.own1; exact rfl; exact rfl; (focus ((repeat' (first | exact At.head | apply At.tail | apply At.right)); done)); exact rfl) | (apply Ld.ownk; exact rfl; exact rfl; (focus ((repeat' (first | exact At.head | apply At.tail | apply At.right)); done)); exact rfl) | (apply Ld.old1; exact rfl; exact rfl; assumption; (first | exact List.not_mem_nil | assumption)) | (apply Ld.blk1; exact rfl; exact rfl; assumption; (first | exact List.not_mem_nil | assumption); exact rfl) | (apply Ld.blkk; exact rfl; exact rfl; assumption; (first | exact List.not_mem_nil | assumption); exact rfl)) | (apply Ok1.assign; exact rfl) | (apply Ok1.indexAddr; (iterate 5 exact rfl); omega; omega) | (apply Ok1.indexAddrA; (iterate 5 exact rfl); omega; omega) | (apply Ok1.convI64; (iterate 5 exact rfl); omega; omega) | (apply Ok1.convU64; (iterate 5 exact rfl); omega; omega) | (apply Ok1.convU32; (iterate 5 exact rfl); omega; omega) | (apply Ok1.convU8; (iterate 5 exact rfl); omega; omega) | (apply Ok1.conv; (iterate 5 exact rfl))) | (apply R.alloc; (iterate 3 exact rfl); intro) | (apply R.buildSlice; (iterate 12 exact rfl); intro)) | (apply R.is0; first | (apply R.store; (iterate 6 exact rfl); (focus ((repeat' (first | exact Upd.head | apply Upd.tail | apply Upd.right)); done)); exact rfl) | fail) | (apply R.isG; first | (apply R.guard_run; exact rfl; exact rfl) | (apply R.guard_not; (iterate 3 exact rfl)) | (apply R.guard_not0; exact rfl; exact rfl) | (apply R.guard_un; (iterate 3 exact rfl)) | (apply R.guard_un0; exact rfl; exact rfl) | (apply R.guard rfl rfl ?_ (fun h => ⟨rfl, ?_⟩) <;> try intro)) | apply R.nil | (apply T.is; first | apply T.seq | apply T.region | apply T.block | apply T.scope | apply T.label | apply T.skip | apply T.exit | apply T.ret | (apply T.cond_t; exact rfl) | (apply T.cond_f; exact rfl) | (apply T.cond_h; exact rfl; assumption) | (apply T.cond_n; exact rfl; assumption) | (apply T.cond rfl <;> intro)) | apply Rnd.step)
      generalize ((xs.length : Int) :: xs) = zs at *
      apply T.loopK (α := Nat × RS) (I := fun y => y.1 ≤ zs.length ∧ RuI y.2 (prI (ls.take i) ++ (zs.take y.1).flatMap pB)) (σi := fun y => [(0, s), (2, .pointer (some ⟨b2, 0, none⟩)), (3, .pointer (some ⟨b3, 0, none⟩)), (8, .int .i64 i), (19, .slice (ovp ovz) zs.length (ovc ovz zs.length)), (20, .int .i64 zs.length), (21, .int .i64 y.1)])
        (Li := fun y => (b2, .cells ⟨List.replicate 32 (.int .u8 0)⟩ 67 (0, 0)) :: (RL b3 y.2 ++ blkL 3 ovz (iis zs))) (μ := fun y => zs.length - y.1) (i0 := (0, st))
      · exact ⟨Nat.zero_le _, by simpa using hI⟩
      · exact ⟨rfl, rfl, rfl, rfl, rfl, rfl, rfl, trivial⟩
      · (focus ((repeat' (first | exact Keep.nil _ | exact Ext.one _ _ | exact Ext.here _ _ | exact Ext.all _ | apply Keep.cons | apply Keep.app | apply Keep.last | apply Ext.cons | apply Ext.app)); done))
      · rintro ⟨j, st1⟩ ⟨hj, hI1⟩
        simp only at hj hI1 ⊢
        rcases Nat.lt_or_ge j zs.length with hjl | hjg
        · obtain ⟨y, hy⟩ : ∃ y, zs[j]? = some y := ⟨_, List.getElem?_eq_getElem (by omega)⟩
          obtain ⟨b9, j9, k9, rfl⟩ := ovsome hovz (by omega)
          have hcy : ∀ w1, RdSl w1 (ovp (some (b9, j9, k9))) iV zs → w1.cell? ⟨b9, 0 + j * 1, none⟩ = some (.int .i64 y) := by
            intro w1 h1
            obtain ⟨b', o', hpe', H'⟩ := h1.at hy
            cases hpe'
            exact H' 1 iV_len 0 (by decide)
          have hbl : (prI (ls.take i) ++ (zs.take j).flatMap pB).length ≤ 3000 := by
            rw [List.length_append, fpB_len, List.length_take]
            omega
          have hca : ∀ bp : Nat, cat [⟨some ⟨bp, 0, none⟩, 2, pB y⟩] = pB y := fun _ => by simp [cat]
          have hpl2 : (pB y).length = 2 := rfl
          have hbd : ∀ bp : Nat, ((prI (ls.take i) ++ (zs.take j).flatMap pB) ++ cat [⟨some ⟨bp, 0, none⟩, 2, pB y⟩]).length ≤ 1000000000 := fun bp => by rw [hca, List.length_append, hpl2]; omega
          have hadd := fun (bp bq : Nat) w1 h2 h3 h4 h5 => rAdd_ok b3 st1 (prI (ls.take i) ++ (zs.take j).flatMap pB) hI1 (some ⟨bq, 0, none⟩) 1 1 [⟨some ⟨bp, 0, none⟩, 2, pB y⟩] rfl (by rw [hca]; exact pB_byt y) (hbd bp) (by decide) w1 h2 h3 (fun z hz => by rw [List.mem_singleton.1 hz]; exact ⟨h4, h5⟩)
          have hnx : prI (ls.take i) ++ (zs.take (j + 1)).flatMap pB = (prI (ls.take i) ++ (zs.take j).flatMap pB) ++ pB y := by
            rw [List.take_add_one, hy, List.flatMap_append, List.append_assoc]
            simp
          repeat' (first | (apply R.is1; first | (apply R.isBin; first | (apply R.pure; exact rfl; first | (apply Ok1.add64; exact rfl; exact rfl; omega; omega) | (apply Ok1.lss_t; exact rfl; exact rfl; omega) | (apply Ok1.lss_f; exact rfl; exact rfl; omega) | (apply Ok1.shr; exact rfl; exact rfl; omega; exact Nat.le_of_ble_eq_true rfl; (first | exact pwE1 | exact pwE2 | exact pwE3 | exact pwE4 | exact pwE5 | exact pwE6 | exact pwE7 | exact pwE8 | exact pwE16 | exact pwE24 | exact pwE32 | exact rfl))) | (apply R.lss rfl rfl rfl <;> intro)) | (apply R.isCall; first | (apply R.pure; exact rfl; first | (apply Ok1.lenS; (iterate 3 exact rfl)) | (apply Ok1.lenStr; (iterate 3 exact rfl)) | (apply Ok1.lenMm; (iterate 3 exact rfl); (focus ((repeat' (first | exact At.head | apply At.tail | apply At.right)); done))) | (apply Ok1.lenM_nil; (iterate 3 exact rfl)))) | (apply R.pure; exact rfl; first | (apply Ok1.indexAddrP (b := b9) (o := 0); (iterate 6 exact rfl); omega; omega) | (apply Ok1.load; exact rfl; apply Ld.of1; exact rfl; exact rfl; intro w1 hw1; exact hcy w1 (irdown hovz hw1 (Ext.mem (by (focus ((repeat' (first | exact Ext.none _ | exact Ext.one _ _ | exact Ext.here _ _ | exact Ext.all _ | apply Ext.cons | apply Ext.app | apply Ext.two)); done)))))) | (apply Ok1.move; exact rfl) | (apply Ok1.load; exact rfl; first | (apply Ld.own1; exact rfl; exact rfl; (focus ((repeat' (first | exact At.head | apply At.tail | apply At.right)); done)); exact rfl) | (apply Ld.ownk; exact rfl; exact rfl; (focus ((repeat' (first | exact At.head | apply At.tail | apply At.right)); done)); exact rfl) | (apply Ld.old1; exact rfl; exact rfl; assumption; (first | exact List.not_mem_nil | assumption)) | (apply Ld.blk1; exact rfl; exact rfl; assumption; (first | exact List.not_mem_nil | assumption); exact rfl) | (apply Ld.blkk; exact rfl; exact rfl; assumption; (first | exact List.not_mem_nil | assumption); exact rfl)) | (apply Ok1.assign; exact rfl) | (apply Ok1.indexAddr; (iterate 5 exact rfl); omega; omega) | (apply Ok1.indexAddrA; (iterate 5 exact rfl); omega; omega) | (apply Ok1.convI64; (iterate 5 exact rfl); omega; omega) | (apply Ok1.convU64; (iterate 5 exact rfl); omega; omega) | (apply Ok1.convU32; (iterate 5 exact rfl); omega; omega) | (apply Ok1.convU8; (iterate 5 exact rfl); omega; omega) | (apply Ok1.conv; (iterate 5 exact rfl))) | (apply R.alloc; (iterate 3 exact rfl); intro) | (apply R.buildSlice; (iterate 12 exact rfl); intro)) | (apply R.is0; first | (apply R.store; (iterate 6 exact rfl); (focus ((repeat' (first | exact Upd.head | apply Upd.tail | apply Upd.right)); done)); exact rfl) | fail) | (apply R.isG; first | (apply R.guard_run; exact rfl; exact rfl) | (apply R.guard_not; (iterate 3 exact rfl)) | (apply R.guard_not0; exact rfl; exact rfl) | (apply R.guard_un; (iterate 3 exact rfl)) | (apply R.guard_un0; exact rfl; exact rfl) | (apply R.guard rfl rfl ?_ (fun h => ⟨rfl, ?_⟩) <;> try intro)) | apply R.nil | (apply T.is; first | apply T.seq | apply T.region | apply T.block | apply T.scope | apply T.label | apply T.skip | apply T.exit | apply T.ret | (apply T.cond_t; exact rfl) | (apply T.cond_f; exact rfl) | (apply T.cond_h; exact rfl; assumption) | (apply T.cond_n; exact rfl; assumption) | (apply T.cond rfl <;> intro)) | apply Rnd.step)
          rename_i bp bq
          repeat' (first | (apply R.is1; first | (apply R.isBin; first | (apply R.pure; exact rfl; first | (apply Ok1.add64; exact rfl; exact rfl; omega; omega) | (apply Ok1.lss_t; exact rfl; exact rfl; omega) | (apply Ok1.lss_f; exact rfl; exact rfl; omega) | (apply Ok1.shr; exact rfl; exact rfl; omega; exact Nat.le_of_ble_eq_true rfl; (first | exact pwE1 | exact pwE2 | exact pwE3 | exact pwE4 | exact pwE5 | exact pwE6 | exact pwE7 | exact pwE8 | exact pwE16 | exact pwE24 | exact pwE32 | exact rfl))) | (apply R.lss rfl rfl rfl <;> intro)) | (apply R.isCall; first | (apply R.callE (Li := RL b3 st1) (vs := [.pointer (some ⟨b3, 0, none⟩), .slice (some ⟨bq, 0, none⟩) 1 1]); (iterate 3 exact rfl); (focus ((repeat' (first | exact Ext.none _ | exact Ext.one _ _ | exact Ext.here _ _ | exact Ext.all _ | apply Ext.cons | apply Ext.app | apply Ext.two)); done)); intro w1 hw1; exact hadd bp bq w1 (RdSl.of (junk := []) hw1 (by (focus ((repeat' (first | exact At.head | apply At.tail | apply At.right)); done))) rfl) (fun _ => Off.of (k := 0) hw1 (by (focus ((repeat' (first | exact Ext.none _ | exact Ext.one _ _ | exact Ext.here _ _ | exact Ext.all _ | apply Ext.cons | apply Ext.app | apply Ext.two)); done))) (by (focus ((repeat' (first | exact At.head | apply At.tail | apply At.right)); done)))) (RdSl.of (v := u8V) (rs := pB y) (junk := []) hw1 (by (focus ((repeat' (first | exact At.head | apply At.tail | apply At.right)); done))) rfl) (fun _ => Off.of (k := 0) hw1 (by (focus ((repeat' (first | exact Ext.none _ | exact Ext.one _ _ | exact Ext.here _ _ | exact Ext.all _ | apply Ext.cons | apply Ext.app | apply Ext.two)); done))) (by (focus ((repeat' (first | exact At.head | apply At.tail | apply At.right)); done)))); rintro v Lo ⟨st2, rfl, rfl, hI2, hon2⟩; rw [hca] at hI2) | (apply R.pure; exact rfl; first | (apply Ok1.lenS; (iterate 3 exact rfl)) | (apply Ok1.lenStr; (iterate 3 exact rfl)) | (apply Ok1.lenMm; (iterate 3 exact rfl); (focus ((repeat' (first | exact At.head | apply At.tail | apply At.right)); done))) | (apply Ok1.lenM_nil; (iterate 3 exact rfl)))) | (apply R.pure; exact rfl; first | (apply Ok1.move; exact rfl) | (apply Ok1.load; exact rfl; first | (apply Ld.own1; exact rfl; exact rfl; (focus ((repeat' (first | exact At.head | apply At.tail | apply At.right)); done)); exact rfl) | (apply Ld.ownk; exact rfl; exact rfl; (focus ((repeat' (first | exact At.head | apply At.tail | apply At.right)); done)); exact rfl) | (apply Ld.old1; exact rfl; exact rfl; assumption; (first | exact List.not_mem_nil | assumption)) | (apply Ld.blk1; exact rfl; exact rfl; assumption; (first | exact List.not_mem_nil | assumption); exact rfl) | (apply Ld.blkk; exact rfl; exact rfl; assumption; (first | exact List.not_mem_nil | assumption); exact rfl)) | (apply Ok1.assign; exact rfl) | (apply Ok1.indexAddr; (iterate 5 exact rfl); omega; omega) | (apply Ok1.indexAddrA; (iterate 5 exact rfl); omega; omega) | (apply Ok1.convI64; (iterate 5 exact rfl); omega; omega) | (apply Ok1.convU64; (iterate 5 exact rfl); omega; omega) | (apply Ok1.convU32; (iterate 5 exact rfl); omega; omega) | (apply Ok1.convU8; (iterate 5 exact rfl); omega; omega) | (apply Ok1.conv; (iterate 5 exact rfl))) | (apply R.alloc; (iterate 3 exact rfl); intro) | (apply R.buildSlice; (iterate 12 exact rfl); intro)) | (apply R.is0; first | (apply R.store; (iterate 6 exact rfl); (focus ((repeat' (first | exact Upd.head | apply Upd.tail | apply Upd.right)); done)); exact rfl) | fail) | (apply R.isG; first | (apply R.guard_run; exact rfl; exact rfl) | (apply R.guard_not; (iterate 3 exact rfl)) | (apply R.guard_not0; exact rfl; exact rfl) | (apply R.guard_un; (iterate 3 exact rfl)) | (apply R.guard_un0; exact rfl; exact rfl) | (apply R.guard rfl rfl ?_ (fun h => ⟨rfl, ?_⟩) <;> try intro)) | apply R.nil | (apply T.is; first | apply T.seq | apply T.region | apply T.block | apply T.scope | apply T.label | apply T.skip | apply T.exit | apply T.ret | (apply T.cond_t; exact rfl) | (apply T.cond_f; exact rfl) | (apply T.cond_h; exact rfl; assumption) | (apply T.cond_n; exact rfl; assumption) | (apply T.cond rfl <;> intro)) | apply Rnd.step)
          exact ⟨(j + 1, st2), ⟨by simp only; omega, by simp only [hnx]; exact hI2⟩, by simp only; omega, ⟨rfl, rfl, rfl, rfl, rfl, rfl, rfl, trivial⟩, by (focus ((repeat' (first | exact Keep.nil _ | exact Ext.one _ _ | exact Ext.here _ _ | exact Ext.all _ | apply Keep.cons | apply Keep.app | apply Keep.last | apply Ext.cons | apply Ext.app)); done))⟩
        · have hjz : j = zs.length := by omega
          subst hjz
          rw [List.take_length, ← hsn] at hI1
          repeat' (first | (apply R.is1; first | (apply R.isBin; first | (apply R.pure; exact rfl; first | (apply Ok1.add64; exact rfl; exact rfl; omega; omega) | (apply Ok1.lss_t; exact rfl; exact rfl; omega) | (apply Ok1.lss_f; exact rfl; exact rfl; omega) | (apply Ok1.shr; exact rfl; exact rfl; omega; exact Nat.le_of_ble_eq_true rfl; (first | exact pwE1 | exact pwE2 | exact pwE3 | exact pwE4 | exact pwE5 | exact pwE6 | exact pwE7 | exact pwE8 | exact pwE16 | exact pwE24 | exact pwE32 | exact rfl))) | (apply R.lss rfl rfl rfl <;> intro)) | (apply R.isCall; first | (apply R.pure; exact rfl; first | (apply Ok1.lenS; (iterate 3 exact rfl)) | (apply Ok1.lenStr; (iterate 3 exact rfl)) | (apply Ok1.lenMm; (iterate 3 exact rfl); (focus ((repeat' (first | exact At.head | apply At.tail | apply At.right)); done))) | (apply Ok1.lenM_nil; (iterate 3 exact rfl)))) | (apply R.pure; exact rfl; first | (apply Ok1.move; exact rfl) | (apply Ok1.load; exact rfl; first | (apply Ld.own1; exact rfl; exact rfl; (focus ((repeat' (first | exact At.head | apply At.tail | apply At.right)); done)); exact rfl) | (apply Ld.ownk; exact rfl; exact rfl; (focus ((repeat' (first | exact At.head | apply At.tail | apply At.right)); done)); exact rfl) | (apply Ld.old1; exact rfl; exact rfl; assumption; (first | exact List.not_mem_nil | assumption)) | (apply Ld.blk1; exact rfl; exact rfl; assumption; (first | exact List.not_mem_nil | assumption); exact rfl) | (apply Ld.blkk; exact rfl; exact rfl; assumption; (first | exact List.not_mem_nil | assumption); exact rfl)) | (apply Ok1.assign; exact rfl) | (apply Ok1.indexAddr; (iterate 5 exact rfl); omega; omega) | (apply Ok1.indexAddrA; (iterate 5 exact rfl); omega; omega) | (apply Ok1.convI64; (iterate 5 exact rfl); omega; omega) | (apply Ok1.convU64; (iterate 5 exact rfl); omega; omega) | (apply Ok1.convU32; (iterate 5 exact rfl); omega; omega) | (apply Ok1.convU8; (iterate 5 exact rfl); omega; omega) | (apply Ok1.conv; (iterate 5 exact rfl))) | (apply R.alloc; (iterate 3 exact rfl); intro) | (apply R.buildSlice; (iterate 12 exact rfl); intro)) | (apply R.is0; first | (apply R.store; (iterate 6 exact rfl); (focus ((repeat' (first | exact Upd.head | apply Upd.tail | apply Upd.right)); done)); exact rfl) | fail) | (apply R.isG; first | (apply R.guard_run; exact rfl; exact rfl) | (apply R.guard_not; (iterate 3 exact rfl)) | (apply R.guard_not0; exact rfl; exact rfl) | (apply R.guard_un; (iterate 3 exact rfl)) | (apply R.guard_un0; exact rfl; exact rfl) | (apply R.guard rfl rfl ?_ (fun h => ⟨rfl, ?_⟩) <;> try intro)) | apply R.nil | (apply T.is; first | apply T.seq | apply T.region | apply T.block | apply T.scope | apply T.label | apply T.skip | apply T.exit | apply T.ret | (apply T.cond_t; exact rfl) | (apply T.cond_f; exact rfl) | (apply T.cond_h; exact rfl; assumption) | (apply T.cond_n; exact rfl; assumption) | (apply T.cond rfl <;> intro)) | apply Rnd.step)
          exact ⟨(i + 1, st1), ⟨by simp only; omega, hI1⟩, by simp only; omega, ⟨rfl, rfl, rfl, rfl, trivial⟩, by (focus ((repeat' (first | exact Keep.nil _ | exact Ext.one _ _ | exact Ext.here _ _ | exact Ext.all _ | apply Keep.cons | apply Keep.app | apply Keep.last | apply Ext.cons | apply Ext.app)); done))⟩
    · have him : i = 4 := by omega
      subst him
      rw [List.take_of_length_le (by omega)] at hI hpl
      have hsum := fun w1 hb h2 => rSum_ok b3 st (prI ls) hI (by omega) w1 hb h2
      have hls : (u8s (shaI (prI ls))).length = 32 := by rw [u8s_len, sha_len]
      have hone := u8s_one (shaI (prI ls))
      have hset : ∀ cs : List Value, cs.length = 32 → setE cs 0 (u8s (shaI (prI ls))) = some (u8s (shaI (prI ls))) := fun cs h => setE_all (by rw [hls, h])
      have hsub := subE_all hls
      generalize shaI (prI ls) = d0 at *
      repeat' (first | (apply R.is1; first | (apply R.isBin; first | (apply R.pure; exact rfl; first | (apply Ok1.add64; exact rfl; exact rfl; omega; omega) | (apply Ok1.lss_t; exact rfl; exact rfl; omega) | (apply Ok1.lss_f; exact rfl; exact rfl; omega) | (apply Ok1.shr; exact rfl; exact rfl; omega; exact Nat.le_of_ble_eq_true rfl; (first | exact pwE1 | exact pwE2 | exact pwE3 | exact pwE4 | exact pwE5 | exact pwE6 | exact pwE7 | exact pwE8 | exact pwE16 | exact pwE24 | exact pwE32 | exact rfl))) | (apply R.lss rfl rfl rfl <;> intro)) | (apply R.isCall; first | (apply R.callV (vs := [.pointer (some ⟨b3, 0, none⟩)]); (iterate 3 exact rfl); intro w1 hw1; exact hsum w1 (hw1.get _ _ (List.mem_cons_of_mem _ List.mem_cons_self)) (hI.rd hw1 (fun z hz => List.mem_cons_of_mem _ (List.mem_cons_of_mem _ hz)))) | (apply R.pure; exact rfl; first | (apply Ok1.lenS; (iterate 3 exact rfl)) | (apply Ok1.lenStr; (iterate 3 exact rfl)) | (apply Ok1.lenMm; (iterate 3 exact rfl); (focus ((repeat' (first | exact At.head | apply At.tail | apply At.right)); done))) | (apply Ok1.lenM_nil; (iterate 3 exact rfl)))) | (apply R.pure; exact rfl; first | (apply Ok1.move; exact rfl) | (apply Ok1.load; exact rfl; first | (apply Ld.own1; exact rfl; exact rfl; (focus ((repeat' (first | exact At.head | apply At.tail | apply At.right)); done)); exact rfl) | (apply Ld.ownk; exact rfl; exact rfl; (focus ((repeat' (first | exact At.head | apply At.tail | apply At.right)); done)); exact rfl) | (apply Ld.old1; exact rfl; exact rfl; assumption; (first | exact List.not_mem_nil | assumption)) | (apply Ld.blk1; exact rfl; exact rfl; assumption; (first | exact List.not_mem_nil | assumption); exact rfl) | (apply Ld.blkk; exact rfl; exact rfl; assumption; (first | exact List.not_mem_nil | assumption); exact rfl)) | (apply Ok1.assign; exact rfl) | (apply Ok1.indexAddr; (iterate 5 exact rfl); omega; omega) | (apply Ok1.indexAddrA; (iterate 5 exact rfl); omega; omega) | (apply Ok1.convI64; (iterate 5 exact rfl); omega; omega) | (apply Ok1.convU64; (iterate 5 exact rfl); omega; omega) | (apply Ok1.convU32; (iterate 5 exact rfl); omega; omega) | (apply Ok1.convU8; (iterate 5 exact rfl); omega; omega) | (apply Ok1.conv; (iterate 5 exact rfl))) | (apply R.alloc; (iterate 3 exact rfl); intro) | (apply R.buildSlice; (iterate 12 exact rfl); intro)) | (apply R.is0; first | (apply R.store; (iterate 4 exact rfl); exact hls; exact hone; (focus ((repeat' (first | exact Upd.head | apply Upd.tail | apply Upd.right)); done)); exact hset _ rfl) | (apply R.store; (iterate 6 exact rfl); (focus ((repeat' (first | exact Upd.head | apply Upd.tail | apply Upd.right)); done)); exact rfl) | fail) | (apply R.isG; first | (apply R.guard_run; exact rfl; exact rfl) | (apply R.guard_not; (iterate 3 exact rfl)) | (apply R.guard_not0; exact rfl; exact rfl) | (apply R.guard_un; (iterate 3 exact rfl)) | (apply R.guard_un0; exact rfl; exact rfl) | (apply R.guard rfl rfl ?_ (fun h => ⟨rfl, ?_⟩) <;> try intro)) | apply R.nil | (apply T.is; first | apply T.seq | apply T.region | apply T.block | apply T.scope | apply T.label | apply T.skip | apply T.exit | apply T.ret | (apply T.cond_t; exact rfl) | (apply T.cond_f; exact rfl) | (apply T.cond_h; exact rfl; assumption) | (apply T.cond_n; exact rfl; assumption) | (apply T.cond rfl <;> intro)) | apply Rnd.step)
      all_goals apply RetOk.c
      all_goals first | exact rfl | skip
      all_goals first | (apply Ld.ownk; exact rfl; exact rfl; (focus ((repeat' (first | exact At.head | apply At.tail | apply At.right)); done)); exact hsub) | exact rfl | skip
theorem print_ok (bs : Nat) (gs : List Lg) (hg : GOk gs) (w : World) (hs : SetR w bs gs) : CallW Tryz.prog 23 [.pointer (some ⟨bs, 0, none⟩)] w fun v _ => v = .agg ⟨u8s (shaI (prI (lgs gs)))⟩ :=
  print_gen _ (lgs gs) (by rw [lgs, List.length_map, hg.len]) (fun xs hx => by obtain ⟨g, hgm, rfl⟩ := List.mem_map.1 hx; exact hg.le g hgm) w fun i xs hi w1 hc => by
    rw [lgs, List.getElem?_map] at hi
    cases hgi : gs[i]? with
    | none => rw [hgi] at hi; cases hi
    | some g =>
      rw [hgi] at hi
      cases hi
      exact log_ok bs gs hg i g hgi w1 (hs.chg hc)
end Go.Proofs.YtligpachgcmkcaaGreat
set_option linter.unusedSimpArgs false
set_option linter.unusedVariables false
namespace Go.Proofs.YtligpachgcmkcaaGreat
open Go.RowKit Go.Shelf
set_option maxRecDepth 100000
/-- A digest: versions, and eight bytes. -/
def dgV (vs p8 : List Int) : List Value := iis vs ++ u8s p8
theorem dg_len {vs p8 : List Int} (hv : vs.length = 4) (hp : p8.length = 8) : (dgV vs p8).length = 12 := by simp [dgV, iis_len, u8s_len, hv, hp]
theorem dg_one (vs p8 : List Int) : (dgV vs p8).all Value.oneCell' = true := by rw [dgV, List.all_append, iis_one, u8s_one]; rfl
theorem fill_dg (a b : Nat) {vs p8 : List Int} (hv : vs.length = 4) (hp : p8.length = 8) : fillE (fldPl [(a, 0, 4), (b, 4, 8)]) (dgV [0, 0, 0, 0] [0, 0, 0, 0, 0, 0, 0, 0]) [(0, .agg ⟨iis vs⟩), (1, .agg ⟨u8s p8⟩)] = some (dgV vs p8) := by
  match vs, hv, p8, hp with
  | [v0, v1, v2, v3], _, [x0, x1, x2, x3, x4, x5, x6, x7], _ => rfl
theorem dg_flat {vs p8 : List Int} (hv : vs.length = 4) (hp : p8.length = 8) : allOk (repK [.int .i64] 4 ++ repK [.int .u8] 8) (dgV vs p8) = true := by
  match vs, hv, p8, hp with
  | [v0, v1, v2, v3], _, [x0, x1, x2, x3, x4, x5, x6, x7], _ => rfl
theorem iis_inj : ∀ {a b : List Int}, iis a = iis b → a = b
  | [], [], _ => rfl
  | [], _ :: _, h => by cases h
  | _ :: _, [], h => by cases h
  | x :: a, y :: b, h => by
    simp only [iis, List.map_cons, List.cons.injEq, Value.int.injEq, true_and] at h
    obtain ⟨h1, h2⟩ := h
    have h3 : a = b := iis_inj h2
    rw [h1, h3]
theorem u8i_inj : ∀ {a b : List Int}, u8s a = u8s b → a = b
  | [], [], _ => rfl
  | [], _ :: _, h => by cases h
  | _ :: _, [], h => by cases h
  | x :: a, y :: b, h => by
    simp only [u8s, List.map_cons, List.cons.injEq, Value.int.injEq, true_and] at h
    obtain ⟨h1, h2⟩ := h
    have h3 : a = b := u8i_inj h2
    rw [h1, h3]
theorem dg_inj {vs vs' p8 p8' : List Int} (hl : vs.length = vs'.length) : dgV vs p8 = dgV vs' p8' ↔ vs = vs' ∧ p8 = p8' := by
  unfold dgV
  constructor
  · intro h
    obtain ⟨h1, h2⟩ := List.append_inj h (by rw [iis_len, iis_len, hl])
    exact ⟨iis_inj h1, u8i_inj h2⟩
  · rintro ⟨h1, h2⟩
    rw [h1, h2]
theorem dOf_gen (s : Value) (vs pr : List Int) (hv : vs.length = 4) (hp : pr.length = 32) (w : World) (hpr : ∀ w1, Chg [] w w1 → CallW Tryz.prog 23 [s] w1 fun v _ => v = .agg ⟨u8s pr⟩) (hve : ∀ w1, Chg [] w w1 → CallW Tryz.prog 24 [s] w1 fun v _ => v = .agg ⟨iis vs⟩) :
    CallW Tryz.prog 6 [s] w fun v _ => v = .agg ⟨dgV vs (pr.take 8)⟩ := by
  have hpl : (u8s pr).length = 32 := by rw [u8s_len, hp]
  have hpo := u8s_one pr
  have h8 : (pr.take 8).length = 8 := by rw [List.length_take, hp]; rfl
  have hs8 : subE (u8s pr) 0 8 = some (u8s (pr.take 8)) := by
    have : u8s pr = u8s (pr.take 8) ++ u8s (pr.drop 8) := by rw [← u8s_app, List.take_append_drop]
    rw [this]
    exact subE_app _ _ (by rw [u8s_len, h8])
  have hset : ∀ cs : List Value, cs.length = 32 → setE cs 0 (u8s pr) = some (u8s pr) := fun cs h => setE_all (by rw [hpl, h])
  have hfill := fun a b => fill_dg a b hv h8
  have hdl := dg_len hv h8
  have hdo := dg_one vs (pr.take 8)
  have hset2 : ∀ cs : List Value, cs.length = 12 → setE cs 0 (dgV vs (pr.take 8)) = some (dgV vs (pr.take 8)) := fun cs h => setE_all (by rw [hdl, h])
  have hsub := subE_all hdl
  generalize dgV vs (pr.take 8) = D at *
  generalize pr.take 8 = p8 at *
  generalize u8s pr = P at *
  refine enterW (tb := tb) Tryz.func6 rfl Tryz.ntmps6 rfl ?_
  repeat' (first | (apply R.is1; first | (apply R.isCall; first | (apply R.callV (vs := [s]); (iterate 3 exact rfl); intro w1 hw1; exact hpr w1 hw1.chg)) | (apply R.pure; exact rfl; first | (apply Ok1.sliceArrTo (i := 8); (iterate 5 exact rfl); decide) | (apply Ok1.arrAt; (iterate 3 exact rfl); decide) | (apply Ok1.load; exact rfl; apply Ld.ownk; exact rfl; exact rfl; (focus ((repeat' (first | exact At.head | apply At.tail | apply At.right)); done)); exact hs8) | (apply Ok1.build; (iterate 4 exact rfl); exact hfill _ _) | (apply Ok1.move; exact rfl) | (apply Ok1.load; exact rfl; first | (apply Ld.own1; exact rfl; exact rfl; (focus ((repeat' (first | exact At.head | apply At.tail | apply At.right)); done)); exact rfl) | (apply Ld.ownk; exact rfl; exact rfl; (focus ((repeat' (first | exact At.head | apply At.tail | apply At.right)); done)); exact rfl) | (apply Ld.old1; exact rfl; exact rfl; assumption; (first | exact List.not_mem_nil | assumption)) | (apply Ld.blk1; exact rfl; exact rfl; assumption; (first | exact List.not_mem_nil | assumption); exact rfl) | (apply Ld.blkk; exact rfl; exact rfl; assumption; (first | exact List.not_mem_nil | assumption); exact rfl)) | (apply Ok1.build; (iterate 5 exact rfl)) | (apply Ok1.buildA; (iterate 6 exact rfl)) | (apply Ok1.slice0; (iterate 7 exact rfl); (refine ⟨?_, ?_, ?_⟩ <;> omega); (first | exact Or.inl rfl | exact Or.inr (fun e => by cases e))) | (apply Ok1.sliceTo; (iterate 6 exact rfl); omega; omega; omega; (first | exact Or.inl rfl | exact Or.inr (fun e => by cases e))) | (apply Ok1.sliceFrom; (iterate 7 exact rfl); omega; omega; omega; omega; omega; (first | exact Or.inl rfl | exact Or.inr (fun e => by cases e)))) | (apply R.alloc; (iterate 3 exact rfl); intro)) | (apply R.is0; first | (apply R.store; (iterate 4 exact rfl); (first | exact hpl | exact hdl); (first | exact hpo | exact hdo); (focus ((repeat' (first | exact Upd.head | apply Upd.tail | apply Upd.right)); done)); (first | exact hset _ rfl | exact hset2 _ rfl)) | (apply R.store; (iterate 6 exact rfl); (focus ((repeat' (first | exact Upd.head | apply Upd.tail | apply Upd.right)); done)); exact rfl) | fail) | (apply R.isG; first | (apply R.guard_run; exact rfl; exact rfl) | (apply R.guard_not; (iterate 3 exact rfl)) | (apply R.guard_not0; exact rfl; exact rfl) | (apply R.guard_un; (iterate 3 exact rfl)) | (apply R.guard_un0; exact rfl; exact rfl) | (apply R.guard rfl rfl ?_ (fun h => ⟨rfl, ?_⟩) <;> try intro)) | apply R.nil | (apply T.is; first | (apply T.drawC (id := 2) [0] (by decide); ((apply A.take 0; exact rfl; exact rfl; kernel_rfl; kernel_rfl; kernel_rfl; first | (apply Ok1.move; exact rfl)) <;> (apply A.call 1; exact rfl; exact rfl; kernel_rfl; kernel_rfl; kernel_rfl; exact rfl; exact rfl; first | (exact fun w1 hw1 => hve w1 hw1.chg)) <;> (apply A.take 2; exact rfl; exact rfl; kernel_rfl; kernel_rfl; kernel_rfl; first | (apply Ok1.sliceArrTo (i := 8); (iterate 5 exact rfl); decide) | (apply Ok1.slice0; (iterate 7 exact rfl); (refine ⟨?_, ?_, ?_⟩ <;> omega); (first | exact Or.inl rfl | exact Or.inr (fun e => by cases e))) | (apply Ok1.sliceTo; (iterate 6 exact rfl); omega; omega; omega; (first | exact Or.inl rfl | exact Or.inr (fun e => by cases e))) | (apply Ok1.sliceFrom; (iterate 7 exact rfl); omega; omega; omega; omega; omega; (first | exact Or.inl rfl | exact Or.inr (fun e => by cases e)))) <;> (apply A.take 3; exact rfl; exact rfl; kernel_rfl; kernel_rfl; kernel_rfl; first | (apply Ok1.arrAt; (iterate 3 exact rfl); decide)) <;> (apply A.take 4; exact rfl; exact rfl; kernel_rfl; kernel_rfl; kernel_rfl; first | (apply Ok1.load; exact rfl; apply Ld.ownk; exact rfl; exact rfl; (focus ((repeat' (first | exact At.head | apply At.tail | apply At.right)); done)); exact hs8) | (apply Ok1.load; exact rfl; first | (apply Ld.own1; exact rfl; exact rfl; (focus ((repeat' (first | exact At.head | apply At.tail | apply At.right)); done)); exact rfl) | (apply Ld.ownk; exact rfl; exact rfl; (focus ((repeat' (first | exact At.head | apply At.tail | apply At.right)); done)); exact rfl) | (apply Ld.old1; exact rfl; exact rfl; assumption; (first | exact List.not_mem_nil | assumption)) | (apply Ld.blk1; exact rfl; exact rfl; assumption; (first | exact List.not_mem_nil | assumption); exact rfl) | (apply Ld.blkk; exact rfl; exact rfl; assumption; (first | exact List.not_mem_nil | assumption); exact rfl))) <;> (apply A.take 5; exact rfl; exact rfl; kernel_rfl; kernel_rfl; kernel_rfl; first | (apply Ok1.build; (iterate 4 exact rfl); exact hfill _ _) | (apply Ok1.build; (iterate 5 exact rfl)) | (apply Ok1.buildA; (iterate 6 exact rfl))) <;> (apply A.one 6; kernel_rfl; exact rfl; ((first | (apply R.store; (iterate 4 exact rfl); (first | exact hpl | exact hdl); (first | exact hpo | exact hdo); (focus ((repeat' (first | exact Upd.head | apply Upd.tail | apply Upd.right)); done)); (first | exact hset _ rfl | exact hset2 _ rfl)) | (apply R.store; (iterate 6 exact rfl); (focus ((repeat' (first | exact Upd.head | apply Upd.tail | apply Upd.right)); done)); exact rfl) | fail)); apply R.nil; refine ⟨?_, ?_⟩; (focus ((repeat' (first | exact trivial | (refine ⟨?_, ?_⟩; (focus ((repeat' (first | exact At.head | apply At.tail | apply At.right)); done)))))))) <;> (apply A.done; kernel_rfl))) | apply T.seq | apply T.region | apply T.block | apply T.scope | apply T.label | apply T.skip | apply T.exit | apply T.ret | (apply T.cond_t; exact rfl) | (apply T.cond_f; exact rfl) | (apply T.cond_h; exact rfl; assumption) | (apply T.cond_n; exact rfl; assumption) | (apply T.cond rfl <;> intro)) | apply Rnd.step)
  all_goals apply RetOk.c
  all_goals first | exact rfl | skip
  all_goals first | (apply Ld.ownk; exact rfl; exact rfl; (focus ((repeat' (first | exact At.head | apply At.tail | apply At.right)); done)); exact hsub) | exact rfl | skip
theorem dOf_ok (bs : Nat) (gs : List Lg) (hg : GOk gs) (w : World) (hs : SetR w bs gs) : CallW Tryz.prog 6 [.pointer (some ⟨bs, 0, none⟩)] w fun v _ => v = .agg ⟨dgV ((lgs gs).map fun x => (x.length : Int)) ((shaI (prI (lgs gs))).take 8)⟩ := by
  refine dOf_gen _ _ _ (by rw [List.length_map, lgs, List.length_map, hg.len]) (sha_len _) w (fun w1 hc => print_ok bs gs hg w1 (hs.chg hc)) (fun w1 hc => ?_)
  have h := versions_ok bs gs hg w1 (hs.chg hc)
  rw [lens_of rfl] at h
  exact h
def d0P : List Int := (shaI (prI [[], [], [], []])).take 8
theorem d0P_len : d0P.length = 8 := by rw [d0P, List.length_take, sha_len]; rfl
theorem d0P_ne : d0P ≠ [0, 0, 0, 0, 0, 0, 0, 0] := by decide +kernel
theorem dOf_new (bs : Nat) (w : World) (hs : SetR w bs [lg0, lg0, lg0, lg0]) : CallW Tryz.prog 6 [.pointer (some ⟨bs, 0, none⟩)] w fun v _ => v = .agg ⟨dgV [0, 0, 0, 0] d0P⟩ := dOf_ok bs _ GOk.new w hs
end Go.Proofs.YtligpachgcmkcaaGreat
set_option linter.unusedSimpArgs false
set_option linter.unusedVariables false
namespace Go.Proofs.YtligpachgcmkcaaGreat
open Go.RowKit Go.Shelf
set_option maxRecDepth 100000
theorem dright_ok (p : Option Addr) (n cap : Nat) (xs : List Int) (hn : n = xs.length) (hbig : n ≤ 1000000000) (w : World) (h1 : RdSl w p iV xs) : CallW Tryz.prog 34 [.slice p n cap] w fun v _ => v = .bool (decide (SR xs)) := by
  subst hn
  refine enterW (tb := tb) Tryz.func34 rfl Tryz.ntmps34 rfl ?_
  repeat' (first | (apply R.is1; (apply R.pure; exact rfl; (apply Ok1.assign; exact rfl))) | apply R.nil | (apply T.is; first | apply T.seq | apply T.region | apply T.block))
  apply T.loopK (α := Nat) (I := fun i => i ≤ xs.length ∧ SR (xs.take i)) (σi := fun i => [(0, .slice p xs.length cap), (3, .int .i64 i)]) (Li := fun _ => []) (μ := fun i => xs.length - i) (i0 := 0)
  · exact ⟨Nat.zero_le _, fun x hx => by simp at hx⟩
  · exact ⟨rfl, rfl, trivial⟩
  · (focus ((repeat' (exact Keep.nil _)); done))
  · intro i ⟨hi, htk⟩
    rcases Nat.lt_or_ge i xs.length with hlt | hge
    · obtain ⟨x, hx⟩ : ∃ x, xs[i]? = some x := ⟨_, List.getElem?_eq_getElem (by omega)⟩
      have hm := List.mem_of_getElem? hx
      obtain ⟨b1, o1, hpe1, H1⟩ := h1.at hx
      replace H1 := H1 1 iV_len
      by_cases c1 : x < 1
      · repeat' (first | (apply R.is1; first | (apply R.isBin; (apply R.pure; exact rfl; (apply Ok1.lss_t; exact rfl; exact rfl; omega))) | (apply R.isCall; (apply R.pure; exact rfl; (apply Ok1.lenS; (iterate 3 exact rfl)))) | (apply R.pure; exact rfl; first | (apply Ok1.indexAddrP; (iterate 4 exact rfl); exact hpe1; exact rfl; omega; omega) | (apply Ok1.load; exact rfl; apply Ld.row0 H1; exact rfl; exact List.not_mem_nil; (iterate 3 exact rfl)) | (apply Ok1.move; exact rfl) | (apply Ok1.assign; exact rfl) | (apply Ok1.pick_t; exact rfl; exact rfl))) | (apply R.isG; (apply R.guard_not; (iterate 3 exact rfl))) | apply R.nil | (apply T.is; first | apply T.seq | apply T.region | apply T.block | apply T.skip | apply T.ret | (apply T.cond_t; exact rfl)))
        all_goals (apply RetOk.t; exact rfl)
        all_goals rw [decide_eq_false]
        exact fun h => by have := (h x hm).1; omega
      · by_cases c2 : 65535 < x
        · repeat' (first | (apply R.is1; first | (apply R.isBin; (apply R.pure; exact rfl; first | (apply Ok1.lss_t; exact rfl; exact rfl; omega) | (apply Ok1.lss_f; exact rfl; exact rfl; omega) | (apply Ok1.gtr_t; exact rfl; exact rfl; omega))) | (apply R.isCall; (apply R.pure; exact rfl; (apply Ok1.lenS; (iterate 3 exact rfl)))) | (apply R.pure; exact rfl; first | (apply Ok1.indexAddrP; (iterate 4 exact rfl); exact hpe1; exact rfl; omega; omega) | (apply Ok1.load; exact rfl; apply Ld.row0 H1; exact rfl; exact List.not_mem_nil; (iterate 3 exact rfl)) | (apply Ok1.move; exact rfl) | (apply Ok1.assign; exact rfl) | (apply Ok1.pick_f; exact rfl; exact rfl))) | (apply R.isG; (apply R.guard_run; exact rfl; exact rfl)) | apply R.nil | (apply T.is; first | apply T.seq | apply T.region | apply T.block | apply T.skip | apply T.ret | (apply T.cond_t; exact rfl)))
          all_goals (apply RetOk.t; exact rfl)
          all_goals rw [decide_eq_false]
          exact fun h => by have := (h x hm).2; omega
        · repeat' (first | (apply R.is1; first | (apply R.isBin; (apply R.pure; exact rfl; first | (apply Ok1.add64; exact rfl; exact rfl; omega; omega) | (apply Ok1.lss_t; exact rfl; exact rfl; omega) | (apply Ok1.lss_f; exact rfl; exact rfl; omega) | (apply Ok1.gtr_f; exact rfl; exact rfl; omega))) | (apply R.isCall; (apply R.pure; exact rfl; (apply Ok1.lenS; (iterate 3 exact rfl)))) | (apply R.pure; exact rfl; first | (apply Ok1.indexAddrP; (iterate 4 exact rfl); exact hpe1; exact rfl; omega; omega) | (apply Ok1.load; exact rfl; apply Ld.row0 H1; exact rfl; exact List.not_mem_nil; (iterate 3 exact rfl)) | (apply Ok1.move; exact rfl) | (apply Ok1.assign; exact rfl) | (apply Ok1.pick_f; exact rfl; exact rfl))) | (apply R.isG; (apply R.guard_run; exact rfl; exact rfl)) | apply R.nil | (apply T.is; first | apply T.seq | apply T.region | apply T.block | apply T.skip | (apply T.cond_t; exact rfl) | (apply T.cond_f; exact rfl)))
          refine ⟨i + 1, ⟨by omega, ?_⟩, by omega, ⟨rfl, rfl, trivial⟩, by (focus ((repeat' (exact Keep.nil _)); done))⟩
          intro y hy
          rw [List.take_add_one, hx, List.mem_append] at hy
          rcases hy with hy | hy
          · exact htk y hy
          · simp only [Option.toList_some, List.mem_singleton] at hy
            subst hy
            exact ⟨by omega, by omega⟩
    · repeat' (first | (apply R.is1; first | (apply R.isBin; (apply R.pure; exact rfl; (apply Ok1.lss_f; exact rfl; exact rfl; omega))) | (apply R.isCall; (apply R.pure; exact rfl; (apply Ok1.lenS; (iterate 3 exact rfl)))) | (apply R.pure; exact rfl; first | (apply Ok1.move; exact rfl) | (apply Ok1.assign; exact rfl))) | apply R.nil | (apply T.is; first | apply T.seq | apply T.region | apply T.exit | apply T.ret | (apply T.cond_f; exact rfl)))
      (apply RetOk.t; exact rfl)
      rw [List.take_of_length_le hge] at htk
      rw [decide_eq_true htk]
theorem nodup_snoc {xs : List Int} {i : Nat} {x : Int} (h : xs[i]? = some x) : (xs.take (i + 1)).Nodup ↔ (xs.take i).Nodup ∧ x ∉ xs.take i := by
  rw [List.take_add_one, h, Option.toList_some, List.nodup_append]
  constructor
  · intro ⟨h1, _, h3⟩
    exact ⟨h1, fun hm => h3 x hm x (List.mem_singleton.2 rfl) rfl⟩
  · intro ⟨h1, h2⟩
    refine ⟨h1, by simp, fun a ha b hb he => ?_⟩
    rw [List.mem_singleton] at hb
    subst hb he
    exact h2 ha
theorem dtwice_ok (p : Option Addr) (n cap : Nat) (xs : List Int) (hn : n = xs.length) (hbig : n ≤ 1000000000) (w : World) (h1 : RdSl w p iV xs) : CallW Tryz.prog 35 [.slice p n cap] w fun v _ => v = .bool (decide (¬ xs.Nodup)) := by
  subst hn
  refine enterW (tb := tb) Tryz.func35 rfl Tryz.ntmps35 rfl ?_
  repeat' (first | (apply R.is1; (apply R.pure; exact rfl; (apply Ok1.assign; exact rfl))) | apply R.nil | (apply T.is; first | apply T.seq | apply T.region | apply T.block))
  apply T.loopK (α := Nat) (I := fun i => i ≤ xs.length ∧ (xs.take i).Nodup) (σi := fun i => [(0, .slice p xs.length cap), (3, .int .i64 i)]) (Li := fun _ => []) (μ := fun i => xs.length - i) (i0 := 0)
  · exact ⟨Nat.zero_le _, List.nodup_nil⟩
  · exact ⟨rfl, rfl, trivial⟩
  · (focus ((repeat' (exact Keep.nil _)); done))
  · intro i ⟨hi, htk⟩
    rcases Nat.lt_or_ge i xs.length with hlt | hge
    · obtain ⟨x, hx⟩ : ∃ x, xs[i]? = some x := ⟨_, List.getElem?_eq_getElem (by omega)⟩
      obtain ⟨b1, o1, hpe1, H1⟩ := h1.at hx
      replace H1 := H1 1 iV_len
      repeat' (first | (apply R.is1; first | (apply R.isBin; (apply R.pure; exact rfl; (apply Ok1.lss_t; exact rfl; exact rfl; omega))) | (apply R.isCall; (apply R.pure; exact rfl; (apply Ok1.lenS; (iterate 3 exact rfl)))) | (apply R.pure; exact rfl; first | (apply Ok1.move; exact rfl) | (apply Ok1.assign; exact rfl))) | apply R.nil | (apply T.is; first | apply T.seq | apply T.region | apply T.block | apply T.skip | (apply T.cond_t; exact rfl)))
      apply T.loopK (α := Nat) (I := fun k => k ≤ i ∧ x ∉ xs.take k) (σi := fun k => [(0, .slice p xs.length cap), (3, .int .i64 i), (4, .int .i64 k)]) (Li := fun _ => []) (μ := fun k => i - k) (i0 := 0)
      · exact ⟨Nat.zero_le _, by simp⟩
      · exact ⟨rfl, rfl, rfl, trivial⟩
      · (focus ((repeat' (exact Keep.nil _)); done))
      · intro k ⟨hk, hnk⟩
        rcases Nat.lt_or_ge k i with hlk | hgk
        · obtain ⟨y, hy⟩ : ∃ y, xs[k]? = some y := ⟨_, List.getElem?_eq_getElem (by omega)⟩
          obtain ⟨b2, o2, hpe2, H2⟩ := h1.at hy
          replace H2 := H2 1 iV_len
          have hb2 := hpe2.symm.trans hpe1
          cases hb2
          by_cases hxy : x = y
          · repeat' (first | (apply R.is1; first | (apply R.isBin; (apply R.pure; exact rfl; (apply Ok1.lss_t; exact rfl; exact rfl; omega))) | (apply R.pure; exact rfl; first | (apply Ok1.move; exact rfl) | (apply Ok1.assign; exact rfl))) | apply R.nil | (apply T.is; first | (apply T.drawC (id := 7) [] (by decide); ((apply A.take 0; exact rfl; exact rfl; kernel_rfl; kernel_rfl; kernel_rfl; (apply Ok1.move; exact rfl)) <;> (apply A.take 1; exact rfl; exact rfl; kernel_rfl; kernel_rfl; kernel_rfl; (apply Ok1.move; exact rfl)) <;> (apply A.take 2; exact rfl; exact rfl; kernel_rfl; kernel_rfl; kernel_rfl; (apply Ok1.indexAddrP; (iterate 4 exact rfl); exact hpe1; exact rfl; omega; omega)) <;> (apply A.take 3; exact rfl; exact rfl; kernel_rfl; kernel_rfl; kernel_rfl; (apply Ok1.load; exact rfl; (apply Ld.row0 H1; exact rfl; exact List.not_mem_nil; (iterate 3 exact rfl)))) <;> (apply A.take 4; exact rfl; exact rfl; kernel_rfl; kernel_rfl; kernel_rfl; (apply Ok1.move; exact rfl)) <;> (apply A.take 5; exact rfl; exact rfl; kernel_rfl; kernel_rfl; kernel_rfl; (apply Ok1.move; exact rfl)) <;> (apply A.take 6; exact rfl; exact rfl; kernel_rfl; kernel_rfl; kernel_rfl; (apply Ok1.indexAddrP; (iterate 4 exact rfl); exact hpe1; exact rfl; omega; omega)) <;> (apply A.take 7; exact rfl; exact rfl; kernel_rfl; kernel_rfl; kernel_rfl; (apply Ok1.load; exact rfl; (apply Ld.row0 H2; exact rfl; exact List.not_mem_nil; (iterate 3 exact rfl)))) <;> ((apply A.take 8; exact rfl; exact rfl; kernel_rfl; kernel_rfl; kernel_rfl; (apply Ok1.eql_t; exact rfl; exact rfl; omega))) <;> (apply A.done; kernel_rfl))) | apply T.seq | apply T.region | apply T.block | apply T.skip | apply T.ret | (apply T.cond_t; exact rfl)))
            all_goals (apply RetOk.t; exact rfl)
            all_goals rw [decide_eq_true]
            intro hnd
            have h3 := (List.getElem?_inj (l := xs) (i := k) (j := i) (by omega) hnd).1 (by rw [hy, hx, hxy])
            omega
          · repeat' (first | (apply R.is1; first | (apply R.isBin; (apply R.pure; exact rfl; first | (apply Ok1.add64; exact rfl; exact rfl; omega; omega) | (apply Ok1.lss_t; exact rfl; exact rfl; omega))) | (apply R.pure; exact rfl; first | (apply Ok1.move; exact rfl) | (apply Ok1.assign; exact rfl))) | apply R.nil | (apply T.is; first | (apply T.drawC (id := 7) [] (by decide); ((apply A.take 0; exact rfl; exact rfl; kernel_rfl; kernel_rfl; kernel_rfl; (apply Ok1.move; exact rfl)) <;> (apply A.take 1; exact rfl; exact rfl; kernel_rfl; kernel_rfl; kernel_rfl; (apply Ok1.move; exact rfl)) <;> (apply A.take 2; exact rfl; exact rfl; kernel_rfl; kernel_rfl; kernel_rfl; (apply Ok1.indexAddrP; (iterate 4 exact rfl); exact hpe1; exact rfl; omega; omega)) <;> (apply A.take 3; exact rfl; exact rfl; kernel_rfl; kernel_rfl; kernel_rfl; (apply Ok1.load; exact rfl; (apply Ld.row0 H1; exact rfl; exact List.not_mem_nil; (iterate 3 exact rfl)))) <;> (apply A.take 4; exact rfl; exact rfl; kernel_rfl; kernel_rfl; kernel_rfl; (apply Ok1.move; exact rfl)) <;> (apply A.take 5; exact rfl; exact rfl; kernel_rfl; kernel_rfl; kernel_rfl; (apply Ok1.move; exact rfl)) <;> (apply A.take 6; exact rfl; exact rfl; kernel_rfl; kernel_rfl; kernel_rfl; (apply Ok1.indexAddrP; (iterate 4 exact rfl); exact hpe1; exact rfl; omega; omega)) <;> (apply A.take 7; exact rfl; exact rfl; kernel_rfl; kernel_rfl; kernel_rfl; (apply Ok1.load; exact rfl; (apply Ld.row0 H2; exact rfl; exact List.not_mem_nil; (iterate 3 exact rfl)))) <;> ((apply A.take 8; exact rfl; exact rfl; kernel_rfl; kernel_rfl; kernel_rfl; (apply Ok1.eql_f; exact rfl; exact rfl; omega))) <;> (apply A.done; kernel_rfl))) | apply T.seq | apply T.region | apply T.block | apply T.skip | (apply T.cond_t; exact rfl) | (apply T.cond_f; exact rfl)))
            refine ⟨k + 1, ⟨by omega, ?_⟩, by omega, ⟨rfl, rfl, rfl, trivial⟩, by (focus ((repeat' (exact Keep.nil _)); done))⟩
            rw [List.take_add_one, hy, Option.toList_some, List.mem_append, List.mem_singleton]
            rintro (h | h)
            · exact hnk h
            · exact hxy h
        · have hki : k = i := by omega
          subst hki
          repeat' (first | (apply R.is1; first | (apply R.isBin; (apply R.pure; exact rfl; first | (apply Ok1.add64; exact rfl; exact rfl; omega; omega) | (apply Ok1.lss_f; exact rfl; exact rfl; omega))) | (apply R.pure; exact rfl; first | (apply Ok1.move; exact rfl) | (apply Ok1.assign; exact rfl))) | apply R.nil | (apply T.is; first | apply T.seq | apply T.region | apply T.exit | (apply T.cond_f; exact rfl)))
          exact ⟨k + 1, ⟨by omega, (nodup_snoc hx).2 ⟨htk, hnk⟩⟩, by omega, ⟨rfl, rfl, trivial⟩, by (focus ((repeat' (exact Keep.nil _)); done))⟩
    · repeat' (first | (apply R.is1; first | (apply R.isBin; (apply R.pure; exact rfl; (apply Ok1.lss_f; exact rfl; exact rfl; omega))) | (apply R.isCall; (apply R.pure; exact rfl; (apply Ok1.lenS; (iterate 3 exact rfl)))) | (apply R.pure; exact rfl; first | (apply Ok1.move; exact rfl) | (apply Ok1.assign; exact rfl))) | apply R.nil | (apply T.is; first | apply T.seq | apply T.region | apply T.exit | apply T.ret | (apply T.cond_f; exact rfl)))
      (apply RetOk.t; exact rfl)
      rw [List.take_of_length_le hge] at htk
      rw [decide_eq_false (by simp [htk])]
end Go.Proofs.YtligpachgcmkcaaGreat
set_option linter.unusedSimpArgs false
set_option linter.unusedVariables false
namespace Go.Proofs.YtligpachgcmkcaaGreat
open Go.RowKit Go.Shelf
set_option maxRecDepth 100000
/-- The document's set: four logs. -/
def DSL (bs : Nat) (gs : List Lg) : Lst := (bs, .cells ⟨setV gs⟩ 62 (0, 0)) :: LsL gs
structure DSR (w : World) (bs : Nat) (gs : List Lg) : Prop where
  b : w.heap[bs]? = some (.cells ⟨setV gs⟩ 62 (0, 0))
  rd : ∀ g ∈ gs, RdSl w (ovp g.ov) iV g.xs
theorem DSR.of {bs : Nat} {gs : List Lg} (hg : GOk gs) {w0 w : World} {S : List Nat} {L : Lst} (hw : Hp w0 S L w) (hin : ∀ x ∈ DSL bs gs, x ∈ L) : DSR w bs gs :=
  ⟨hw.get _ _ (hin _ List.mem_cons_self), fun g h => Lg.rd (hg.ok g h) hw fun x hx => hin _ (List.mem_cons_of_mem _ (mem_LsL h hx))⟩
theorem drevoke_ok (bs : Nat) (gs : List Lg) (hg : GOk gs) (seed : Int) (p : Option Addr) (n cap : Nat) (xs : List Int) (hn : n = xs.length) (hbig : n ≤ 1000) (w : World) (hp : RdSl w p iV xs) (hoff : xs ≠ [] → Off p (blks (DSL bs gs))) :
    CallM Tryz.prog 20 [.pointer (some ⟨bs, 0, none⟩), .int .i64 seed, .slice p n cap] (DSL bs gs) w fun v L => ∃ gs', v = .int .i64 (revE (lgs gs) seed xs) ∧ lgs gs' = revL (lgs gs) seed xs ∧ GOk gs' ∧ L = DSL bs gs' := by
  subst hn
  have hse := fun w1 (hc : Chg (blks (DSL bs gs)) w w1) => dright_ok p xs.length cap xs rfl (by omega) w1 (hp.chg' hc hoff)
  by_cases hr : seed < 0 ∨ 4 ≤ seed ∨ ¬ SR xs
  · have he : revE (lgs gs) seed xs = 10 := by rw [revE, if_pos hr]
    have hl : revL (lgs gs) seed xs = lgs gs := by rw [revL, he, if_neg (by decide)]
    rw [he, hl]
    by_cases h0 : seed < 0
    · refine enterK (tb := tb) Tryz.func20 rfl Tryz.ntmps20 rfl ?_
      repeat' (first | (apply R.is1; first | (apply R.isBin; (apply R.pure; exact rfl; (apply Ok1.lss_t; exact rfl; exact rfl; omega))) | (apply R.pure; exact rfl; first | (apply Ok1.move; exact rfl) | (apply Ok1.assign; exact rfl) | (apply Ok1.pick_t; exact rfl; exact rfl))) | (apply R.isG; (apply R.guard_not; (iterate 3 exact rfl))) | apply R.nil | (apply T.is; first | apply T.seq | apply T.region | apply T.ret | (apply T.cond_t; exact rfl)))
      (apply RetOk.t; exact rfl)
      exact ⟨_, Keep.last (.all _), gs, rfl, rfl, hg, rfl⟩
    · by_cases h4 : 4 ≤ seed
      · have h3 : 3 < seed := by omega
        refine enterK (tb := tb) Tryz.func20 rfl Tryz.ntmps20 rfl ?_
        repeat' (first | (apply R.is1; first | (apply R.isBin; (apply R.pure; exact rfl; first | (apply Ok1.lss_f; exact rfl; exact rfl; omega) | (apply Ok1.gtr_t; exact rfl; exact rfl; omega))) | (apply R.pure; exact rfl; first | (apply Ok1.move; exact rfl) | (apply Ok1.assign; exact rfl) | (apply Ok1.pick_t; exact rfl; exact rfl) | (apply Ok1.pick_f; exact rfl; exact rfl))) | (apply R.isG; first | (apply R.guard_run; exact rfl; exact rfl) | (apply R.guard_not; (iterate 3 exact rfl))) | apply R.nil | (apply T.is; first | apply T.seq | apply T.region | apply T.ret | (apply T.cond_t; exact rfl)))
        (apply RetOk.t; exact rfl)
        exact ⟨_, Keep.last (.all _), gs, rfl, rfl, hg, rfl⟩
      · have h3 : ¬ 3 < seed := by omega
        have hs : ¬ SR xs := by rcases hr with h | h | h; exact absurd h h0; exact absurd h h4; exact h
        rw [decide_eq_false hs] at hse
        refine enterK (tb := tb) Tryz.func20 rfl Tryz.ntmps20 rfl ?_
        repeat' (first | (apply R.is1; first | (apply R.isBin; (apply R.pure; exact rfl; first | (apply Ok1.lss_f; exact rfl; exact rfl; omega) | (apply Ok1.gtr_f; exact rfl; exact rfl; omega))) | (apply R.isCall; (apply R.callV (vs := [.slice p xs.length cap]); (iterate 3 exact rfl); intro w1 hw1; exact hse w1 hw1.chg)) | (apply R.pure; exact rfl; first | (apply Ok1.move; exact rfl) | (apply Ok1.assign; exact rfl) | (apply Ok1.pick_f; exact rfl; exact rfl) | (apply Ok1.not_f; exact rfl))) | (apply R.isG; (apply R.guard_run; exact rfl; exact rfl)) | apply R.nil | (apply T.is; first | apply T.seq | apply T.region | apply T.ret | (apply T.cond_t; exact rfl)))
        (apply RetOk.t; exact rfl)
        exact ⟨_, Keep.last (.all _), gs, rfl, rfl, hg, rfl⟩
  · have h0 : ¬ seed < 0 := fun h => hr (.inl h)
    have h4 : ¬ 4 ≤ seed := fun h => hr (.inr (.inl h))
    have h3 : ¬ 3 < seed := by omega
    have hs : SR xs := Classical.not_not.1 fun h => hr (.inr (.inr h))
    rw [decide_eq_true hs] at hse
    obtain ⟨i, rfl⟩ : ∃ i : Nat, seed = i := ⟨seed.toNat, by omega⟩
    have hi4 : i < 4 := by omega
    obtain ⟨g, hx⟩ : ∃ g, gs[i]? = some g := ⟨_, List.getElem?_eq_getElem (by rw [hg.len]; omega)⟩
    have hm := List.mem_of_getElem? hx
    have hgo := hg.ok g hm
    have hgl := hg.le g hm
    have hcell := setV_get hx hgo
    have hgd : (lgs gs).getD (i : Int).toNat [] = g.xs := by
      rw [Int.toNat_natCast, List.getD_eq_getElem?_getD, lgs, List.getElem?_map, hx]
      rfl
    have hrev : revE (lgs gs) i xs = if ¬ (g.xs ++ xs).Nodup then 8 else if 256 < (g.xs ++ xs).length then 6 else 0 := by rw [revE, if_neg hr, hgd]
    have hrl : revL (lgs gs) i xs = if revE (lgs gs) i xs = 0 then (lgs gs).set i (g.xs ++ xs) else lgs gs := by rw [revL, hgd, Int.toNat_natCast]
    have hset := fun g' => setV_set (gs := gs) (i := i) g' (by rw [hg.len]; exact hi4)
    have hrd := fun w1 (hc : Chg (blks (DSL bs gs)) w w1) => hp.chg' hc hoff
    have hall : (g.xs ++ xs).length = g.xs.length + xs.length := List.length_append
    have htw := fun p cap w1 h1 => dtwice_ok p (g.xs ++ xs).length cap (g.xs ++ xs) rfl (by omega) w1 h1
    rw [hrl, hrev]
    clear hrl hrev hgd
    by_cases hnd : (g.xs ++ xs).Nodup
    · rw [decide_eq_false (fun h => h hnd)] at htw
      rw [if_neg (fun h => h hnd)]
      by_cases hf : 256 < (g.xs ++ xs).length
      · rw [if_pos hf, if_neg (by decide)]
        refine enterK (tb := tb) Tryz.func20 rfl Tryz.ntmps20 rfl ?_
        simp only [DSL]
        repeat' (first | (apply R.is1; first | (apply R.buildSlice0; (iterate 4 exact rfl); intro b0) | (apply R.isBin; (apply R.pure; exact rfl; first | (apply Ok1.lss_f; exact rfl; exact rfl; omega) | (apply Ok1.gtr_t; exact rfl; exact rfl; omega) | (apply Ok1.gtr_f; exact rfl; exact rfl; omega))) | (apply R.isCall; first | (apply R.callV (vs := [.slice p xs.length cap]); (iterate 3 exact rfl); intro w1 hw1; exact hse w1 hw1.chg) | (focus (apply R.appendRd (xs := g.xs) (v := iV) (sz := 1) (ov := some (b0, 0, [])) (n := 0) (old := []) (m := g.xs.length); (iterate 12 exact rfl); exact ⟨rfl, rfl⟩; (focus ((repeat' (exact Ext.one _ _)); done)); exact rfl; exact iV_len; exact rfl; (intro w1 hw1; exact Lg.rd hgo hw1 fun x hx => List.mem_cons_of_mem _ (List.mem_cons_of_mem _ (mem_LsL hm hx))); (focus (rw [fl_i]; exact iis_one _)); omega; intro ov1 hov1 hsome; rw [Nat.zero_add, List.nil_append, fl_i] at hov1; rw [Nat.zero_add, List.nil_append, fl_i])) | (focus (apply R.appendRd (xs := xs) (v := iV) (sz := 1) (ov := ov1) (n := g.xs.length) (old := iis g.xs) (m := xs.length); (iterate 12 exact rfl); exact hov1; (focus ((repeat' (exact Ext.here _ _)); done)); exact rfl; exact iV_len; exact rfl; (intro w1 hw1; exact hrd w1 hw1.chg); (focus (rw [fl_i]; exact iis_one _)); omega; intro ov2 hov2 hsome2; rw [fl_i, ← iis_app, ← hall] at hov2; rw [fl_i, ← iis_app, ← hall, slV_eq hov2])) | (apply R.callV (vs := [.slice (ovp ov2) (g.xs ++ xs).length (ovc ov2 (g.xs ++ xs).length)]); (iterate 3 exact rfl); intro w1 hw1; exact htw (ovp ov2) (ovc ov2 _) w1 (irdown hov2 hw1 (Ext.mem (by (focus ((repeat' (exact Ext.here _ _)); done)))))) | (apply R.pure; exact rfl; (apply Ok1.lenS; (iterate 3 exact rfl)))) | (apply R.pure; exact rfl; first | (apply Ok1.load; exact rfl; apply Ld.own1; exact rfl; exact rfl; (focus ((repeat' (first | exact At.head | apply At.tail)); done)); exact hcell) | (apply Ok1.move; exact rfl) | (apply Ok1.fieldAddr; (iterate 5 exact rfl)) | (apply Ok1.assign; exact rfl) | (apply Ok1.indexAddrA; (iterate 5 exact rfl); omega; omega) | (apply Ok1.pick_f; exact rfl; exact rfl) | (apply Ok1.not_t; exact rfl) | (apply Ok1.nilCheck; exact rfl))) | (apply R.isG; (apply R.guard_run; exact rfl; exact rfl)) | apply R.nil | (apply T.is; first | apply T.seq | apply T.region | apply T.skip | apply T.ret | (apply T.cond_t; exact rfl) | (apply T.cond_f; exact rfl)))
        (apply RetOk.t; exact rfl)
        refine ⟨_, ?_, gs, rfl, rfl, hg, rfl⟩
        (focus ((repeat' (first | exact Ext.one _ _ | exact Ext.all _ | apply Keep.cons | apply Keep.last | apply Ext.app)); done))
      · rw [if_neg hf, if_pos rfl]
        refine enterK (tb := tb) Tryz.func20 rfl Tryz.ntmps20 rfl ?_
        simp only [DSL]
        repeat' (first | (apply R.is1; first | (apply R.buildSlice0; (iterate 4 exact rfl); intro b0) | (apply R.isBin; (apply R.pure; exact rfl; first | (apply Ok1.lss_f; exact rfl; exact rfl; omega) | (apply Ok1.gtr_f; exact rfl; exact rfl; omega))) | (apply R.isCall; first | (apply R.callV (vs := [.slice p xs.length cap]); (iterate 3 exact rfl); intro w1 hw1; exact hse w1 hw1.chg) | (focus (apply R.appendRd (xs := g.xs) (v := iV) (sz := 1) (ov := some (b0, 0, [])) (n := 0) (old := []) (m := g.xs.length); (iterate 12 exact rfl); exact ⟨rfl, rfl⟩; (focus ((repeat' (exact Ext.one _ _)); done)); exact rfl; exact iV_len; exact rfl; (intro w1 hw1; exact Lg.rd hgo hw1 fun x hx => List.mem_cons_of_mem _ (List.mem_cons_of_mem _ (mem_LsL hm hx))); (focus (rw [fl_i]; exact iis_one _)); omega; intro ov1 hov1 hsome; rw [Nat.zero_add, List.nil_append, fl_i] at hov1; rw [Nat.zero_add, List.nil_append, fl_i])) | (focus (apply R.appendRd (xs := xs) (v := iV) (sz := 1) (ov := ov1) (n := g.xs.length) (old := iis g.xs) (m := xs.length); (iterate 12 exact rfl); exact hov1; (focus ((repeat' (exact Ext.here _ _)); done)); exact rfl; exact iV_len; exact rfl; (intro w1 hw1; exact hrd w1 hw1.chg); (focus (rw [fl_i]; exact iis_one _)); omega; intro ov2 hov2 hsome2; rw [fl_i, ← iis_app, ← hall] at hov2; rw [fl_i, ← iis_app, ← hall, slV_eq hov2])) | (apply R.callV (vs := [.slice (ovp ov2) (g.xs ++ xs).length (ovc ov2 (g.xs ++ xs).length)]); (iterate 3 exact rfl); intro w1 hw1; exact htw (ovp ov2) (ovc ov2 _) w1 (irdown hov2 hw1 (Ext.mem (by (focus ((repeat' (exact Ext.here _ _)); done)))))) | (apply R.pure; exact rfl; (apply Ok1.lenS; (iterate 3 exact rfl)))) | (apply R.pure; exact rfl; first | (apply Ok1.load; exact rfl; apply Ld.own1; exact rfl; exact rfl; (focus ((repeat' (first | exact At.head | apply At.tail)); done)); exact hcell) | (apply Ok1.move; exact rfl) | (apply Ok1.fieldAddr; (iterate 5 exact rfl)) | (apply Ok1.assign; exact rfl) | (apply Ok1.indexAddrA; (iterate 5 exact rfl); omega; omega) | (apply Ok1.pick_f; exact rfl; exact rfl) | (apply Ok1.not_t; exact rfl) | (apply Ok1.nilCheck; exact rfl))) | (apply R.is0; (apply R.store; (iterate 6 exact rfl); (focus ((repeat' (first | exact Upd.head | apply Upd.right)); done)); have h9 := hset ⟨ov2, g.xs ++ xs⟩; rw [Lg.v_eq (g := ⟨ov2, g.xs ++ xs⟩) hov2] at h9; exact h9)) | (apply R.isG; (apply R.guard_run; exact rfl; exact rfl)) | apply R.nil | (apply T.is; first | apply T.seq | apply T.region | apply T.skip | apply T.ret | (apply T.cond_f; exact rfl)))
        (apply RetOk.t; exact rfl)
        refine ⟨_, ?_, gs.set i ⟨ov2, g.xs ++ xs⟩, rfl, by rw [lgs, List.map_set]; rfl, hg.set i hov2 (by show (g.xs ++ xs).length ≤ 256; omega), rfl⟩
        rw [LsL_at hx, LsL_set _ (by rw [hg.len]; exact hi4)]
        simp only [Lg.L]
        (focus ((repeat' (first | exact Ext.one _ _ | exact Ext.here _ _ | exact Ext.all _ | apply Keep.cons | apply Keep.app | apply Keep.last | apply Ext.app)); done))
    · rw [decide_eq_true hnd] at htw
      rw [if_pos hnd, if_neg (by decide)]
      refine enterK (tb := tb) Tryz.func20 rfl Tryz.ntmps20 rfl ?_
      simp only [DSL]
      repeat' (first | (apply R.is1; first | (apply R.buildSlice0; (iterate 4 exact rfl); intro b0) | (apply R.isBin; (apply R.pure; exact rfl; first | (apply Ok1.lss_f; exact rfl; exact rfl; omega) | (apply Ok1.gtr_f; exact rfl; exact rfl; omega))) | (apply R.isCall; first | (apply R.callV (vs := [.slice p xs.length cap]); (iterate 3 exact rfl); intro w1 hw1; exact hse w1 hw1.chg) | (focus (apply R.appendRd (xs := g.xs) (v := iV) (sz := 1) (ov := some (b0, 0, [])) (n := 0) (old := []) (m := g.xs.length); (iterate 12 exact rfl); exact ⟨rfl, rfl⟩; (focus ((repeat' (exact Ext.one _ _)); done)); exact rfl; exact iV_len; exact rfl; (intro w1 hw1; exact Lg.rd hgo hw1 fun x hx => List.mem_cons_of_mem _ (List.mem_cons_of_mem _ (mem_LsL hm hx))); (focus (rw [fl_i]; exact iis_one _)); omega; intro ov1 hov1 hsome; rw [Nat.zero_add, List.nil_append, fl_i] at hov1; rw [Nat.zero_add, List.nil_append, fl_i])) | (focus (apply R.appendRd (xs := xs) (v := iV) (sz := 1) (ov := ov1) (n := g.xs.length) (old := iis g.xs) (m := xs.length); (iterate 12 exact rfl); exact hov1; (focus ((repeat' (exact Ext.here _ _)); done)); exact rfl; exact iV_len; exact rfl; (intro w1 hw1; exact hrd w1 hw1.chg); (focus (rw [fl_i]; exact iis_one _)); omega; intro ov2 hov2 hsome2; rw [fl_i, ← iis_app, ← hall] at hov2; rw [fl_i, ← iis_app, ← hall, slV_eq hov2])) | (apply R.callV (vs := [.slice (ovp ov2) (g.xs ++ xs).length (ovc ov2 (g.xs ++ xs).length)]); (iterate 3 exact rfl); intro w1 hw1; exact htw (ovp ov2) (ovc ov2 _) w1 (irdown hov2 hw1 (Ext.mem (by (focus ((repeat' (exact Ext.here _ _)); done))))))) | (apply R.pure; exact rfl; first | (apply Ok1.load; exact rfl; apply Ld.own1; exact rfl; exact rfl; (focus ((repeat' (first | exact At.head | apply At.tail)); done)); exact hcell) | (apply Ok1.move; exact rfl) | (apply Ok1.fieldAddr; (iterate 5 exact rfl)) | (apply Ok1.assign; exact rfl) | (apply Ok1.indexAddrA; (iterate 5 exact rfl); omega; omega) | (apply Ok1.pick_f; exact rfl; exact rfl) | (apply Ok1.not_t; exact rfl) | (apply Ok1.nilCheck; exact rfl))) | (apply R.isG; (apply R.guard_run; exact rfl; exact rfl)) | apply R.nil | (apply T.is; first | apply T.seq | apply T.region | apply T.skip | apply T.ret | (apply T.cond_t; exact rfl) | (apply T.cond_f; exact rfl)))
      (apply RetOk.t; exact rfl)
      refine ⟨_, ?_, gs, rfl, rfl, hg, rfl⟩
      (focus ((repeat' (first | exact Ext.one _ _ | exact Ext.all _ | apply Keep.cons | apply Keep.last | apply Ext.app)); done))
end Go.Proofs.YtligpachgcmkcaaGreat
set_option linter.unusedSimpArgs false
set_option linter.unusedVariables false
namespace Go.Proofs.YtligpachgcmkcaaGreat
open Go.RowKit Go.Shelf
set_option maxRecDepth 100000
end Go.Proofs.YtligpachgcmkcaaGreat
set_option linter.unusedSimpArgs false
set_option linter.unusedVariables false
namespace Go.Proofs.YtligpachgcmkcaaGreat
open Go.RowKit Go.Shelf
end Go.Proofs.YtligpachgcmkcaaGreat
set_option linter.unusedSimpArgs false
set_option linter.unusedVariables false
namespace Go.Proofs.YtligpachgcmkcaaGreat
open Go.RowKit Go.Shelf
set_option maxRecDepth 100000
end Go.Proofs.YtligpachgcmkcaaGreat
set_option linter.unusedSimpArgs false
set_option linter.unusedVariables false
namespace Go.Proofs.YtligpachgcmkcaaGreat
open Go.RowKit Go.Shelf
set_option maxRecDepth 100000
end Go.Proofs.YtligpachgcmkcaaGreat
set_option linter.unusedSimpArgs false
set_option linter.unusedVariables false
set_option linter.unusedSectionVars false
namespace Go.Proofs.YtligpachgcmkcaaGreat
open Go.RowKit Go.Shelf
def noDefers (ops : Array Oper) : Bool := ops.toList.all noDefer
theorem noDefers_get {ops : Array Oper} (h : noDefers ops = true) {i : Nat} {o : Oper} (hi : ops[i]? = some o) : noDefer o = true := by
  unfold noDefers at h
  rw [List.all_eq_true] at h
  exact h o (by rw [Array.mem_toList_iff]; exact Array.mem_of_getElem? hi)
theorem wpList_fen {ro : Option Nat} {X : Cx} {ops : Array Oper} {K : Env → Lst → Prop} : ∀ (l : List Oper) (a : Act) (w : World), l.all noDefer = true → wpList X.P ops (X.liftK K) l a w → wpListIn (fen ro) 0 X.P ops (X.liftK K) l a w
  | [], _, _, _, h => h
  | o :: r, a, w, hd, h => by
    rw [List.all_cons, Bool.and_eq_true] at hd
    unfold wpList at h
    unfold wpListIn
    by_cases hwd : Region.wanted o (yielded ops a.tmps) = true
    · rw [if_pos hwd] at h ⊢
      rcases h with h | ⟨_, a, w, h⟩
      · exact Oper.wp_fen hd.1 (Oper.wp_change (fun a w h => wpList_fen r a w hd.2 h) (fun c a w h => by cases h.1) (fun ⟨a, w, h⟩ => by cases h.1) h)
      · cases h.1
    · rw [if_neg hwd] at h ⊢
      exact ⟨fun f _ => fen_fn ro f, wpList_fen r _ _ hd.2 h⟩
theorem wpAny_fen {ro : Option Nat} {X : Cx} {ops : Array Oper} {K : Env → Lst → Prop} (hd : noDefers ops = true) : ∀ (fuel : Nat) (listed : Array Bool) (a : Act) (w : World), wpAny X.P .any ops (X.liftK K) fuel listed a w → wpAnyIn (fen ro) 0 X.P .any ops (X.liftK K) fuel listed a w
  | 0, _, _, _, h => h
  | fuel + 1, listed, a, w, h => by
    refine ⟨h.1, fun i hi => ?_⟩
    have h1 := h.2 i hi
    unfold wpOp at h1
    unfold wpOpIn
    cases ho : ops[i]? with
    | none => rw [ho] at h1; exact wpAny_fen hd fuel _ a w h1
    | some o =>
      rw [ho] at h1
      simp only at h1 ⊢
      by_cases hwd : Region.wanted o (yielded ops a.tmps) = true
      · rw [if_pos hwd] at h1 ⊢
        rcases h1 with h1 | ⟨_, a, w, h1⟩
        · exact Oper.wp_fen (noDefers_get hd ho) (Oper.wp_change (fun a w h => wpAny_fen hd fuel _ a w h) (fun c a w h => by cases h.1) (fun ⟨a, w, h⟩ => by cases h.1) h1)
        · cases h1.1
      · rw [if_neg hwd] at h1 ⊢
        exact ⟨fun f _ => fen_fn ro f, wpAny_fen hd fuel _ _ _ h1⟩
/-- The judgement over code within a round. -/
structure TI (X : Cx) (ro : Option Nat) (c : Code) (Q : Post) (σ : Env) (L : Lst) : Prop where
  run : ∀ a w, Mod X.n a σ → Hp X.w0 X.S L w → c.wpIn (fen ro) 0 X.P (X.lift Q) a w
section
variable {X : Cx} {ro : Option Nat} {x y c : Code} {Q : Post} {σ : Env} {L : Lst} {id : Nat} {ops : Array Oper}
theorem TI.region (hd : noDefers ops = true) (h : R X ops ops.toList (Q .normal) σ L) : TI X ro (.region id ops false) Q σ L :=
  ⟨fun a w ha hw => Go.wpIn_mono (wpIn_region_list (wpList_fen _ a w hd (h.run a w ha hw))) fun e a w ⟨he, σ, L, h1, h2, h3⟩ => ⟨σ, L, h1, h2, he ▸ h3⟩⟩
theorem TI.drawC (is : List Nat) (hn : is.Nodup) (hd : noDefers ops = true) (h : A X ops (pick L is) ops.size (Array.replicate ops.size false) (Q .normal) σ L) : TI X ro (.region id ops true) Q σ L :=
  ⟨fun a w ha hw => by
    have hw' := hw.step (Chg.drew [] w)
    exact Go.wpIn_mono (wpIn_region_any X.tb.mix (wpAny_fen hd _ _ _ _ (wpAny_of_C _ _ _ _ (h.run a _ ha hw' (hw'.pick hn))))) fun e a w ⟨he, σ, L, h1, h2, h3⟩ => ⟨σ, L, h1, h2, he ▸ h3⟩⟩
theorem TI.seq (h : TI X ro x (noQ fun σ L => TI X ro y Q σ L) σ L) : TI X ro (.seq x y) Q σ L :=
  ⟨fun a w ha hw => wpIn_seq (Go.wpIn_mono (h.run a w ha hw) fun e a w ⟨σ, L, h1, h2, h3⟩ => by
    cases e with
    | normal => exact h3.run a w h1 h2
    | _ => exact h3.elim)⟩
theorem TI.block {K : Env → Lst → Prop} (h : TI X ro c (noQ K) σ L) : TI X ro (.block id c) (noQ K) σ L :=
  ⟨fun a w ha hw => wpIn_block (Go.wpIn_mono (h.run a w ha hw) fun e a w ⟨σ, L, h1, h2, h3⟩ => by
    cases e with
    | normal => exact ⟨σ, L, h1, h2, h3⟩
    | _ => exact h3.elim)⟩
end
theorem RetOk.run {X : Cx} {fn : Func} {Rp : Value → Lst → Prop} {σ : Env} {L : Lst} {a : Act} {w : World} (h : RetOk X fn.results.toList Rp σ L) (ha : Mod X.n a σ) (hw : Hp X.w0 X.S L w) : ∃ v, (results fn a.tmps).run X.P w = .ok v w ∧ Rp v L := by
  obtain ⟨⟨vs, h4, h5⟩⟩ := h
  refine ⟨tup vs, ?_, h5⟩
  have := ResIs.run ha hw h4
  have h6 : (fn.results.mapM (m := Sem) fun | .tmp t => Pure.pure (a.tmps.getD t undef) | .cell b t => do loadVar t (← asAddr (a.tmps.getD b undef))).run X.P w = .ok vs.toArray w := by
    rw [← Array.toArray_toList (xs := fn.results), List.mapM_toArray]
    simp only [Sem.run_map]
    erw [this]
    rfl
  simp only [results, Sem.run_bind]
  erw [h6]
  simp only [Result.andThen_ok, Sem.run_pure]
  congr 1
  cases vs with
  | nil => rfl
  | cons v vs => cases vs <;> rfl
end Go.Proofs.YtligpachgcmkcaaGreat
set_option linter.unusedSimpArgs false
set_option linter.unusedVariables false
namespace Go.Proofs.YtligpachgcmkcaaGreat
open Go.RowKit Go.Shelf
set_option maxRecDepth 100000
theorem or8 (m c : Nat) (hm : m < 72057594037927936) (hc : c < 256) : orI .u64 ((m : Int) * 256) c = (m : Int) * 256 + c := by
  unfold orI
  have e1 : ((m : Int) * 256) = ((m * 256 : Nat) : Int) := by omega
  rw [e1, BitVec.ofInt_natCast, BitVec.ofInt_natCast, BitVec.toNat_or, BitVec.toNat_ofNat, BitVec.toNat_ofNat]
  have hb : IntKind.u64.bits = 64 := rfl
  rw [hb, Nat.mod_eq_of_lt (by omega), Nat.mod_eq_of_lt (by omega)]
  have h := Nat.shiftLeft_add_eq_or_of_lt (b := c) (i := 8) (by omega) m
  rw [Nat.shiftLeft_eq] at h
  rw [← h, wrap_u64 (by omega) (by omega)]
  omega
section
variable {X : Cx} {σ : Env} {L : Lst} {ty t : TypeId} {pos : String} {af : Array Edge} {x : Operand} {r re : TRow} {d : Option Nat} {g : Option (Nat × Bool)} {e : TypeId} {p : Option Addr} {n cap j : Nat}
theorem Ok1.pre3 {hi mx : Operand} (ht : X.tb.row t = some r) (hk : r.k = .slice e) (he : X.tb.row e = some re) (hx : ev σ x = some (.slice p n cap)) (hh : ev σ hi = some (.int .i64 j)) (hm : ev σ mx = some (.int .i64 j)) (h2 : j ≤ cap) :
    Ok1 X ⟨d, .slice t x none (some hi) (some mx), ty, pos, af, g⟩ σ L (.slice p j j) := .mk fun a w ha hw => by
  rw [slice_run (l := 0) (h := (j : Int)) (m := (j : Int)) X.tb ht hk he ha hx (by simp [bd, hm]) (by simp [bd, hh]) rfl (by omega) (by omega) (by omega) (by omega) (.inr (by simp))]
  have : p.map (·.add (0 * re.size)) = p := by cases p <;> simp [Addr.add]
  simp only [Int.toNat_zero, this, ite_self, Int.toNat_natCast, Nat.sub_zero]
end
/-- The number that bytes make, the highest first. -/
def beN (xs : List Int) : Int := xs.foldl (fun a c => a * 256 + c) 0
theorem be_snoc {xs : List Int} {i : Nat} {x : Int} (h : xs[i]? = some x) : beN (xs.take (i + 1)) = beN (xs.take i) * 256 + x := by
  unfold beN
  rw [List.take_add_one, h, List.foldl_append]
  rfl
theorem be_range : ∀ (n : Nat) (xs : List Int), xs.length = n → Byt xs → 0 ≤ beN xs ∧ beN xs < 256 ^ n := by
  intro n
  induction n with
  | zero => intro xs h _; rw [List.length_eq_zero_iff.1 h]; exact ⟨Int.le_refl _, by decide⟩
  | succ n ih =>
    intro xs h hb
    obtain ⟨x, hx⟩ : ∃ x, xs[n]? = some x := ⟨_, List.getElem?_eq_getElem (by omega)⟩
    have h1 := ih (xs.take n) (by rw [List.length_take]; omega) fun y hy => hb y (List.mem_of_mem_take hy)
    have h2 := be_snoc hx
    rw [List.take_of_length_le (by omega)] at h2
    have h3 := hb x (List.mem_of_getElem? hx)
    have h4 : (256 : Int) ^ (n + 1) = 256 ^ n * 256 := Int.pow_succ ..
    omega
/-- What is left to be read, and the first error. -/
structure Rs where
  q : Option Addr
  cap : Nat
  xs : List Int
  e : Int
def Rs.L (s : Rs) (br : Nat) : Lst := [(br, .cells ⟨[.slice s.q s.xs.length s.cap, .int .i64 s.e]⟩ 80 (0, 0))]
def Rs.fail (s : Rs) (e : Int) : Rs := if s.e = 0 then ⟨none, 0, [], e⟩ else s
def Rs.drop (s : Rs) (k : Nat) : Rs := ⟨sufP s.q s.cap k 1, s.cap - k, s.xs.drop k, s.e⟩
structure Rs.ok (s : Rs) (br : Nat) (w : World) : Prop where
  rd : RdSl w s.q u8V s.xs
  cap : s.xs.length ≤ s.cap
  off : s.xs ≠ [] → Off s.q [br]
  byt : Byt s.xs
  big : s.xs.length ≤ 1000000000
theorem rfail_ok (br : Nat) (s : Rs) (e : Int) (w : World) : CallM Tryz.prog 30 [.pointer (some ⟨br, 0, none⟩), .int .i64 e] (s.L br) w fun v L => v = .tuple #[] ∧ L = (s.fail e).L br := by
  by_cases h : s.e = 0
  · refine enterK (tb := tb) Tryz.func30 rfl Tryz.ntmps30 rfl ?_
    rw [Rs.fail, if_pos h]
    simp only [Rs.L, h]
    repeat' (first | (apply R.is1; first | (apply R.isBin; (apply R.pure; exact rfl; (apply Ok1.eql_t; exact rfl; exact rfl; omega))) | (apply R.pure; exact rfl; first | (apply Ok1.move; exact rfl) | (apply Ok1.fieldAddr; (iterate 5 exact rfl)) | (apply Ok1.load; exact rfl; (apply Ld.own1; exact rfl; exact rfl; exact At.head; exact rfl)) | (apply Ok1.nilCheck; exact rfl))) | (apply R.is0; (apply R.store; (iterate 6 exact rfl); exact Upd.head; exact rfl)) | apply R.nil | (apply T.is; first | apply T.seq | apply T.region | (apply T.cond_t; exact rfl)))
    (apply RetOk.n)
    exact ⟨_, by (focus ((repeat' (first | exact Keep.nil _ | exact Ext.one _ _ | apply Keep.cons)); done)), rfl, rfl⟩
  · refine enterK (tb := tb) Tryz.func30 rfl Tryz.ntmps30 rfl ?_
    rw [Rs.fail, if_neg h]
    simp only [Rs.L]
    repeat' (first | (apply R.is1; first | (apply R.isBin; (apply R.pure; exact rfl; (apply Ok1.eql_f; exact rfl; exact rfl; omega))) | (apply R.pure; exact rfl; first | (apply Ok1.move; exact rfl) | (apply Ok1.fieldAddr; (iterate 5 exact rfl)) | (apply Ok1.load; exact rfl; (apply Ld.own1; exact rfl; exact rfl; exact At.head; exact rfl)) | (apply Ok1.nilCheck; exact rfl))) | apply R.nil | (apply T.is; first | apply T.seq | apply T.region | apply T.skip | (apply T.cond_f; exact rfl)))
    (apply RetOk.n)
    exact ⟨_, by (focus ((repeat' (first | exact Keep.nil _ | exact Ext.one _ _ | apply Keep.cons)); done)), rfl, rfl⟩
theorem rtake_no (br : Nat) (s : Rs) (k : Nat) (h : s.e ≠ 0 ∨ s.xs.length < k) (w : World) : CallM Tryz.prog 68 [.pointer (some ⟨br, 0, none⟩), .int .i64 k] (s.L br) w fun v L => v = .slice none 0 0 ∧ L = (s.fail 4).L br := by
  have hf := fun w1 => rfail_ok br s 4 w1
  refine enterK (tb := tb) Tryz.func68 rfl Tryz.ntmps68 rfl ?_
  generalize (s.fail 4).L br = L4 at *
  by_cases he : s.e = 0
  · have hk : s.xs.length < k := h.resolve_left fun h => h he
    simp only [Rs.L, he] at hf ⊢
    repeat' (first | (apply R.is1; first | (apply R.isBin; (apply R.pure; exact rfl; first | (apply Ok1.gtr_t; exact rfl; exact rfl; omega) | (apply Ok1.neq_f; exact rfl; exact rfl; omega))) | (apply R.isCall; first | (apply R.callE (Li := [(br, .cells ⟨[.slice s.q s.xs.length s.cap, .int .i64 0]⟩ 80 (0, 0))]); (iterate 3 exact rfl); (focus ((repeat' (exact Ext.one _ _)); done)); intro w1 hw1; exact hf w1; rintro v Lo ⟨rfl, rfl⟩) | (apply R.pure; exact rfl; (apply Ok1.lenS; (iterate 3 exact rfl)))) | (apply R.pure; exact rfl; first | (apply Ok1.move; exact rfl) | (apply Ok1.fieldAddr; (iterate 5 exact rfl)) | (apply Ok1.load; exact rfl; (apply Ld.own1; exact rfl; exact rfl; exact At.head; exact rfl)) | (apply Ok1.assign; exact rfl) | (apply Ok1.pick_f; exact rfl; exact rfl) | (apply Ok1.nilCheck; exact rfl))) | (apply R.isG; (apply R.guard_run; exact rfl; exact rfl)) | apply R.nil | (apply T.is; first | apply T.seq | apply T.region | apply T.ret | (apply T.cond_t; exact rfl)))
    (apply RetOk.t; exact rfl)
    exact ⟨_, by (focus ((repeat' (first | exact Ext.here _ _ | apply Keep.last)); done)), rfl, rfl⟩
  · simp only [Rs.L] at hf ⊢
    repeat' (first | (apply R.is1; first | (apply R.isBin; (apply R.pure; exact rfl; (apply Ok1.neq_t; exact rfl; exact rfl; omega))) | (apply R.isCall; (apply R.callE (Li := [(br, .cells ⟨[.slice s.q s.xs.length s.cap, .int .i64 s.e]⟩ 80 (0, 0))]); (iterate 3 exact rfl); (focus ((repeat' (exact Ext.one _ _)); done)); intro w1 hw1; exact hf w1; rintro v Lo ⟨rfl, rfl⟩)) | (apply R.pure; exact rfl; first | (apply Ok1.move; exact rfl) | (apply Ok1.fieldAddr; (iterate 5 exact rfl)) | (apply Ok1.load; exact rfl; (apply Ld.own1; exact rfl; exact rfl; exact At.head; exact rfl)) | (apply Ok1.assign; exact rfl) | (apply Ok1.pick_t; exact rfl; exact rfl) | (apply Ok1.nilCheck; exact rfl))) | (apply R.isG; (apply R.guard_not; (iterate 3 exact rfl))) | apply R.nil | (apply T.is; first | apply T.seq | apply T.region | apply T.ret | (apply T.cond_t; exact rfl)))
    (apply RetOk.t; exact rfl)
    exact ⟨_, by (focus ((repeat' (first | exact Ext.here _ _ | apply Keep.last)); done)), rfl, rfl⟩
theorem rtake_ok (br : Nat) (s : Rs) (k : Nat) (he : s.e = 0) (hk : k ≤ s.xs.length) (hc : s.xs.length ≤ s.cap) (w : World) : CallM Tryz.prog 68 [.pointer (some ⟨br, 0, none⟩), .int .i64 k] (s.L br) w fun v L => v = .slice s.q k k ∧ L = (s.drop k).L br := by
  refine enterK (tb := tb) Tryz.func68 rfl Tryz.ntmps68 rfl ?_
  simp only [Rs.L, Rs.drop, he, List.length_drop]
  repeat' (first | (apply R.is1; first | (apply R.isBin; (apply R.pure; exact rfl; first | (apply Ok1.gtr_f; exact rfl; exact rfl; omega) | (apply Ok1.neq_f; exact rfl; exact rfl; omega))) | (apply R.isCall; (apply R.pure; exact rfl; (apply Ok1.lenS; (iterate 3 exact rfl)))) | (apply R.pure; exact rfl; first | (apply Ok1.pre3 (j := k); (iterate 6 exact rfl); omega) | (apply Ok1.sufR (i := k) (sz := 1); (iterate 6 exact rfl); exact hk; exact hc) | (apply Ok1.move; exact rfl) | (apply Ok1.fieldAddr; (iterate 5 exact rfl)) | (apply Ok1.load; exact rfl; (apply Ld.own1; exact rfl; exact rfl; exact At.head; exact rfl)) | (apply Ok1.assign; exact rfl) | (apply Ok1.pick_f; exact rfl; exact rfl) | (apply Ok1.nilCheck; exact rfl))) | (apply R.is0; (apply R.store; (iterate 6 exact rfl); exact Upd.head; exact rfl)) | (apply R.isG; (apply R.guard_run; exact rfl; exact rfl)) | apply R.nil | (apply T.is; first | apply T.seq | apply T.region | apply T.skip | apply T.ret | (apply T.cond_f; exact rfl)))
  (apply RetOk.t; exact rfl)
  exact ⟨_, by (focus ((repeat' (first | exact Keep.nil _ | exact Ext.one _ _ | apply Keep.cons)); done)), rfl, rfl⟩
/-- The next number of k bytes. -/
def Rs.num (s : Rs) (k : Nat) : Int × Bool × Rs :=
  if s.e ≠ 0 ∨ s.xs.length < k then (0, false, s.fail 4) else if beN (s.xs.take k) ≤ 9223372036854775807 then (beN (s.xs.take k), true, s.drop k) else (0, false, (s.drop k).fail 3)
theorem pw8 {z k : Nat} (hz : z ≤ 3) (hk : pw z = k) : 1 ≤ k ∧ k ≤ 8 ∧ IntKind.i64.wrap (1 * pw (z : Int).toNat) = k := by
  have : z = 0 ∨ z = 1 ∨ z = 2 ∨ z = 3 := by omega
  rcases this with rfl | rfl | rfl | rfl
  · have : k = 1 := by have h : pw 0 = 1 := rfl; omega
    subst this; exact ⟨by decide, by decide, by decide⟩
  · have : k = 2 := by have h : pw 1 = 2 := rfl; omega
    subst this; exact ⟨by decide, by decide, by decide⟩
  · have : k = 4 := by have h : pw 2 = 4 := rfl; omega
    subst this; exact ⟨by decide, by decide, by decide⟩
  · have : k = 8 := by have h : pw 3 = 8 := rfl; omega
    subst this; exact ⟨by decide, by decide, by decide⟩
theorem rnumber_ok (br : Nat) (s : Rs) (z k : Nat) (hz : z ≤ 3) (hk : pw z = k) (w : World) (hs : s.ok br w) : CallM Tryz.prog 67 [.pointer (some ⟨br, 0, none⟩), .int .i64 z] (s.L br) w fun v L => v = .tuple #[.int .i64 (s.num k).1, .bool (s.num k).2.1] ∧ L = (s.num k).2.2.L br := by
  obtain ⟨hk1, hk8, hwr⟩ := pw8 hz hk
  have hwd := width_ok (z : Int) k (by omega) (by omega) hwr
  refine enterK (tb := tb) Tryz.func67 rfl Tryz.ntmps67 rfl ?_
  by_cases h : s.e ≠ 0 ∨ s.xs.length < k
  · have ht := fun w1 => rtake_no br s k h w1
    rw [Rs.num, if_pos h]
    simp only
    generalize s.L br = L0 at *
    generalize (s.fail 4).L br = L4 at *
    repeat' (first | (apply R.is1; first | (apply R.isBin; (apply R.pure; exact rfl; first | (apply Ok1.lss_f; exact rfl; exact rfl; omega) | (apply Ok1.gtr_f; exact rfl; exact rfl; omega))) | (apply R.isCall; first | apply R.callP rfl rfl rfl hwd | (apply R.callE (Li := L0); (iterate 3 exact rfl); (focus ((repeat' (exact Ext.all _)); done)); intro w1 hw1; exact ht w1; rintro v Lo ⟨rfl, rfl⟩) | (apply R.pure; exact rfl; (apply Ok1.lenS; (iterate 3 exact rfl)))) | (apply R.pure; exact rfl; first | (apply Ok1.move; exact rfl) | (apply Ok1.assign; exact rfl) | (apply Ok1.convI64; (iterate 5 exact rfl); omega; omega))) | apply R.nil | (apply T.is; first | apply T.rounds 1 | apply T.seq | apply T.region | apply T.block | apply T.skip | apply T.exit | apply T.ret | (apply T.cond_f; exact rfl)))
    (apply RetOk.tt; exact rfl; exact rfl)
    exact ⟨_, by (focus ((repeat' (first | exact Ext.here _ _ | apply Keep.last)); done)), rfl, rfl⟩
  · have he : s.e = 0 := Classical.byContradiction fun h1 => h (.inl h1)
    have hkl : k ≤ s.xs.length := Nat.le_of_not_lt fun h1 => h (.inr h1)
    have ht := fun w1 => rtake_ok br s k he hkl hs.cap w1
    have hne : s.xs ≠ [] := by intro h0; rw [h0] at hkl; simp at hkl; omega
    have hoff := hs.off hne
    have hpre := hs.rd.pre u8V_len k
    have hbt : Byt (s.xs.take k) := fun y hy => hs.byt y (List.mem_of_mem_take hy)
    have hlt : (s.xs.take k).length = k := by rw [List.length_take]; omega
    have hbe : ∀ i ≤ k, 0 ≤ beN ((s.xs.take k).take i) ∧ beN ((s.xs.take k).take i) < 256 ^ i := fun i hi => be_range i _ (by rw [List.length_take]; omega) fun y hy => hbt y (List.mem_of_mem_take hy)
    rw [Rs.num, if_neg h]
    obtain ⟨q, hq⟩ : ∃ q, q = s.q := ⟨_, rfl⟩
    rw [← hq] at ht hoff hpre
    have hfl := fun w1 => rfail_ok br (s.drop k) 3 w1
    obtain ⟨S, hS⟩ : ∃ S, S = blks (s.L br) := ⟨_, rfl⟩
    have hoff : Off q S := by rw [hS]; exact hoff
    rw [← hS]
    generalize s.L br = L0 at *
    generalize s.drop k = s1 at *
    generalize s.xs.take k = ys at *
    repeat' (first | (apply R.is1; first | (apply R.isCall; first | apply R.callP rfl rfl rfl hwd | (apply R.callE (Li := L0); (iterate 3 exact rfl); (focus ((repeat' (exact Ext.all _)); done)); intro w1 hw1; exact ht w1; rintro v Lo ⟨rfl, rfl⟩) | (apply R.pure; exact rfl; (apply Ok1.lenS; (iterate 3 exact rfl)))) | (apply R.pure; exact rfl; first | (apply Ok1.move; exact rfl) | (apply Ok1.assign; exact rfl))) | apply R.nil | (apply T.is; first | apply T.seq | apply T.region | apply T.block))
    apply T.loopK (α := Nat) (I := fun i => i ≤ k) (σi := fun i => [(0, .pointer (some ⟨br, 0, none⟩)), (6, .slice q k k), (7, .int .u64 (beN (ys.take i))), (14, .slice q k k), (15, .int .i64 k), (16, .int .i64 i)]) (Li := fun _ => s1.L br) (μ := fun i => k - i) (i0 := 0)
    · exact Nat.zero_le _
    · exact ⟨rfl, rfl, rfl, rfl, rfl, rfl, trivial⟩
    · (focus ((repeat' (first | exact Keep.nil _ | exact Ext.one _ _ | apply Keep.cons)); done))
    · intro i hi
      have hb := hbe i hi
      rcases Nat.lt_or_ge i k with hlt | hge
      · obtain ⟨y, hy⟩ : ∃ y, ys[i]? = some y := ⟨_, List.getElem?_eq_getElem (by omega)⟩
        obtain ⟨b, o, hpe, H⟩ := hpre.at hy
        replace H := H 1 u8V_len
        have hyb := hbt y (List.mem_of_getElem? hy)
        have hpw : (256 : Int) ^ i ≤ 72057594037927936 := by
          have : i = 0 ∨ i = 1 ∨ i = 2 ∨ i = 3 ∨ i = 4 ∨ i = 5 ∨ i = 6 ∨ i = 7 := by omega
          rcases this with rfl | rfl | rfl | rfl | rfl | rfl | rfl | rfl <;> decide
        have hor : orI .u64 (IntKind.u64.wrap (beN (ys.take i) * pw (Int.toNat 8))) y = beN (ys.take (i + 1)) := by
          rw [be_snoc hy]
          obtain ⟨m, hm⟩ : ∃ m : Nat, beN (ys.take i) = m := ⟨(beN (ys.take i)).toNat, by omega⟩
          obtain ⟨c, hc⟩ : ∃ c : Nat, y = c := ⟨y.toNat, by omega⟩
          rw [hm, hc, show pw (Int.toNat 8) = 256 from rfl, wrap_u64 (by omega) (by omega)]
          exact or8 m c (by omega) (by omega)
        repeat' (first | (apply R.is1; first | (apply R.isBin; (apply R.pure; exact rfl; first | (apply Ok1.shl; exact rfl; exact rfl; omega; exact Nat.le_of_ble_eq_true rfl; exact rfl) | (apply Ok1.orK; exact rfl; exact rfl) | (apply Ok1.add64; exact rfl; exact rfl; omega; omega) | (apply Ok1.lss_t; exact rfl; exact rfl; omega))) | (apply R.pure; exact rfl; first | (apply Ok1.indexAddrP; (iterate 4 exact rfl); exact hpe; exact rfl; omega; omega) | (apply Ok1.load; exact rfl; apply Ld.row1 (f := 0) H; exact rfl; exact hoff _ hpe; (iterate 3 exact rfl)) | (apply Ok1.move; exact rfl) | (apply Ok1.assign; exact rfl) | (apply Ok1.convU64; (iterate 5 exact rfl); omega; omega))) | apply R.nil | (apply T.is; first | apply T.seq | apply T.region | apply T.block | apply T.skip | (apply T.cond_t; exact rfl)))
        refine ⟨i + 1, by omega, by omega, ⟨rfl, rfl, ?_, rfl, rfl, rfl, trivial⟩, by (focus ((repeat' (first | exact Keep.nil _ | exact Ext.one _ _ | apply Keep.cons)); done))⟩
        rw [← hor]; rfl
      · have hik : i = k := by omega
        subst hik
        rw [List.take_of_length_le (by omega)] at hb ⊢
        by_cases hmx : beN ys ≤ 9223372036854775807
        · rw [if_pos hmx]
          repeat' (first | (apply R.is1; first | (apply R.isBin; (apply R.pure; exact rfl; first | (apply Ok1.lss_f; exact rfl; exact rfl; omega) | (apply Ok1.gtr_t; exact rfl; exact rfl; omega) | (apply Ok1.gtr_f; exact rfl; exact rfl; omega))) | (apply R.isCall; (apply R.pure; exact rfl; (apply Ok1.lenS; (iterate 3 exact rfl)))) | (apply R.pure; exact rfl; first | (apply Ok1.move; exact rfl) | (apply Ok1.assign; exact rfl) | (apply Ok1.convI64; (iterate 5 exact rfl); omega; omega))) | apply R.nil | (apply T.is; first | apply T.seq | apply T.region | apply T.skip | apply T.exit | apply T.ret | (apply T.cond_f; exact rfl)))
          (apply RetOk.tt; exact rfl; exact rfl)
          exact ⟨_, by (focus ((repeat' (first | exact Keep.nil _ | exact Ext.one _ _ | apply Keep.cons)); done)), rfl, rfl⟩
        · rw [if_neg hmx]
          repeat' (first | (apply R.is1; first | (apply R.isBin; (apply R.pure; exact rfl; first | (apply Ok1.lss_f; exact rfl; exact rfl; omega) | (apply Ok1.gtr_t; exact rfl; exact rfl; omega))) | (apply R.isCall; (apply R.callE (Li := s1.L br); (iterate 3 exact rfl); (focus ((repeat' (exact Ext.one _ _)); done)); intro w1 hw1; exact hfl w1; rintro v Lo ⟨rfl, rfl⟩)) | (apply R.pure; exact rfl; first | (apply Ok1.move; exact rfl) | (apply Ok1.assign; exact rfl))) | apply R.nil | (apply T.is; first | apply T.seq | apply T.region | apply T.exit | apply T.ret | (apply T.cond_t; exact rfl) | (apply T.cond_f; exact rfl)))
          (apply RetOk.tt; exact rfl; exact rfl)
          exact ⟨_, by (focus ((repeat' (first | exact Keep.nil _ | exact Ext.one _ _ | apply Keep.cons)); done)), rfl, rfl⟩
/-- A field of a number. -/
def Rs.get (s : Rs) (z k : Nat) : List Value := if (s.num k).2.1 = true then fldV z (s.num k).1 else fldV 0 0
theorem rget_ok (br : Nat) (s : Rs) (z k : Nat) (hz : z ≤ 3) (hk : pw z = k) (w : World) (hs : s.ok br w) : CallM Tryz.prog 47 [.pointer (some ⟨br, 0, none⟩), .int .i64 z] (s.L br) w fun v L => v = .agg ⟨s.get z k⟩ ∧ L = (s.num k).2.2.L br := by
  have hn := fun w1 h1 => rnumber_ok br s z k hz hk w1 h1
  refine enterK (tb := tb) Tryz.func47 rfl Tryz.ntmps47 rfl ?_
  have hin : ∀ w1 S, Chg S w w1 → S = blks (s.L br) → s.ok br w1 := fun w1 S hc hS => ⟨hs.rd.chg' hc (fun h => hS ▸ hs.off h), hs.cap, hs.off, hs.byt, hs.big⟩
  rw [Rs.get]
  generalize s.num k = r at *
  obtain ⟨v1, v2, s'⟩ := r
  simp only at hn ⊢
  obtain ⟨S, hS⟩ : ∃ S, S = blks (s.L br) := ⟨_, rfl⟩
  rw [← hS]
  generalize s.L br = L0 at *
  cases v2 with
  | true =>
    repeat' (first | (apply R.is1; first | (apply R.isBin; (apply R.pure; exact rfl; first | (apply Ok1.lss_t; exact rfl; exact rfl; omega) | (apply Ok1.lss_f; exact rfl; exact rfl; omega) | (apply Ok1.gtr_f; exact rfl; exact rfl; omega) | (apply Ok1.eqlP; (iterate 5 exact rfl)))) | (apply R.isCall; (apply R.callE (Li := L0); (iterate 3 exact rfl); (focus ((repeat' (first | exact Ext.all _ | apply Ext.cons)); done)); intro w1 hw1; exact hn w1 (hin w1 _ hw1.chg hS); rintro v Lo ⟨rfl, rfl⟩)) | (apply R.pure; exact rfl; first | (apply Ok1.move; exact rfl) | (apply Ok1.fieldAddr; (iterate 5 exact rfl)) | (apply Ok1.assign; exact rfl) | (apply Ok1.build; (iterate 5 exact rfl)) | (apply Ok1.extract; exact rfl; exact rfl) | (apply Ok1.pick_f; exact rfl; exact rfl) | (apply Ok1.not_t; exact rfl) | (apply Ok1.nilCheck; exact rfl)) | (apply R.alloc; (iterate 3 exact rfl); intro)) | (apply R.is0; (apply R.store; (iterate 6 exact rfl); (focus ((repeat' (first | exact Upd.head | apply Upd.tail)); done)); exact rfl)) | (apply R.isG; (apply R.guard_run; exact rfl; exact rfl)) | apply R.nil | (apply T.is; first | apply T.seq | apply T.region | apply T.block | apply T.skip | apply T.ret | (apply T.cond_t; exact rfl) | (apply T.cond_f; exact rfl)))
    (apply RetOk.c; exact rfl; ((apply Ld.ownk; exact rfl; exact rfl; (focus ((repeat' (first | exact At.head | apply At.tail)); done)); exact rfl)))
    exact ⟨_, by (focus ((repeat' (first | exact Keep.nil _ | exact Ext.one _ _ | apply Keep.cons)); done)), rfl, rfl⟩
  | false =>
    repeat' (first | (apply R.is1; first | (apply R.isBin; (apply R.pure; exact rfl; first | (apply Ok1.lss_t; exact rfl; exact rfl; omega) | (apply Ok1.lss_f; exact rfl; exact rfl; omega) | (apply Ok1.gtr_f; exact rfl; exact rfl; omega) | (apply Ok1.eqlP; (iterate 5 exact rfl)))) | (apply R.isCall; (apply R.callE (Li := L0); (iterate 3 exact rfl); (focus ((repeat' (first | exact Ext.all _ | apply Ext.cons)); done)); intro w1 hw1; exact hn w1 (hin w1 _ hw1.chg hS); rintro v Lo ⟨rfl, rfl⟩)) | (apply R.pure; exact rfl; first | (apply Ok1.move; exact rfl) | (apply Ok1.fieldAddr; (iterate 5 exact rfl)) | (apply Ok1.assign; exact rfl) | (apply Ok1.build; (iterate 5 exact rfl)) | (apply Ok1.extract; exact rfl; exact rfl) | (apply Ok1.pick_f; exact rfl; exact rfl) | (apply Ok1.not_f; exact rfl) | (apply Ok1.nilCheck; exact rfl)) | (apply R.alloc; (iterate 3 exact rfl); intro)) | (apply R.is0; (apply R.store; (iterate 6 exact rfl); (focus ((repeat' (first | exact Upd.head | apply Upd.tail)); done)); exact rfl)) | (apply R.isG; (apply R.guard_run; exact rfl; exact rfl)) | apply R.nil | (apply T.is; first | apply T.seq | apply T.region | apply T.block | apply T.ret | (apply T.cond_t; exact rfl) | (apply T.cond_f; exact rfl)))
    (apply RetOk.c; exact rfl; ((apply Ld.ownk; exact rfl; exact rfl; (focus ((repeat' (first | exact At.head | apply At.tail)); done)); exact rfl)))
    exact ⟨_, by (focus ((repeat' (first | exact Keep.nil _ | exact Ext.one _ _ | apply Keep.cons)); done)), rfl, rfl⟩
theorem rnum_ok (br : Nat) (s : Rs) (z k : Nat) (hz : z ≤ 3) (hk : pw z = k) (w : World) (hs : s.ok br w) : CallM Tryz.prog 31 [.pointer (some ⟨br, 0, none⟩), .int .i64 z] (s.L br) w fun v L => v = .int .i64 (s.num k).1 ∧ L = (s.num k).2.2.L br := by
  have hn := fun w1 h1 => rget_ok br s z k hz hk w1 h1
  have hin : ∀ w1 S, Chg S w w1 → S = blks (s.L br) → s.ok br w1 := fun w1 S hc hS => ⟨hs.rd.chg' hc (fun h => hS ▸ hs.off h), hs.cap, hs.off, hs.byt, hs.big⟩
  have h0 : (s.num k).2.1 = false → (s.num k).1 = 0 := by
    unfold Rs.num
    split
    · exact fun _ => rfl
    · split
      · intro h; cases h
      · exact fun _ => rfl
  have hv : ∃ v0, s.get z k = [v0, .int .i64 (s.num k).1, .slice none 0 0] := by
    unfold Rs.get fldV
    cases h : (s.num k).2.1 with
    | true => exact ⟨_, rfl⟩
    | false => rw [h0 h]; exact ⟨_, rfl⟩
  obtain ⟨v0, hv⟩ := hv
  rw [hv] at hn
  refine enterK (tb := tb) Tryz.func31 rfl Tryz.ntmps31 rfl ?_
  generalize s.num k = r at *
  obtain ⟨v1, v2, s'⟩ := r
  simp only at hn ⊢
  obtain ⟨S, hS⟩ : ∃ S, S = blks (s.L br) := ⟨_, rfl⟩
  rw [← hS]
  generalize s.L br = L0 at *
  repeat' (first | (apply R.is1; first | (apply R.isBin; (apply R.pure; exact rfl; first | (apply Ok1.eql_f; exact rfl; exact rfl; omega) | (apply Ok1.neqP; (iterate 5 exact rfl)))) | (apply R.isCall; (apply R.callE (Li := L0); (iterate 3 exact rfl); (focus ((repeat' (exact Ext.all _)); done)); intro w1 hw1; exact hn w1 (hin w1 _ hw1.chg hS); rintro v Lo ⟨rfl, rfl⟩)) | (apply R.pure; exact rfl; first | (apply Ok1.move; exact rfl) | (apply Ok1.assign; exact rfl) | (apply Ok1.pick_t; exact rfl; exact rfl) | (apply Ok1.field1; (iterate 7 exact rfl)))) | (apply R.isG; (apply R.guard_run; exact rfl; exact rfl)) | apply R.nil | (apply T.is; first | apply T.seq | apply T.region | apply T.skip | apply T.ret | (apply T.cond_f; exact rfl)))
  (apply RetOk.t; exact rfl)
  exact ⟨_, by (focus ((repeat' (first | exact Keep.nil _ | exact Ext.one _ _ | apply Keep.cons)); done)), rfl, rfl⟩
theorem rerr_ok (br : Nat) (s : Rs) (w : World) (hb : w.heap[br]? = some (.cells ⟨[.slice s.q s.xs.length s.cap, .int .i64 s.e]⟩ 80 (0, 0))) : CallW Tryz.prog 32 [.pointer (some ⟨br, 0, none⟩)] w fun v _ => v = .int .i64 s.e := by
  refine enterW (tb := tb) Tryz.func32 rfl Tryz.ntmps32 rfl ?_
  repeat' (first | (apply R.is1; first | (apply R.isBin; (apply R.pure; exact rfl; (apply Ok1.eqlP; (iterate 5 exact rfl)))) | (apply R.pure; exact rfl; first | (apply Ok1.move; exact rfl) | (apply Ok1.fieldAddr; (iterate 5 exact rfl)) | (apply Ok1.load; exact rfl; (apply Ld.blk1; exact rfl; exact rfl; assumption; (exact List.not_mem_nil); exact rfl)) | (apply Ok1.assign; exact rfl) | (apply Ok1.nilCheck; exact rfl))) | apply R.nil | (apply T.is; first | apply T.seq | apply T.region | apply T.skip | apply T.ret | (apply T.cond_f; exact rfl)))
  (apply RetOk.t; exact rfl)
  rfl
theorem rleft_ok (br : Nat) (s : Rs) (w : World) (hb : w.heap[br]? = some (.cells ⟨[.slice s.q s.xs.length s.cap, .int .i64 s.e]⟩ 80 (0, 0))) : CallW Tryz.prog 17 [.pointer (some ⟨br, 0, none⟩)] w fun v _ => v = .int .i64 s.xs.length := by
  refine enterW (tb := tb) Tryz.func17 rfl Tryz.ntmps17 rfl ?_
  repeat' (first | (apply R.is1; first | (apply R.isBin; (apply R.pure; exact rfl; (apply Ok1.eqlP; (iterate 5 exact rfl)))) | (apply R.isCall; (apply R.pure; exact rfl; (apply Ok1.lenS; (iterate 3 exact rfl)))) | (apply R.pure; exact rfl; first | (apply Ok1.move; exact rfl) | (apply Ok1.fieldAddr; (iterate 5 exact rfl)) | (apply Ok1.load; exact rfl; (apply Ld.blk1; exact rfl; exact rfl; assumption; (exact List.not_mem_nil); exact rfl)) | (apply Ok1.assign; exact rfl) | (apply Ok1.nilCheck; exact rfl))) | apply R.nil | (apply T.is; first | apply T.seq | apply T.region | apply T.skip | apply T.ret | (apply T.cond_f; exact rfl)))
  (apply RetOk.t; exact rfl)
  rfl
/-- A reader whose bytes lie in known blocks. -/
structure RsO (s : Rs) (M : Lst) : Prop where
  rd : ∀ (w0 w : World) (S : List Nat) (L' : Lst), Hp w0 S L' w → (∀ z ∈ M, z ∈ L') → RdSl w s.q u8V s.xs
  adr : s.xs ≠ [] → ∃ b o, s.q = some ⟨b, o, none⟩ ∧ b ∈ blks M
  cap : s.xs.length ≤ s.cap
  byt : Byt s.xs
  big : s.xs.length ≤ 1000000000
theorem RsO.ok {s : Rs} {M : Lst} (h : RsO s M) {br : Nat} {w0 w : World} {S : List Nat} {L Lr : Lst} (hw : Hp w0 S L w) (he : Ext L (s.L br) Lr) (hin : ∀ z ∈ M, z ∈ Lr) : s.ok br w := by
  refine ⟨h.rd _ _ _ _ hw fun z hz => he.perm.subset (List.mem_append_right _ (hin z hz)), h.cap, fun hne a ha => ?_, h.byt, h.big⟩
  obtain ⟨b, o, hp, hb⟩ := h.adr hne
  rw [hp] at ha
  cases ha
  obtain ⟨z, hz, hze⟩ := List.mem_map.1 hb
  obtain ⟨zb, zo⟩ := z
  simp only at hze
  subst hze
  exact RdSl.off hw he (hin _ hz)
theorem RsO.fail {s : Rs} {M : Lst} (h : RsO s M) (e : Int) : RsO (s.fail e) M := by
  unfold Rs.fail
  split
  · exact ⟨fun _ _ _ _ _ _ => .inl rfl, (fun h => absurd rfl h), Nat.zero_le _, (fun y hy => by cases hy), Nat.zero_le _⟩
  · exact h
theorem RsO.drop {s : Rs} {M : Lst} (h : RsO s M) {k : Nat} (hk : k ≤ s.xs.length) : RsO (s.drop k) M := by
  refine ⟨fun w0 w S L' hw hin => (h.rd w0 w S L' hw hin).suf u8V_len hk h.cap, fun hne => ?_, ?_, fun y hy => h.byt y (List.mem_of_mem_drop hy), ?_⟩
  · have h1 : s.xs ≠ [] := by intro h0; apply hne; simp [Rs.drop, h0]
    obtain ⟨b, o, hp, hb⟩ := h.adr h1
    by_cases hc : s.cap = k
    · exfalso; apply hne; simp only [Rs.drop]; exact List.drop_of_length_le (by have := h.cap; omega)
    · exact ⟨b, o + k * 1, by simp [Rs.drop, sufP, hc, hp, Addr.add_none], hb⟩
  · have := h.cap; simp only [Rs.drop, List.length_drop]; omega
  · have := h.big; simp only [Rs.drop, List.length_drop]; omega
theorem RsO.num {s : Rs} {M : Lst} (h : RsO s M) (k : Nat) : RsO (s.num k).2.2 M := by
  unfold Rs.num
  split
  · exact h.fail 4
  · rename_i hn
    have hk : k ≤ s.xs.length := Nat.le_of_not_lt fun h1 => hn (.inr h1)
    split
    · exact h.drop hk
    · exact (h.drop hk).fail 3
theorem ovc_leR {n : Nat} {ov : Ov} {xs : List Value} (h : OvOk 1 ov n xs) : n ≤ ovc ov n := by
  unfold ovc
  cases ov with
  | none => have := h.2; simp only at this ⊢; omega
  | some q => simp only; omega
theorem rnewr_ok (p : Option Addr) (n cap : Nat) (xs : List Int) (hn : n = xs.length) (hbig : n ≤ 1000000000) (hb : Byt xs) (w : World) (hp : RdSl w p u8V xs) :
    CallM Tryz.prog 13 [.slice p n cap] [] w fun v L => ∃ br s M, v = .pointer (some ⟨br, 0, none⟩) ∧ s.xs = (if n ≤ 1024 then xs else []) ∧ s.e = (if n ≤ 1024 then 0 else 2) ∧ RsO s M ∧ L = s.L br ++ M := by
  have hcl := fun w1 (hc : Chg [] w w1) => clone_ok p n cap xs hn hbig w1 (hp.chg' hc (fun _ => Off.nil _))
  subst hn
  have hro : ∀ ov, OvOk 1 ov xs.length (u8s xs) → RsO ⟨ovp ov, ovc ov xs.length, xs, 0⟩ (blkL 5 ov (u8s xs)) := fun ov hov => by
    rw [← fl_u8] at hov ⊢
    refine ⟨fun w0 w S L' hw hin => RdSl.own' hw hin hov u8V_len, fun hne => ?_, ?_, hb, hbig⟩
    · cases ov with
      | none => exact absurd (List.eq_nil_of_length_eq_zero hov.2) hne
      | some q => exact ⟨_, _, rfl, by simp [blks, blkL]⟩
    · exact ovc_leR hov
  refine enterK (tb := tb) Tryz.func13 rfl Tryz.ntmps13 rfl ?_
  by_cases hl : xs.length ≤ 1024
  · repeat' (first | (apply R.is1; first | (apply R.isBin; (apply R.pure; exact rfl; (apply Ok1.gtr_f; exact rfl; exact rfl; omega))) | (apply R.isCall; first | (apply R.callE; (iterate 3 exact rfl); exact Ext.none _; intro w1 hw1; exact hcl w1 hw1.chg; rintro v Lo ⟨ov, hov, hsome, rfl, rfl⟩; rw [slV_eq hov]) | (apply R.pure; exact rfl; (apply Ok1.lenS; (iterate 3 exact rfl)))) | (apply R.pure; exact rfl; first | (apply Ok1.move; exact rfl) | (apply Ok1.assign; exact rfl) | (apply Ok1.build; (iterate 5 exact rfl))) | (apply R.box; (iterate 3 exact rfl); intro)) | apply R.nil | (apply T.is; first | apply T.seq | apply T.region | apply T.skip | apply T.ret | (apply T.cond_f; exact rfl)))
    (apply RetOk.t; exact rfl)
    refine ⟨_, ?_, _, ⟨ovp ov, ovc ov xs.length, xs, 0⟩, _, rfl, by simp only [if_pos hl], by simp only [if_pos hl], hro ov hov, rfl⟩
    simp only [Rs.L, List.append_nil, List.cons_append, List.nil_append]
    (focus ((repeat' (first | exact Ext.one _ _ | exact Ext.all _ | apply Keep.cons | apply Keep.last)); done))
  · repeat' (first | (apply R.is1; first | (apply R.isBin; (apply R.pure; exact rfl; (apply Ok1.gtr_t; exact rfl; exact rfl; omega))) | (apply R.isCall; first | (apply R.callE (vs := [.slice p xs.length cap]); (iterate 3 exact rfl); exact Ext.none _; intro w1 hw1; exact hcl w1 hw1.chg; rintro v Lo ⟨ov, hov, hsome, rfl, rfl⟩; rw [slV_eq hov]) | (apply R.callE (Li := [(_, .cells ⟨[.slice (ovp ov) xs.length (ovc ov xs.length), .int .i64 0]⟩ 80 (0, 0))]); (iterate 3 exact rfl); (focus ((repeat' (exact Ext.one _ _)); done)); intro w1 hw1; exact rfail_ok _ ⟨ovp ov, ovc ov xs.length, xs, 0⟩ 2 w1; rintro v Lo ⟨rfl, rfl⟩) | (apply R.pure; exact rfl; (apply Ok1.lenS; (iterate 3 exact rfl)))) | (apply R.pure; exact rfl; first | (apply Ok1.move; exact rfl) | (apply Ok1.fieldAddr; (iterate 5 exact rfl)) | (apply Ok1.assign; exact rfl) | (apply Ok1.build; (iterate 5 exact rfl)) | (apply Ok1.nilCheck; exact rfl)) | (apply R.box; (iterate 3 exact rfl); intro)) | apply R.nil | (apply T.is; first | apply T.seq | apply T.region | apply T.ret | (apply T.cond_t; exact rfl)))
    (apply RetOk.t; exact rfl)
    refine ⟨_, ?_, _, (⟨ovp ov, ovc ov xs.length, xs, 0⟩ : Rs).fail 2, _, rfl, by simp only [if_neg hl, Rs.fail, if_pos], by simp only [if_neg hl, Rs.fail, if_pos], (hro ov hov).fail 2, rfl⟩
    simp only [Rs.L, List.append_nil, List.cons_append, List.nil_append]
    (focus ((repeat' (first | exact Ext.one _ _ | exact Ext.all _ | apply Keep.cons | apply Keep.last)); done))
end Go.Proofs.YtligpachgcmkcaaGreat
set_option linter.unusedSimpArgs false
set_option linter.unusedVariables false
namespace Go.Proofs.YtligpachgcmkcaaGreat
open Go.RowKit Go.Shelf
set_option maxRecDepth 100000
theorem Rs.num_bad {s : Rs} (h : s.e ≠ 0) (k : Nat) : s.num k = (0, false, s) := by
  unfold Rs.num
  rw [if_pos (.inl h), Rs.fail, if_neg h]
theorem RsO.ok' {s : Rs} {M : Lst} (h : RsO s M) (br : Nat) : ∀ (w0 w : World) (S : List Nat) (L Lr : Lst), Hp w0 S L w → Ext L (s.L br) Lr → (∀ z ∈ M, z ∈ Lr) → s.ok br w := fun _ _ _ _ _ a b c => h.ok a b c
theorem u2 : pw 1 = 2 := rfl
theorem suf0 (p : Option Addr) (c : Nat) : sufP p c 0 1 = p := by
  unfold sufP
  split
  · rfl
  · cases p <;> simp [Addr.add]
theorem DlO.own {d : Dl} {L : Lst} (h : DlO d L) {ov : Ov} {xs : List Int} (hov : OvOk 1 ov xs.length (iis xs)) (f : Int) : DlO (d ++ [(f, ⟨ovp ov, ovc ov xs.length, xs⟩)]) (blkL 3 ov (iis xs) ++ L) := by
  have := h.snoc hov f (k := 0) (c := ovc ov xs.length) (m := ovc ov xs.length) (Nat.zero_le _) (ovc_le hov) (by have := ovc_le hov; omega)
  rwa [suf0, List.drop_zero] at this
theorem DlO.mono {d : Dl} {L L' : Lst} (h : DlO d L) (hs : ∀ z ∈ L, z ∈ L') : DlO d L' :=
  ⟨h.cap, fun x hx hne => by obtain ⟨b, o, h1, h2⟩ := h.adr x hx hne; obtain ⟨z, hz, e⟩ := List.mem_map.1 h2; exact ⟨b, o, h1, List.mem_map.2 ⟨z, hs z hz, e⟩⟩, fun w0 w S L' hw hin => h.rd w0 w S L' hw fun z hz => hin z (hs z hz)⟩
def nod : Dl := List.replicate 4 (0, ⟨none, 0, []⟩)
end Go.Proofs.YtligpachgcmkcaaGreat
set_option linter.unusedSimpArgs false
set_option linter.unusedVariables false
namespace Go.Proofs.YtligpachgcmkcaaGreat
open Go.RowKit Go.Shelf
structure Rs.is (s : Rs) (xs : List Int) (e : Int) : Prop where
  xs : s.xs = xs
  e : s.e = e
/-- Two readers with the same bytes. -/
def Rs.eqv (s t : Rs) : Prop := s.xs = t.xs ∧ s.e = t.e
theorem Rs.eqv.fail {s t : Rs} (h : s.eqv t) (e : Int) : (s.fail e).eqv (t.fail e) := by
  unfold Rs.fail
  rw [h.2]
  split
  · exact ⟨rfl, rfl⟩
  · exact h
theorem Rs.eqv.drop {s t : Rs} (h : s.eqv t) (k : Nat) : (s.drop k).eqv (t.drop k) := ⟨by simp only [Rs.drop]; rw [h.1], h.2⟩
theorem Rs.eqv.num {s t : Rs} (h : s.eqv t) (k : Nat) : (s.num k).1 = (t.num k).1 ∧ (s.num k).2.1 = (t.num k).2.1 ∧ (s.num k).2.2.eqv (t.num k).2.2 := by
  unfold Rs.num
  rw [h.1, h.2]
  split
  · exact ⟨rfl, rfl, h.fail 4⟩
  · split
    · exact ⟨rfl, rfl, h.drop k⟩
    · exact ⟨rfl, rfl, (h.drop k).fail 3⟩
end Go.Proofs.YtligpachgcmkcaaGreat
set_option linter.unusedSimpArgs false
set_option linter.unusedVariables false
namespace Go.Proofs.YtligpachgcmkcaaGreat
open Go.RowKit Go.Shelf
set_option maxRecDepth 100000
def VR (vs : List Int) : Prop := ∀ x ∈ vs, 0 ≤ x ∧ x ≤ 256
instance (vs : List Int) : Decidable (VR vs) := by unfold VR; infer_instance
theorem dright1_ok (x : Int) : CallP Tryz.prog 45 [.int .i64 x] (.bool (decide (x < 0 ∨ 256 < x))) := by
  refine enterP (tb := tb) Tryz.func45 rfl Tryz.ntmps45 rfl fun w => ?_
  by_cases h0 : x < 0
  · rw [decide_eq_true (.inl h0)]
    repeat' (first | (apply R.is1; first | (apply R.isBin; (apply R.pure; exact rfl; (apply Ok1.lss_t; exact rfl; exact rfl; omega))) | (apply R.pure; exact rfl; first | (apply Ok1.move; exact rfl) | (apply Ok1.assign; exact rfl) | (apply Ok1.pick_t; exact rfl; exact rfl))) | (apply R.isG; (apply R.guard_not; (iterate 3 exact rfl))) | apply R.nil | (apply T.is; first | apply T.seq | apply T.region | apply T.ret))
    (apply RetOk.t; exact rfl)
    rfl
  · by_cases h1 : 256 < x
    · rw [decide_eq_true (.inr h1)]
      repeat' (first | (apply R.is1; first | (apply R.isBin; (apply R.pure; exact rfl; first | (apply Ok1.lss_f; exact rfl; exact rfl; omega) | (apply Ok1.gtr_t; exact rfl; exact rfl; omega))) | (apply R.pure; exact rfl; first | (apply Ok1.move; exact rfl) | (apply Ok1.assign; exact rfl) | (apply Ok1.pick_f; exact rfl; exact rfl))) | (apply R.isG; (apply R.guard_run; exact rfl; exact rfl)) | apply R.nil | (apply T.is; first | apply T.seq | apply T.region | apply T.ret))
      (apply RetOk.t; exact rfl)
      rfl
    · rw [decide_eq_false (by omega)]
      repeat' (first | (apply R.is1; first | (apply R.isBin; (apply R.pure; exact rfl; first | (apply Ok1.lss_f; exact rfl; exact rfl; omega) | (apply Ok1.gtr_f; exact rfl; exact rfl; omega))) | (apply R.pure; exact rfl; first | (apply Ok1.move; exact rfl) | (apply Ok1.assign; exact rfl) | (apply Ok1.pick_f; exact rfl; exact rfl))) | (apply R.isG; (apply R.guard_run; exact rfl; exact rfl)) | apply R.nil | (apply T.is; first | apply T.seq | apply T.region | apply T.ret))
      (apply RetOk.t; exact rfl)
      rfl
theorem vright_ok (vs : List Int) (hl : vs.length = 4) : CallP Tryz.prog 26 [.agg ⟨iis vs⟩] (.bool (decide (VR vs))) := by
  have hc := fun p w1 h => conF_ok p 4 4 vs hl.symm (by decide) 45 rfl _ dright1_ok w1 h
  have he : (vs.any fun x => decide (x < 0 ∨ 256 < x)) = !decide (VR vs) := by
    by_cases hs : VR vs
    · rw [decide_eq_true hs]
      cases h4 : vs.any fun x => decide (x < 0 ∨ 256 < x) with
      | false => rfl
      | true =>
        obtain ⟨x, hx, hb⟩ := List.any_eq_true.1 h4
        have := hs x hx
        have := of_decide_eq_true hb
        omega
    · rw [decide_eq_false hs]
      cases h4 : vs.any fun x => decide (x < 0 ∨ 256 < x) with
      | true => rfl
      | false =>
        refine absurd (fun x hx => ?_) hs
        have := List.any_eq_false.1 h4 x hx
        simp only [decide_eq_true_eq] at this
        omega
  rw [he] at hc
  generalize decide (VR vs) = q at *
  have hil : (iis vs).length = 4 := by rw [iis_len, hl]
  refine enterP (tb := tb) Tryz.func26 rfl Tryz.ntmps26 rfl fun w => ?_
  cases q
  · repeat' (first | (apply R.is1; first | (apply R.isCall; (apply R.callV; (iterate 3 exact rfl); intro w1 hw1; exact hc _ w1 (RdSl.of (junk := []) hw1 (by exact At.head) (by rw [fl_i, List.append_nil])))) | (apply R.pure; exact rfl; first | (apply Ok1.sliceArr; (iterate 4 exact rfl)) | (apply Ok1.assign; exact rfl) | (apply Ok1.not_t; exact rfl)) | (apply R.box; (iterate 3 exact rfl); intro)) | apply R.nil | (apply T.is; first | apply T.seq | apply T.region | apply T.ret))
    (apply RetOk.t; exact rfl)
    rfl
  · repeat' (first | (apply R.is1; first | (apply R.isCall; (apply R.callV; (iterate 3 exact rfl); intro w1 hw1; exact hc _ w1 (RdSl.of (junk := []) hw1 (by exact At.head) (by rw [fl_i, List.append_nil])))) | (apply R.pure; exact rfl; first | (apply Ok1.sliceArr; (iterate 4 exact rfl)) | (apply Ok1.assign; exact rfl) | (apply Ok1.not_f; exact rfl)) | (apply R.box; (iterate 3 exact rfl); intro)) | apply R.nil | (apply T.is; first | apply T.seq | apply T.region | apply T.ret))
    (apply RetOk.t; exact rfl)
    rfl
theorem rvright_ok (v0 v1 v2 v3 : Int) : CallP Tryz.prog 12 [.agg ⟨iis [v0, v1, v2, v3]⟩] (.bool (decide (VR [v0, v1, v2, v3]))) := by
  have he : VR [v0, v1, v2, v3] ↔ (0 ≤ v0 ∧ v0 ≤ 256) ∧ (0 ≤ v1 ∧ v1 ≤ 256) ∧ (0 ≤ v2 ∧ v2 ≤ 256) ∧ (0 ≤ v3 ∧ v3 ≤ 256) := by simp [VR]
  refine enterP (tb := tb) Tryz.func12 rfl Tryz.ntmps12 rfl fun w => ?_
  repeat' (first | (apply R.is1; first | (apply R.isBin; first | (apply R.pure; exact rfl; first | (apply Ok1.add64; exact rfl; exact rfl; omega; omega) | (apply Ok1.lss_t; exact rfl; exact rfl; omega) | (apply Ok1.lss_f; exact rfl; exact rfl; omega)) | (apply R.lss rfl rfl rfl <;> intro) | (apply R.gtr rfl rfl rfl <;> intro)) | (apply R.pure; exact rfl; first | (apply Ok1.move; exact rfl) | (apply Ok1.load; exact rfl; (apply Ld.own1; exact rfl; exact rfl; exact At.head; exact rfl)) | (apply Ok1.assign; exact rfl) | (apply Ok1.indexAddrA; (iterate 5 exact rfl); omega; omega) | (apply Ok1.pick_t; exact rfl; exact rfl) | (apply Ok1.pick_f; exact rfl; exact rfl)) | (apply R.box; (iterate 3 exact rfl); intro)) | (apply R.isG; first | (apply R.guard_run; exact rfl; exact rfl) | (apply R.guard_not; (iterate 3 exact rfl))) | apply R.nil | (apply T.is; first | apply T.rounds 5 | apply T.seq | apply T.region | apply T.block | apply T.skip | apply T.exit | apply T.ret | (apply T.cond_t; exact rfl) | (apply T.cond_f; exact rfl)))
  all_goals (apply RetOk.t; exact rfl)
  all_goals first
    | (rw [decide_eq_true]; rw [he]; omega)
    | (rw [decide_eq_false]; rw [he]; omega)
def cntL (dd : List (Int × List Int)) : Nat := (dd.map fun x => x.2.length).sum
end Go.Proofs.YtligpachgcmkcaaGreat
set_option linter.unusedSimpArgs false
set_option linter.unusedVariables false
namespace Go.Proofs.YtligpachgcmkcaaGreat
open Go.RowKit Go.Shelf
set_option maxRecDepth 100000
def ovr (room : Int) (d : Dl) : Int := (max (16 + 2 * (cntL (pur d) : Int) - room) 0 + 1) / 2
def cutN (room : Int) (d : Dl) (x : Pi) : Nat := (max ((x.xs.length : Int) - ovr room d) 0).toNat
def cutP (n : Nat) (x : Pi) : Pi := ⟨x.p, n, x.xs.take n⟩
def cutAt (room : Int) (k : Nat) (d : Dl) : Dl := match d[k]? with
  | some x => d.set k (x.1, cutP (cutN room d x.2) x.2)
  | none => d
theorem cutN_le (room : Int) (d : Dl) (x : Pi) : cutN room d x ≤ x.xs.length := by
  unfold cutN ovr
  omega
theorem cutAt_mem {room : Int} {k : Nat} {d : Dl} {y : Int × Pi} (h : y ∈ cutAt room k d) : y ∈ d ∨ ∃ x n, x ∈ d ∧ n ≤ x.2.xs.length ∧ y = (x.1, cutP n x.2) := by
  unfold cutAt at h
  split at h
  · rename_i x hx
    rcases List.mem_or_eq_of_mem_set h with h1 | h1
    · exact .inl h1
    · exact .inr ⟨x, _, List.mem_of_getElem? hx, cutN_le _ _ _, h1⟩
  · exact .inl h
theorem DlO.cut {d : Dl} {L : Lst} (h : DlO d L) (room : Int) (k : Nat) : DlO (cutAt room k d) L := by
  refine ⟨fun y hy => ?_, fun y hy hne => ?_, fun w0 w S L' hw hin y hy => ?_⟩
  · rcases cutAt_mem hy with h1 | ⟨x, n, hx, hn, rfl⟩
    · exact h.cap y h1
    · simp only [cutP, List.length_take]; omega
  · rcases cutAt_mem hy with h1 | ⟨x, n, hx, hn, rfl⟩
    · exact h.adr y h1 hne
    · refine h.adr x hx ?_
      rintro h0
      apply hne
      simp [cutP, h0]
  · rcases cutAt_mem hy with h1 | ⟨x, n, hx, hn, rfl⟩
    · exact h.rd w0 w S L' hw hin y h1
    · exact (h.rd w0 w S L' hw hin x hx).pre iV_len n
section
variable {X : Cx} {σ : Env} {L : Lst} {d : Option Nat} {ty : TypeId} {pos : String} {af : Array Edge} {g : Option (Nat × Bool)} {x y : Operand} {k : IntKind} {i j m : Int} {ats : Array TypeId}
theorem Ok1.min2E (hx : ev σ x = some (.int k i)) (hy : ev σ y = some (.int k j)) (hm : min i j = m) : Ok1 X ⟨d, .call { callee := .builtin .min, args := #[x, y], argTypes := ats }, ty, pos, af, g⟩ σ L (.int k m) := hm ▸ Ok1.min2 hx hy
end
end Go.Proofs.YtligpachgcmkcaaGreat
set_option linter.unusedSimpArgs false
set_option linter.unusedVariables false
namespace Go.Proofs.YtligpachgcmkcaaGreat
open Go.RowKit Go.Shelf
def Grw (ls ls' : List (List Int)) : Prop := ls'.length = ls.length ∧ ∀ (i : Nat) (xs : List Int), ls[i]? = some xs → ∃ zs, ls'[i]? = some (xs ++ zs)
theorem Grw.refl (ls : List (List Int)) : Grw ls ls := ⟨rfl, fun i xs h => ⟨[], by rw [List.append_nil]; exact h⟩⟩
theorem Grw.rev (ls : List (List Int)) (hl : ls.length = 4) (seed : Int) (xs : List Int) : Grw ls (revL ls seed xs) := by
  unfold revL
  by_cases h : revE ls seed xs = 0
  · rw [if_pos h]
    refine ⟨List.length_set, fun i ys hi => ?_⟩
    rw [List.getElem?_set]
    by_cases he : seed.toNat = i
    · rw [if_pos he]
      subst he
      have hlt := (List.getElem?_eq_some_iff.1 hi).1
      rw [if_pos hlt]
      exact ⟨xs, by rw [List.getD_eq_getElem?_getD, hi]; rfl⟩
    · rw [if_neg he]
      exact ⟨[], by rw [List.append_nil]; exact hi⟩
  · rw [if_neg h]; exact Grw.refl ls
theorem app_je {l : List Jx} (h : appE l = 0) : ∀ x ∈ l, JE x = 0 := by
  intro x hx
  unfold appE at h
  split at h
  · cases h
  · split at h
    · cases h
    · rename_i h3
      split at h
      · cases h
      · rename_i h6
        rcases je_cases x with h0 | h0 | h0
        · exact h0
        · exact absurd ⟨x, hx, h0⟩ h3
        · exact absurd ⟨x, hx, h0⟩ h6
theorem Grw.app (ls : List (List Int)) (dd : List (Int × List Int)) (hl : dd.length = ls.length) : Grw ls (appL ls dd) := by
  unfold appL
  by_cases h : appX ls dd = 0
  · rw [if_pos h]
    have hE : appE (ls.zip dd) = 0 := by
      unfold appX at h
      split at h
      · exact h
      · cases h
    refine ⟨by simp [hl], fun i xs hi => ?_⟩
    have hlt := (List.getElem?_eq_some_iff.1 hi).1
    obtain ⟨y, hy⟩ : ∃ y, dd[i]? = some y := ⟨_, List.getElem?_eq_getElem (by omega)⟩
    have hz : (ls.zip dd)[i]? = some (xs, y) := by rw [List.getElem?_zip_eq_some]; exact ⟨hi, hy⟩
    have hj := app_je hE _ (List.mem_of_getElem? hz)
    refine ⟨y.2.drop (both xs y.2 y.1.toNat), ?_⟩
    rw [List.getElem?_map, hz]
    unfold JE at hj
    simp only [Option.map_some, JL, jL, hj, if_true]
    rfl
  · rw [if_neg h]; exact Grw.refl ls
theorem Grw.mem {gs gs' : List Lg} (h : Grw (lgs gs) (lgs gs')) {y : Int} (hy : y ∈ lcat gs) : y ∈ lcat gs' := by
  obtain ⟨g, hg, hyg⟩ := List.mem_flatMap.1 hy
  obtain ⟨i, hi, rfl⟩ := List.getElem_of_mem hg
  obtain ⟨zs, hz⟩ := h.2 i gs[i].xs (by rw [lgs, List.getElem?_map, List.getElem?_eq_getElem hi]; rfl)
  rw [lgs, List.getElem?_map] at hz
  cases hg' : gs'[i]? with
  | none => rw [hg'] at hz; cases hz
  | some g' =>
    rw [hg'] at hz
    simp only [Option.map_some, Option.some.injEq] at hz
    exact List.mem_flatMap.2 ⟨g', List.mem_of_getElem? hg', by rw [hz]; exact List.mem_append_left _ hyg⟩
theorem Grw.le {gs gs' : List Lg} (h : Grw (lgs gs) (lgs gs')) : ∀ x ∈ (gs'.map fun g => (g.xs.length : Int)).zip (gs.map fun g => (g.xs.length : Int)), x.2 ≤ x.1 := by
  intro x hx
  obtain ⟨i, hi, rfl⟩ := List.getElem_of_mem hx
  simp only [List.length_zip, List.length_map] at hi
  simp only [List.getElem_zip, List.getElem_map]
  obtain ⟨zs, hz⟩ := h.2 i gs[i].xs (by rw [lgs, List.getElem?_map, List.getElem?_eq_getElem (by omega)]; rfl)
  rw [lgs, List.getElem?_map, List.getElem?_eq_getElem (by omega)] at hz
  simp only [Option.map_some, Option.some.injEq] at hz
  rw [hz, List.length_append]
  omega
end Go.Proofs.YtligpachgcmkcaaGreat
set_option linter.unusedSimpArgs false
set_option linter.unusedVariables false
namespace Go.Proofs.YtligpachgcmkcaaGreat
open Go.RowKit Go.Shelf
set_option maxRecDepth 100000
structure RAct where
  kind : Int
  n : Int
  l : Pi
  f0 : Int
  f1 : Int
  f2 : Int
  f3 : Int
  l0 : Pi
  l1 : Pi
  l2 : Pi
  l3 : Pi
deriving Inhabited
def Pi.w (z : Pi) : Value := .slice z.p z.xs.length z.cap
def RAct.v (a : RAct) : List Value := [.int .i64 a.kind, .int .i64 a.n, a.l.w, .int .i64 a.f0, .int .i64 a.f1, .int .i64 a.f2, .int .i64 a.f3, a.l0.w, a.l1.w, a.l2.w, a.l3.w]
theorem RAct.v_len (a : RAct) : a.v.length = 11 := rfl
def RAct.d (a : RAct) : Dl := [(a.f0, a.l0), (a.f1, a.l1), (a.f2, a.l2), (a.f3, a.l3)]
structure RAct.ok (w : World) (a : RAct) : Prop where
  rd : RdSl w a.l.p iV a.l.xs
  cap : a.l.xs.length ≤ a.l.cap
  drd : ∀ x ∈ a.d, RdSl w x.2.p iV x.2.xs
  dcap : ∀ x ∈ a.d, x.2.xs.length ≤ x.2.cap
theorem ovoff {ov : Ov} {xs : List Value} {e : Nat} {w0 w : World} {S : List Nat} {L Li Lr : Lst} (hw : Hp w0 S L w) (he : Ext L Li Lr) (hin : ∀ z ∈ blkL e ov xs, z ∈ Lr) : Off (ovp ov) (blks Li) := by
  intro a ha
  cases ov with
  | none => cases ha
  | some q =>
    obtain ⟨b, j, junk⟩ := q
    cases ha
    exact RdSl.off hw he (hin _ List.mem_cons_self)
theorem DlO.off {d : Dl} {M : Lst} (h : DlO d M) {w0 w : World} {S : List Nat} {L Li Lr : Lst} (hw : Hp w0 S L w) (he : Ext L Li Lr) (hin : ∀ z ∈ M, z ∈ Lr) : ∀ x ∈ d, x.2.xs ≠ [] → Off x.2.p (blks Li) := by
  intro x hx hne a ha
  obtain ⟨b, o, hp, hb⟩ := h.adr x hx hne
  rw [hp] at ha
  cases ha
  obtain ⟨z, hz, hze⟩ := List.mem_map.1 hb
  obtain ⟨zb, zo⟩ := z
  simp only at hze
  subst hze
  exact RdSl.off hw he (hin _ hz)
end Go.Proofs.YtligpachgcmkcaaGreat
set_option linter.unusedSimpArgs false
set_option linter.unusedVariables false
namespace Go.Proofs.YtligpachgcmkcaaGreat
open Go.RowKit Go.Shelf
set_option maxRecDepth 100000
theorem setV_at {gs : List Lg} (hg : GOk gs) {i : Nat} {g : Lg} (h : gs[i]? = some g) : (setV gs)[0 + i * 1]? = some (.slice (ovp g.ov) g.xs.length (ovc g.ov g.xs.length)) := setV_get h (hg.ok g (List.mem_of_getElem? h))
end Go.Proofs.YtligpachgcmkcaaGreat
set_option linter.unusedSimpArgs false
set_option linter.unusedVariables false
namespace Go.Proofs.YtligpachgcmkcaaGreat
open Go.RowKit Go.Shelf
set_option maxRecDepth 100000
theorem revL_at {ls : List (List Int)} {i : Nat} {xs : List Int} {dn : List (List Int)} (hd : dn.length = i) (hi : i < 4) (h40 : ∀ y ∈ dn, y.length ≤ 40) (he : ls = dn ++ List.replicate (4 - i) []) (hx : xs.length ≤ 40) :
    ∃ dn', dn'.length = i + 1 ∧ (∀ y ∈ dn', y.length ≤ 40) ∧ revL ls i xs = dn' ++ List.replicate (4 - (i + 1)) [] := by
  have hr : List.replicate (4 - i) ([] : List Int) = [] :: List.replicate (4 - (i + 1)) [] := by rw [show 4 - i = (4 - (i + 1)) + 1 by omega, List.replicate_succ]
  unfold revL
  split
  · refine ⟨dn ++ [xs], by rw [List.length_append, hd]; rfl, fun y hy => ?_, ?_⟩
    · rcases List.mem_append.1 hy with h | h
      · exact h40 y h
      · rw [List.mem_singleton.1 h]; exact hx
    · have hg : ls.getD (i : Int).toNat [] = [] := by
        rw [Int.toNat_natCast, he, hr, List.getD_eq_getElem?_getD, List.getElem?_append_right (by omega), hd, Nat.sub_self]
        rfl
      rw [hg, List.nil_append, Int.toNat_natCast, he, hr, ← hd, List.set_append_right _ _ (Nat.le_refl _), Nat.sub_self]
      simp
  · refine ⟨dn ++ [[]], by rw [List.length_append, hd]; rfl, fun y hy => ?_, ?_⟩
    · rcases List.mem_append.1 hy with h | h
      · exact h40 y h
      · rw [List.mem_singleton.1 h]; exact Nat.zero_le _
    · rw [he, hr]; simp
theorem make9_ok (zs : List Pi) (hz : zs.length = 4) (w : World) (hr : ∀ z ∈ zs, RdSl w z.p iV z.xs ∧ z.xs.length ≤ z.cap) :
    CallM Tryz.prog 4 [.agg ⟨fl Pi.v zs⟩] [] w fun v L => ∃ bs gs bm ms, v = .tuple #[.pointer (some ⟨bs, 0, none⟩), .pointer (some ⟨bm, 0, none⟩)] ∧ GOk gs ∧ GOk ms ∧ lgs ms = lgs gs ∧ LOk (lgs gs) ∧ (∀ y ∈ lgs gs, y.length ≤ 40) ∧ L = SetL bs gs ++ DSL bm ms := by
  have hfp : (fl Pi.v zs).length = 4 := by rw [fl_pi, List.length_map, hz]
  have hone : (fl Pi.v zs).all Value.oneCell' = true := by rw [fl_pi]; simp [List.all_map, Function.comp_def, Value.oneCell']
  refine enterK (tb := tb) Tryz.func4 rfl Tryz.ntmps4 rfl ?_
  repeat' (first | (apply R.is1; first | (apply R.isCall; (apply R.callE (vs := []); (iterate 3 exact rfl); exact Ext.none _; intro w1 hw1; exact rnew_ok w1; rintro v Lo ⟨bs, rfl, rfl⟩)) | (apply R.pure; exact rfl; first | (apply Ok1.assign; exact rfl) | (apply Ok1.build; (iterate 5 exact rfl))) | (apply R.box; (iterate 3 exact rfl); intro)) | apply R.nil | (apply T.is; first | apply T.seq | apply T.region | apply T.block))
  rename_i b1 bm
  apply T.loopK (α := Nat × List Lg × List Lg) (I := fun y => y.1 ≤ 4 ∧ GOk y.2.1 ∧ GOk y.2.2 ∧ lgs y.2.2 = lgs y.2.1 ∧ LOk (lgs y.2.1) ∧ ∃ dn, dn.length = y.1 ∧ (∀ x ∈ dn, x.length ≤ 40) ∧ lgs y.2.1 = dn ++ List.replicate (4 - y.1) []) (σi := fun y => [(1, .pointer (some ⟨b1, 0, none⟩)), (4, .pointer (some ⟨bs, 0, none⟩)), (5, .pointer (some ⟨bm, 0, none⟩)), (6, .int .i64 y.1)])
    (Li := fun y => (b1, .cells ⟨fl Pi.v zs⟩ 23 (0, 0)) :: (SetL bs y.2.1 ++ DSL bm y.2.2)) (μ := fun y => 4 - y.1) (i0 := (0, [lg0, lg0, lg0, lg0], [lg0, lg0, lg0, lg0]))
  · exact ⟨Nat.zero_le _, GOk.new, GOk.new, rfl, (fun xs hx => by simp only [lgs, lg0, List.map_cons, List.map_nil, List.mem_cons, List.not_mem_nil, or_false, or_self] at hx; rw [hx]; exact ⟨(fun y hy => by cases hy), List.nodup_nil, Nat.zero_le _⟩), [], rfl, by simp, rfl⟩
  · exact ⟨rfl, rfl, rfl, rfl, trivial⟩
  · simp only
    (focus ((repeat' (first | exact Keep.nil _ | exact Ext.one _ _ | apply Keep.cons | apply Ext.cons)); done))
  · rintro ⟨i, gs, ms⟩ ⟨hi, hg, hm, hlm, hlo, dn, hdl, h40, hdn⟩
    simp only at hi hg hm hlm hlo hdl hdn ⊢
    rcases Nat.lt_or_ge i 4 with hlt | hge
    · obtain ⟨z, hzi⟩ : ∃ z, zs[i]? = some z := ⟨_, List.getElem?_eq_getElem (by omega)⟩
      obtain ⟨hrd, hcap⟩ := hr z (List.mem_of_getElem? hzi)
      have hcell : (fl Pi.v zs)[0 + i * 1]? = some (.slice z.p z.xs.length z.cap) := by rw [Nat.zero_add, Nat.mul_one, fl_pi, List.getElem?_map, hzi]; rfl
      have hmin : (min (z.xs.length : Int) 40) = ((min z.xs.length 40 : Nat) : Int) := by omega
      have hl : (z.xs.take 40).length = min z.xs.length 40 := by rw [List.length_take]; omega
      have hp2 := hrd.pre iV_len 40
      have hdr := fun ov w1 (h1 : RdSl w1 (ovp ov) iV (z.xs.take 40)) h2 => drevoke_ok bm ms hm (i : Int) (ovp ov) (min z.xs.length 40) (ovc ov (min z.xs.length 40)) (z.xs.take 40) hl.symm (by omega) w1 h1 h2
      have hrv := fun ov w1 (h1 : RdSl w1 (ovp ov) iV (z.xs.take 40)) h2 => revoke_ok bs gs hg (i : Int) (ovp ov) (min z.xs.length 40) (ovc ov (min z.xs.length 40)) (z.xs.take 40) hl.symm (by omega) w1 h1 h2
      rw [hlm] at hdr
      have hnx := revL_at hdl hlt h40 hdn (xs := z.xs.take 40) (by omega)
      have hlo2 := hlo.rev (i : Int) (z.xs.take 40)
      generalize hxs : z.xs.take 40 = xs at *
      generalize min z.xs.length 40 = n at *
      have hrl : revE (lgs gs) i xs ≠ 0 → revL (lgs gs) i xs = lgs gs := fun h => by rw [revL, if_neg h]
      generalize hE : revE (lgs gs) i xs = E at *
      generalize hLS : SetL bs gs = LS at *
      generalize hLM : DSL bm ms = LM at *
      by_cases hE0 : E = 0
      · rw [hE0] at hdr hrv
        repeat' (first | (apply R.is1; first | (apply R.isBin; (apply R.pure; exact rfl; (apply Ok1.lss_t; exact rfl; exact rfl; omega))) | (apply R.pure; exact rfl; (apply Ok1.move; exact rfl))) | apply R.nil | (apply T.is; first | (apply T.drawC (id := 6) [0] (by decide); ((apply A.take 1; exact rfl; exact rfl; kernel_rfl; kernel_rfl; kernel_rfl; (apply Ok1.move; exact rfl)) <;> (apply A.take 2; exact rfl; exact rfl; kernel_rfl; kernel_rfl; kernel_rfl; (apply Ok1.indexAddrA; (iterate 5 exact rfl); omega; omega)) <;> (apply A.take 3; exact rfl; exact rfl; kernel_rfl; kernel_rfl; kernel_rfl; (apply Ok1.load; exact rfl; (apply Ld.own1; exact rfl; exact rfl; exact At.head; exact hcell))) <;> (apply A.take 4; exact rfl; exact rfl; kernel_rfl; kernel_rfl; kernel_rfl; (apply Ok1.move; exact rfl)) <;> (apply A.take 5; exact rfl; exact rfl; kernel_rfl; kernel_rfl; kernel_rfl; (apply Ok1.indexAddrA; (iterate 5 exact rfl); omega; omega)) <;> (apply A.take 6; exact rfl; exact rfl; kernel_rfl; kernel_rfl; kernel_rfl; (apply Ok1.load; exact rfl; (apply Ld.own1; exact rfl; exact rfl; exact At.head; exact hcell))) <;> (apply A.take 7; exact rfl; exact rfl; kernel_rfl; kernel_rfl; kernel_rfl; (apply Ok1.lenS; (iterate 3 exact rfl))) <;> (apply A.take 8; exact rfl; exact rfl; kernel_rfl; kernel_rfl; kernel_rfl; (apply Ok1.min2E; exact rfl; exact rfl; exact hmin)) <;> (apply A.take 9; exact rfl; exact rfl; kernel_rfl; kernel_rfl; kernel_rfl; (apply Ok1.preR (i := n); (iterate 5 exact rfl); omega)) <;> (apply A.one 0; kernel_rfl; exact rfl; (((apply R.buildSlice0; (iterate 4 exact rfl); intro b0))); apply R.nil; refine ⟨?_, ?_⟩; (focus ((repeat' (first | exact trivial | (refine ⟨?_, ?_⟩; (focus ((repeat' (first | exact At.head | apply At.tail)); done)))))))) <;> (apply A.one 10; kernel_rfl; exact rfl; (((apply R.appendRd (xs := xs) (v := iV) (sz := 1) (ov := some (_, 0, [])) (n := 0) (old := []) (m := n); (iterate 12 exact rfl); exact ⟨rfl, rfl⟩; (focus ((repeat' (exact Ext.one _ _)); done)); exact hl.symm; exact iV_len; exact rfl; (intro w1 hw1; exact hp2.chg hw1.chg (Off.nil _)); (focus (rw [fl_i]; exact iis_one _)); omega; intro ov1 hov1 hsome))); apply R.nil; refine ⟨?_, ?_⟩; (focus ((repeat' (first | exact trivial | (refine ⟨?_, ?_⟩; (focus ((repeat' (first | exact At.head | apply At.right)); done)))))))) <;> (apply A.take 11; exact rfl; exact rfl; kernel_rfl; kernel_rfl; kernel_rfl; (apply Ok1.assign; exact rfl)) <;> (apply A.done; kernel_rfl))) | apply T.seq | apply T.region | apply T.block | apply T.skip | (apply T.cond_t; exact rfl)))
        rw [Nat.zero_add, List.nil_append, fl_i] at hov1
        rw [Nat.zero_add, List.nil_append, fl_i, slV_eq hov1]
        rw [← hl] at hov1
        repeat' (first | (apply R.is1; first | (apply R.isBin; (apply R.pure; exact rfl; first | (apply Ok1.add64; exact rfl; exact rfl; omega; omega) | (apply Ok1.eql_t; exact rfl; exact rfl; omega))) | (apply R.isCall; first | (apply R.callE (Li := LM) (vs := [.pointer (some ⟨bm, 0, none⟩), .int .i64 i, .slice (ovp ov1) n (ovc ov1 n)]); (iterate 3 exact rfl); (focus ((repeat' (first | exact Ext.all _ | apply Ext.cons | apply Ext.app)); done)); intro w1 hw1; exact hdr ov1 w1 (irdown hov1 hw1 (Ext.mem (by (focus ((repeat' (exact Ext.here _ _)); done))))) (fun _ => ovoff (xs := iis xs) (e := 3) (Li := LM) hw1 (by (focus ((repeat' (first | exact Ext.all _ | apply Ext.cons | apply Ext.app)); done))) (Ext.mem (by (focus ((repeat' (exact Ext.here _ _)); done))))); rintro v Lo ⟨ms', rfl, hgm, hm', rfl⟩) | (apply R.callE (Li := LS) (vs := [.pointer (some ⟨bs, 0, none⟩), .int .i64 i, .slice (ovp ov1) n (ovc ov1 n)]); (iterate 3 exact rfl); (focus ((repeat' (first | exact Ext.here _ _ | apply Ext.cons | apply Ext.app)); done)); intro w1 hw1; exact hrv ov1 w1 (irdown hov1 hw1 (Ext.mem (by (focus ((repeat' (first | exact Ext.here _ _ | apply Ext.cons | apply Ext.app)); done))))) (fun _ => ovoff (xs := iis xs) (e := 3) (Li := LS) hw1 (by (focus ((repeat' (first | exact Ext.here _ _ | apply Ext.cons | apply Ext.app)); done))) (Ext.mem (by (focus ((repeat' (first | exact Ext.here _ _ | apply Ext.cons | apply Ext.app)); done))))); rintro v Lo ⟨gs', rfl, hgl, hg', rfl⟩)) | (apply R.pure; exact rfl; first | (apply Ok1.move; exact rfl) | (apply Ok1.assign; exact rfl))) | apply R.nil | (apply T.is; first | apply T.region | (apply T.cond_t; exact rfl)))
        exact ⟨(i + 1, gs', ms'), ⟨by omega, hg', hm', by rw [hgl, hgm], by rw [hgl]; exact hlo2, by rw [hgl]; exact hnx⟩, by simp only; omega, ⟨rfl, rfl, rfl, rfl, trivial⟩, by (focus ((repeat' (first | exact Ext.one _ _ | exact Ext.here _ _ | apply Keep.cons | apply Keep.app | apply Keep.last | apply Ext.cons | apply Ext.app)); done))⟩
      · repeat' (first | (apply R.is1; first | (apply R.isBin; (apply R.pure; exact rfl; (apply Ok1.lss_t; exact rfl; exact rfl; omega))) | (apply R.pure; exact rfl; (apply Ok1.move; exact rfl))) | apply R.nil | (apply T.is; first | (apply T.drawC (id := 6) [0] (by decide); ((apply A.take 1; exact rfl; exact rfl; kernel_rfl; kernel_rfl; kernel_rfl; (apply Ok1.move; exact rfl)) <;> (apply A.take 2; exact rfl; exact rfl; kernel_rfl; kernel_rfl; kernel_rfl; (apply Ok1.indexAddrA; (iterate 5 exact rfl); omega; omega)) <;> (apply A.take 3; exact rfl; exact rfl; kernel_rfl; kernel_rfl; kernel_rfl; (apply Ok1.load; exact rfl; (apply Ld.own1; exact rfl; exact rfl; exact At.head; exact hcell))) <;> (apply A.take 4; exact rfl; exact rfl; kernel_rfl; kernel_rfl; kernel_rfl; (apply Ok1.move; exact rfl)) <;> (apply A.take 5; exact rfl; exact rfl; kernel_rfl; kernel_rfl; kernel_rfl; (apply Ok1.indexAddrA; (iterate 5 exact rfl); omega; omega)) <;> (apply A.take 6; exact rfl; exact rfl; kernel_rfl; kernel_rfl; kernel_rfl; (apply Ok1.load; exact rfl; (apply Ld.own1; exact rfl; exact rfl; exact At.head; exact hcell))) <;> (apply A.take 7; exact rfl; exact rfl; kernel_rfl; kernel_rfl; kernel_rfl; (apply Ok1.lenS; (iterate 3 exact rfl))) <;> (apply A.take 8; exact rfl; exact rfl; kernel_rfl; kernel_rfl; kernel_rfl; (apply Ok1.min2E; exact rfl; exact rfl; exact hmin)) <;> (apply A.take 9; exact rfl; exact rfl; kernel_rfl; kernel_rfl; kernel_rfl; (apply Ok1.preR (i := n); (iterate 5 exact rfl); omega)) <;> (apply A.one 0; kernel_rfl; exact rfl; (((apply R.buildSlice0; (iterate 4 exact rfl); intro b0))); apply R.nil; refine ⟨?_, ?_⟩; (focus ((repeat' (first | exact trivial | (refine ⟨?_, ?_⟩; (focus ((repeat' (first | exact At.head | apply At.tail)); done)))))))) <;> (apply A.one 10; kernel_rfl; exact rfl; (((apply R.appendRd (xs := xs) (v := iV) (sz := 1) (ov := some (_, 0, [])) (n := 0) (old := []) (m := n); (iterate 12 exact rfl); exact ⟨rfl, rfl⟩; (focus ((repeat' (exact Ext.one _ _)); done)); exact hl.symm; exact iV_len; exact rfl; (intro w1 hw1; exact hp2.chg hw1.chg (Off.nil _)); (focus (rw [fl_i]; exact iis_one _)); omega; intro ov1 hov1 hsome))); apply R.nil; refine ⟨?_, ?_⟩; (focus ((repeat' (first | exact trivial | (refine ⟨?_, ?_⟩; (focus ((repeat' (first | exact At.head | apply At.right)); done)))))))) <;> (apply A.take 11; exact rfl; exact rfl; kernel_rfl; kernel_rfl; kernel_rfl; (apply Ok1.assign; exact rfl)) <;> (apply A.done; kernel_rfl))) | apply T.seq | apply T.region | apply T.block | apply T.skip | (apply T.cond_t; exact rfl)))
        rw [Nat.zero_add, List.nil_append, fl_i] at hov1
        rw [Nat.zero_add, List.nil_append, fl_i, slV_eq hov1]
        rw [← hl] at hov1
        repeat' (first | (apply R.is1; first | (apply R.isBin; (apply R.pure; exact rfl; first | (apply Ok1.add64; exact rfl; exact rfl; omega; omega) | (apply Ok1.eql_f; exact rfl; exact rfl; omega))) | (apply R.isCall; (apply R.callE (Li := LM) (vs := [.pointer (some ⟨bm, 0, none⟩), .int .i64 i, .slice (ovp ov1) n (ovc ov1 n)]); (iterate 3 exact rfl); (focus ((repeat' (first | exact Ext.all _ | apply Ext.cons | apply Ext.app)); done)); intro w1 hw1; exact hdr ov1 w1 (irdown hov1 hw1 (Ext.mem (by (focus ((repeat' (exact Ext.here _ _)); done))))) (fun _ => ovoff (xs := iis xs) (e := 3) (Li := LM) hw1 (by (focus ((repeat' (first | exact Ext.all _ | apply Ext.cons | apply Ext.app)); done))) (Ext.mem (by (focus ((repeat' (exact Ext.here _ _)); done))))); rintro v Lo ⟨ms', rfl, hgm, hm', rfl⟩)) | (apply R.pure; exact rfl; first | (apply Ok1.move; exact rfl) | (apply Ok1.assign; exact rfl))) | apply R.nil | (apply T.is; first | apply T.region | apply T.skip | (apply T.cond_f; exact rfl)))
        have hgm2 := hgm.trans (hrl hE0)
        rw [hrl hE0] at hnx
        exact ⟨(i + 1, gs, ms'), ⟨by omega, hg, hm', hgm2, hlo, hnx⟩, by simp only; omega, ⟨rfl, rfl, rfl, rfl, trivial⟩, by simp only [hLS]; (focus ((repeat' (first | exact Ext.one _ _ | exact Ext.here _ _ | apply Keep.cons | apply Keep.app | apply Keep.last | apply Ext.cons | apply Ext.app)); done))⟩
    · have hi4 : i = 4 := by omega
      subst hi4
      repeat' (first | (apply R.is1; first | (apply R.isBin; (apply R.pure; exact rfl; (apply Ok1.lss_f; exact rfl; exact rfl; omega))) | (apply R.pure; exact rfl; first | (apply Ok1.move; exact rfl) | (apply Ok1.assign; exact rfl))) | apply R.nil | (apply T.is; first | apply T.seq | apply T.region | apply T.exit | apply T.ret | (apply T.cond_f; exact rfl)))
      (apply RetOk.tt; exact rfl; exact rfl)
      refine ⟨_, ?_, bs, gs, bm, ms, rfl, hg, hm, hlm, hlo, ?_, rfl⟩
      · (focus ((repeat' (first | exact Ext.one _ _ | exact Ext.here _ _ | exact Ext.all _ | apply Keep.cons | apply Keep.app | apply Keep.last | apply Ext.cons)); done))
      · intro y hy
        rw [hdn, Nat.sub_self, List.replicate_zero, List.append_nil] at hy
        exact h40 y hy
end Go.Proofs.YtligpachgcmkcaaGreat
set_option linter.unusedSimpArgs false
set_option linter.unusedVariables false
namespace Go.Proofs.YtligpachgcmkcaaGreat
open Go.RowKit Go.Shelf
set_option maxRecDepth 100000
theorem sub_tail : ∀ {xs ys : List Value} {n m : Nat}, xs.length = n → ys.length = m → subE (xs ++ ys) n m = some ys
  | [], ys, n, m, h, h2 => by simp at h; subst h; exact subE_all h2
  | x :: xs, ys, n, m, h, h2 => by
    cases n with
    | zero => simp at h
    | succ n =>
      have := sub_tail (xs := xs) (ys := ys) (n := n) (m := m) (by simpa using h) h2
      cases m with
      | zero =>
        have : ys = [] := List.eq_nil_of_length_eq_zero h2
        subst this
        rfl
      | succ k => exact this
section
variable {X : Cx} {σ : Env} {L : Lst} {ty t : TypeId} {pos : String} {af : Array Edge} {x y : Operand} {r : TRow} {xs ys : List Value} {ks : List TK}
theorem Ok1.neqFq2 {d : Option Nat} {g : Option (Nat × Bool)} {ty2 : TypeId} {q : Bool} (hx : ev σ x = some (.agg ⟨xs⟩)) (hy : ev σ y = some (.agg ⟨ys⟩)) (ht : X.tb.row t = some r) (hk : r.k.agg = some true) (hf : flatE X.tb 8 t = some ks) (h1 : allOk ks xs = true) (h2 : allOk ks ys = true) (hq : xs = ys ↔ q = true) :
    Ok1 X ⟨d, .binOp .neq t x y ty2, ty, pos, af, g⟩ σ L (.bool (!q)) := by
  have h := Ok1.neqF (X := X) (L := L) (ty2 := ty2) (d := d) (ty := ty) (pos := pos) (af := af) (g := g) hx hy ht hk hf h1 h2
  have e : ∀ (i : Decidable (xs ≠ ys)), @decide (xs ≠ ys) i = !q := by intro i; cases q <;> simp_all
  rw [e] at h
  exact h
end
theorem alike_gen (s : Value) (vs p8 vs' p8' : List Int) (hv : vs.length = 4) (hp : p8.length = 8) (hv' : vs'.length = 4) (hp' : p8'.length = 8) (w : World) (hof : ∀ w1, Chg [] w w1 → CallW Tryz.prog 6 [s] w1 fun v _ => v = .agg ⟨dgV vs p8⟩) :
    CallW Tryz.prog 9 [s, .agg ⟨dgV vs' p8'⟩] w fun v _ => v = .bool (decide (vs = vs' ∧ p8 = p8')) := by
  have hdl := dg_len hv' hp'
  have hf1 := dg_flat hv hp
  have hf2 := dg_flat hv' hp'
  obtain ⟨q, hq⟩ : ∃ q, decide (vs = vs' ∧ p8 = p8') = q := ⟨_, rfl⟩
  have hq2 : dgV vs p8 = dgV vs' p8' ↔ q = true := by rw [← hq, decide_eq_true_iff]; exact dg_inj (by rw [hv, hv'])
  rw [hq]
  generalize dgV vs p8 = D at *
  generalize dgV vs' p8' = D' at *
  refine enterW (tb := tb) Tryz.func9 rfl Tryz.ntmps9 rfl ?_
  repeat' (first | (apply R.is1; first | (apply R.isBin; first | (apply R.pure; exact rfl; first | (apply Ok1.eqlFq2; (iterate 5 exact rfl); exact hf1; exact hf2; exact hq2) | (apply Ok1.eql_t; exact rfl; exact rfl; omega) | (apply Ok1.eql_f; exact rfl; exact rfl; omega) | (apply Ok1.eqlP; (iterate 5 exact rfl)) | (apply Ok1.eqlM; (iterate 5 exact rfl)) | (apply Ok1.eqlS; (iterate 5 exact rfl))) | (apply R.eql rfl rfl rfl <;> intro) | (apply R.eqlF; (iterate 8 exact rfl); all_goals intro)) | (apply R.pure; exact rfl; first | (apply Ok1.load; exact rfl; apply Ld.ownk; exact rfl; exact rfl; (focus ((repeat' (first | exact At.head | apply At.tail | apply At.right)); done)); exact subE_all hdl) | (apply Ok1.move; exact rfl) | (apply Ok1.load; exact rfl; first | (apply Ld.own1; exact rfl; exact rfl; (focus ((repeat' (first | exact At.head | apply At.tail | apply At.right)); done)); exact rfl) | (apply Ld.ownk; exact rfl; exact rfl; (focus ((repeat' (first | exact At.head | apply At.tail | apply At.right)); done)); exact rfl) | (apply Ld.old1; exact rfl; exact rfl; assumption; (first | exact List.not_mem_nil | assumption)) | (apply Ld.blk1; exact rfl; exact rfl; assumption; (first | exact List.not_mem_nil | assumption); exact rfl) | (apply Ld.blkk; exact rfl; exact rfl; assumption; (first | exact List.not_mem_nil | assumption); exact rfl)) | (apply Ok1.assign; exact rfl)) | (apply R.box; (iterate 3 exact rfl); intro)) | (apply R.is0; first | fail) | (apply R.isG; first | (apply R.guard_run; exact rfl; exact rfl) | (apply R.guard_not; (iterate 3 exact rfl)) | (apply R.guard_not0; exact rfl; exact rfl) | (apply R.guard_un; (iterate 3 exact rfl)) | (apply R.guard_un0; exact rfl; exact rfl) | (apply R.guard rfl rfl ?_ (fun h => ⟨rfl, ?_⟩) <;> try intro)) | apply R.nil | (apply T.is; first | (apply T.drawC (id := 1) [0] (by decide); ((apply A.take 0; exact rfl; exact rfl; kernel_rfl; kernel_rfl; kernel_rfl; first | (apply Ok1.move; exact rfl)) <;> (apply A.call 1; exact rfl; exact rfl; kernel_rfl; kernel_rfl; kernel_rfl; exact rfl; exact rfl; first | (exact fun w1 hw1 => hof w1 hw1.chg)) <;> (apply A.take 2; exact rfl; exact rfl; kernel_rfl; kernel_rfl; kernel_rfl; first | (apply Ok1.load; exact rfl; apply Ld.ownk; exact rfl; exact rfl; (focus ((repeat' (first | exact At.head | apply At.tail | apply At.right)); done)); exact subE_all hdl) | (apply Ok1.load; exact rfl; first | (apply Ld.own1; exact rfl; exact rfl; (focus ((repeat' (first | exact At.head | apply At.tail | apply At.right)); done)); exact rfl) | (apply Ld.ownk; exact rfl; exact rfl; (focus ((repeat' (first | exact At.head | apply At.tail | apply At.right)); done)); exact rfl) | (apply Ld.old1; exact rfl; exact rfl; assumption; (first | exact List.not_mem_nil | assumption)) | (apply Ld.blk1; exact rfl; exact rfl; assumption; (first | exact List.not_mem_nil | assumption); exact rfl) | (apply Ld.blkk; exact rfl; exact rfl; assumption; (first | exact List.not_mem_nil | assumption); exact rfl))) <;> (first | (apply A.take 3; exact rfl; exact rfl; kernel_rfl; kernel_rfl; kernel_rfl; first | (apply Ok1.eqlFq2; (iterate 5 exact rfl); exact hf1; exact hf2; exact hq2) | (apply Ok1.eql_t; exact rfl; exact rfl; omega) | (apply Ok1.eql_f; exact rfl; exact rfl; omega) | (apply Ok1.eqlP; (iterate 5 exact rfl)) | (apply Ok1.eqlM; (iterate 5 exact rfl)) | (apply Ok1.eqlS; (iterate 5 exact rfl))) | (apply A.take 3; exact rfl; exact rfl; kernel_rfl; kernel_rfl; kernel_rfl; (first | (apply Ok1.eql; exact rfl; exact rfl) | (apply Ok1.eqlF; (iterate 7 exact rfl))); apply A.dec (t := 8); exact rfl; all_goals intro)) <;> (apply A.take 4; exact rfl; exact rfl; kernel_rfl; kernel_rfl; kernel_rfl; first | (apply Ok1.assign; exact rfl)) <;> (apply A.done; kernel_rfl))) | apply T.seq | apply T.region | apply T.block | apply T.scope | apply T.label | apply T.skip | apply T.exit | apply T.ret | (apply T.cond_t; exact rfl) | (apply T.cond_f; exact rfl) | (apply T.cond_h; exact rfl; assumption) | (apply T.cond_n; exact rfl; assumption) | (apply T.cond rfl <;> intro)) | apply Rnd.step)
  all_goals (apply RetOk.t; exact rfl)
  all_goals rfl
theorem known9_ok (w : World) : CallM Tryz.prog 18 [] [] w fun v L => v = .bool true ∧ L = [] := by
  have hal : ∀ bs w1, SetR w1 bs [lg0, lg0, lg0, lg0] → CallW Tryz.prog 9 [.pointer (some ⟨bs, 0, none⟩), .agg ⟨dgV [0, 0, 0, 0] d0P⟩] w1 fun v _ => v = .bool true := by
    intro bs w1 hs
    have h := alike_gen (.pointer (some ⟨bs, 0, none⟩)) [0, 0, 0, 0] d0P [0, 0, 0, 0] d0P rfl d0P_len rfl d0P_len w1 fun w2 hc => dOf_new bs w2 (hs.chg hc)
    rw [decide_eq_true ⟨rfl, rfl⟩] at h
    exact h
  have hdl := dg_len (vs := [0, 0, 0, 0]) rfl d0P_len
  have hdo := dg_one [0, 0, 0, 0] d0P
  have hset : ∀ cs : List Value, cs.length = 12 → setE cs 0 (dgV [0, 0, 0, 0] d0P) = some (dgV [0, 0, 0, 0] d0P) := fun cs h => setE_all (by rw [hdl, h])
  have hs4 : subE (dgV [0, 0, 0, 0] d0P) 0 4 = some [.int .i64 0, .int .i64 0, .int .i64 0, .int .i64 0] := subE_app _ _ rfl
  have hs8 : subE (dgV [0, 0, 0, 0] d0P) 4 8 = some (u8s d0P) := sub_tail rfl (by rw [u8s_len, d0P_len])
  have hsa := subE_all hdl
  have hne : u8s d0P = u8s [0, 0, 0, 0, 0, 0, 0, 0] ↔ false = true := ⟨fun e => absurd (u8i_inj e) d0P_ne, fun e => by cases e⟩
  have hf8 : allOk (repK [.int .u8] 8) (u8s d0P) = true := by
    have h := d0P_len
    generalize d0P = l at h
    match l, h with
    | [x0, x1, x2, x3, x4, x5, x6, x7], _ => rfl
  have hofn := dOf_new
  generalize dgV [0, 0, 0, 0] d0P = D at *
  generalize u8s d0P = P at *
  refine enterK (tb := tb) Tryz.func18 rfl Tryz.ntmps18 rfl ?_
  repeat' (first | (apply R.is1; first | (apply R.isBin; first | (apply R.pure; exact rfl; first | (apply Ok1.eqlFq2; (iterate 7 exact rfl); exact ⟨fun _ => rfl, fun _ => rfl⟩) | (apply Ok1.neqFq2 (q := false); (iterate 5 exact rfl); exact hf8; exact rfl; exact hne) | (apply Ok1.eql_t; exact rfl; exact rfl; omega) | (apply Ok1.eql_f; exact rfl; exact rfl; omega) | (apply Ok1.neq_t; exact rfl; exact rfl; omega) | (apply Ok1.neq_f; exact rfl; exact rfl; omega) | (apply Ok1.eqlP; (iterate 5 exact rfl)) | (apply Ok1.neqP; (iterate 5 exact rfl)) | (apply Ok1.eqlM; (iterate 5 exact rfl)) | (apply Ok1.neqM; (iterate 5 exact rfl)) | (apply Ok1.eqlS; (iterate 5 exact rfl)) | (apply Ok1.neqS; (iterate 5 exact rfl))) | (apply R.eql rfl rfl rfl <;> intro) | (apply R.neq rfl rfl rfl <;> intro) | (apply R.eqlF; (iterate 8 exact rfl); all_goals intro) | (apply R.neqF; (iterate 8 exact rfl); all_goals intro)) | (apply R.isCall; first | (apply R.callE (vs := []); (iterate 3 exact rfl); exact Ext.none _; intro w1 hw1; exact rnew_ok w1; rintro v Lo ⟨bs, rfl, rfl⟩) | (apply R.callV (vs := [.pointer (some ⟨bs, 0, none⟩)]); (iterate 3 exact rfl); intro w1 hw1; exact hofn bs w1 (SetR.of GOk.new hw1 (Ext.mem (by (focus ((repeat' (first | exact Ext.none _ | exact Ext.one _ _ | exact Ext.here _ _ | exact Ext.all _ | apply Ext.cons | apply Ext.app | apply Ext.two)); done)))))) | (apply R.callV (vs := [.pointer (some ⟨bs, 0, none⟩), .agg ⟨D⟩]); (iterate 3 exact rfl); intro w1 hw1; exact hal bs w1 (SetR.of GOk.new hw1 (Ext.mem (by (focus ((repeat' (first | exact Ext.none _ | exact Ext.one _ _ | exact Ext.here _ _ | exact Ext.all _ | apply Ext.cons | apply Ext.app | apply Ext.two)); done))))))) | (apply R.pure; exact rfl; first | (apply Ok1.load; exact rfl; first | (apply Ld.ownk; exact rfl; exact rfl; (focus ((repeat' (first | exact At.head | apply At.tail | apply At.right)); done)); exact hs4) | (apply Ld.ownk; exact rfl; exact rfl; (focus ((repeat' (first | exact At.head | apply At.tail | apply At.right)); done)); exact hs8) | (apply Ld.ownk; exact rfl; exact rfl; (focus ((repeat' (first | exact At.head | apply At.tail | apply At.right)); done)); exact hsa)) | (apply Ok1.move; exact rfl) | (apply Ok1.fieldAddr; (iterate 5 exact rfl)) | (apply Ok1.load; exact rfl; first | (apply Ld.own1; exact rfl; exact rfl; (focus ((repeat' (first | exact At.head | apply At.tail | apply At.right)); done)); exact rfl) | (apply Ld.ownk; exact rfl; exact rfl; (focus ((repeat' (first | exact At.head | apply At.tail | apply At.right)); done)); exact rfl) | (apply Ld.old1; exact rfl; exact rfl; assumption; (first | exact List.not_mem_nil | assumption)) | (apply Ld.blk1; exact rfl; exact rfl; assumption; (first | exact List.not_mem_nil | assumption); exact rfl) | (apply Ld.blkk; exact rfl; exact rfl; assumption; (first | exact List.not_mem_nil | assumption); exact rfl)) | (apply Ok1.assign; exact rfl) | (apply Ok1.build; (iterate 5 exact rfl)) | (apply Ok1.pick_t; exact rfl; exact rfl) | (apply Ok1.pick_f; exact rfl; exact rfl) | (apply Ok1.pick_h; exact rfl; assumption; exact rfl) | (apply Ok1.pick_n; exact rfl; assumption; exact rfl) | (apply Ok1.buildA; (iterate 6 exact rfl))) | (apply R.alloc; (iterate 3 exact rfl); intro)) | (apply R.is0; first | (apply R.store; (iterate 4 exact rfl); exact hdl; exact hdo; (focus ((repeat' (first | exact Upd.head | apply Upd.tail | apply Upd.right)); done)); exact hset _ rfl) | (apply R.store; (iterate 6 exact rfl); (focus ((repeat' (first | exact Upd.head | apply Upd.tail | apply Upd.right)); done)); exact rfl) | fail) | (apply R.isG; first | (apply R.guard_run; exact rfl; exact rfl) | (apply R.guard_not; (iterate 3 exact rfl)) | (apply R.guard_not0; exact rfl; exact rfl) | (apply R.guard_un; (iterate 3 exact rfl)) | (apply R.guard_un0; exact rfl; exact rfl) | (apply R.guard rfl rfl ?_ (fun h => ⟨rfl, ?_⟩) <;> try intro)) | apply R.nil | (apply T.is; first | (apply T.drawC (id := 2) [0] (by decide); ((apply A.take 0; exact rfl; exact rfl; kernel_rfl; kernel_rfl; kernel_rfl; first | (apply Ok1.fieldAddr; (iterate 5 exact rfl))) <;> (apply A.take 1; exact rfl; exact rfl; kernel_rfl; kernel_rfl; kernel_rfl; first | (apply Ok1.load; exact rfl; first | (apply Ld.ownk; exact rfl; exact rfl; (focus ((repeat' (first | exact At.head | apply At.tail | apply At.right)); done)); exact hs4) | (apply Ld.ownk; exact rfl; exact rfl; (focus ((repeat' (first | exact At.head | apply At.tail | apply At.right)); done)); exact hs8) | (apply Ld.ownk; exact rfl; exact rfl; (focus ((repeat' (first | exact At.head | apply At.tail | apply At.right)); done)); exact hsa)) | (apply Ok1.load; exact rfl; first | (apply Ld.own1; exact rfl; exact rfl; (focus ((repeat' (first | exact At.head | apply At.tail | apply At.right)); done)); exact rfl) | (apply Ld.ownk; exact rfl; exact rfl; (focus ((repeat' (first | exact At.head | apply At.tail | apply At.right)); done)); exact rfl) | (apply Ld.old1; exact rfl; exact rfl; assumption; (first | exact List.not_mem_nil | assumption)) | (apply Ld.blk1; exact rfl; exact rfl; assumption; (first | exact List.not_mem_nil | assumption); exact rfl) | (apply Ld.blkk; exact rfl; exact rfl; assumption; (first | exact List.not_mem_nil | assumption); exact rfl))) <;> (apply A.take 2; exact rfl; exact rfl; kernel_rfl; kernel_rfl; kernel_rfl; first | (apply Ok1.build; (iterate 5 exact rfl)) | (apply Ok1.buildA; (iterate 6 exact rfl))) <;> (first | (apply A.take 3; exact rfl; exact rfl; kernel_rfl; kernel_rfl; kernel_rfl; first | (apply Ok1.eqlFq2; (iterate 7 exact rfl); exact ⟨fun _ => rfl, fun _ => rfl⟩) | (apply Ok1.eql_t; exact rfl; exact rfl; omega) | (apply Ok1.eql_f; exact rfl; exact rfl; omega) | (apply Ok1.eqlP; (iterate 5 exact rfl)) | (apply Ok1.eqlM; (iterate 5 exact rfl)) | (apply Ok1.eqlS; (iterate 5 exact rfl))) | (apply A.take 3; exact rfl; exact rfl; kernel_rfl; kernel_rfl; kernel_rfl; (first | (apply Ok1.eql; exact rfl; exact rfl) | (apply Ok1.eqlF; (iterate 7 exact rfl))); apply A.dec (t := 7); exact rfl; all_goals intro)) <;> (apply A.take 4; exact rfl; exact rfl; kernel_rfl; kernel_rfl; kernel_rfl; first | (apply Ok1.move; exact rfl)) <;> (first | (apply A.skipG 6; exact rfl; exact rfl; rotate_left 3; exact rfl; exact rfl; rotate_right 3; kernel_rfl; kernel_rfl; kernel_rfl) | (apply A.skipU 6; exact rfl; exact rfl; rotate_left 3; exact rfl; exact rfl; rotate_right 3; kernel_rfl; kernel_rfl; kernel_rfl) | (apply A.takeG 6; exact rfl; exact rfl; rotate_left 3; exact rfl; exact rfl; rotate_right 3; kernel_rfl; kernel_rfl; kernel_rfl; first | (apply Ok1.load; exact rfl; first | (apply Ld.ownk; exact rfl; exact rfl; (focus ((repeat' (first | exact At.head | apply At.tail | apply At.right)); done)); exact hs4) | (apply Ld.ownk; exact rfl; exact rfl; (focus ((repeat' (first | exact At.head | apply At.tail | apply At.right)); done)); exact hs8) | (apply Ld.ownk; exact rfl; exact rfl; (focus ((repeat' (first | exact At.head | apply At.tail | apply At.right)); done)); exact hsa)) | (apply Ok1.load; exact rfl; first | (apply Ld.own1; exact rfl; exact rfl; (focus ((repeat' (first | exact At.head | apply At.tail | apply At.right)); done)); exact rfl) | (apply Ld.ownk; exact rfl; exact rfl; (focus ((repeat' (first | exact At.head | apply At.tail | apply At.right)); done)); exact rfl) | (apply Ld.old1; exact rfl; exact rfl; assumption; (first | exact List.not_mem_nil | assumption)) | (apply Ld.blk1; exact rfl; exact rfl; assumption; (first | exact List.not_mem_nil | assumption); exact rfl) | (apply Ld.blkk; exact rfl; exact rfl; assumption; (first | exact List.not_mem_nil | assumption); exact rfl)))) <;> (apply A.one 5; kernel_rfl; exact rfl; ((first | (apply R.isG; apply R.guard_run; exact rfl; exact rfl; (first | (apply R.callE (vs := []); (iterate 3 exact rfl); exact Ext.none _; intro w1 hw1; exact rnew_ok w1; rintro v Lo ⟨bs, rfl, rfl⟩) | (apply R.callV (vs := [.pointer (some ⟨bs, 0, none⟩)]); (iterate 3 exact rfl); intro w1 hw1; exact hofn bs w1 (SetR.of GOk.new hw1 (Ext.mem (by (focus ((repeat' (first | exact Ext.none _ | exact Ext.one _ _ | exact Ext.here _ _ | exact Ext.all _ | apply Ext.cons | apply Ext.app | apply Ext.two)); done)))))) | (apply R.callV (vs := [.pointer (some ⟨bs, 0, none⟩), .agg ⟨D⟩]); (iterate 3 exact rfl); intro w1 hw1; exact hal bs w1 (SetR.of GOk.new hw1 (Ext.mem (by (focus ((repeat' (first | exact Ext.none _ | exact Ext.one _ _ | exact Ext.here _ _ | exact Ext.all _ | apply Ext.cons | apply Ext.app | apply Ext.two)); done)))))) | (apply R.pure; exact rfl; first | (apply Ok1.lenS; (iterate 3 exact rfl)) | (apply Ok1.lenStr; (iterate 3 exact rfl)) | (apply Ok1.lenMm; (iterate 3 exact rfl); (focus ((repeat' (first | exact At.head | apply At.tail | apply At.right)); done))) | (apply Ok1.lenM_nil; (iterate 3 exact rfl)) | (apply Ok1.max2; exact rfl; exact rfl) | (apply Ok1.min2; exact rfl; exact rfl)))) | (apply R.isG; first | (apply R.guard_not; (iterate 3 exact rfl)) | (apply R.guard_not0; exact rfl; exact rfl) | (apply R.guard_un; (iterate 3 exact rfl)) | (apply R.guard_un0; exact rfl; exact rfl)))); apply R.nil; refine ⟨?_, ?_⟩; (focus ((repeat' (first | exact trivial | (refine ⟨?_, ?_⟩; (focus ((repeat' (first | exact At.head | apply At.tail | apply At.right)); done)))))))) <;> (apply A.one 7; kernel_rfl; exact rfl; ((first | (apply R.isG; apply R.guard_run; exact rfl; exact rfl; (first | (apply R.callE (vs := []); (iterate 3 exact rfl); exact Ext.none _; intro w1 hw1; exact rnew_ok w1; rintro v Lo ⟨bs, rfl, rfl⟩) | (apply R.callV (vs := [.pointer (some ⟨bs, 0, none⟩)]); (iterate 3 exact rfl); intro w1 hw1; exact hofn bs w1 (SetR.of GOk.new hw1 (Ext.mem (by (focus ((repeat' (first | exact Ext.none _ | exact Ext.one _ _ | exact Ext.here _ _ | exact Ext.all _ | apply Ext.cons | apply Ext.app | apply Ext.two)); done)))))) | (apply R.callV (vs := [.pointer (some ⟨bs, 0, none⟩), .agg ⟨D⟩]); (iterate 3 exact rfl); intro w1 hw1; exact hal bs w1 (SetR.of GOk.new hw1 (Ext.mem (by (focus ((repeat' (first | exact Ext.none _ | exact Ext.one _ _ | exact Ext.here _ _ | exact Ext.all _ | apply Ext.cons | apply Ext.app | apply Ext.two)); done)))))) | (apply R.pure; exact rfl; first | (apply Ok1.lenS; (iterate 3 exact rfl)) | (apply Ok1.lenStr; (iterate 3 exact rfl)) | (apply Ok1.lenMm; (iterate 3 exact rfl); (focus ((repeat' (first | exact At.head | apply At.tail | apply At.right)); done))) | (apply Ok1.lenM_nil; (iterate 3 exact rfl)) | (apply Ok1.max2; exact rfl; exact rfl) | (apply Ok1.min2; exact rfl; exact rfl)))) | (apply R.isG; first | (apply R.guard_not; (iterate 3 exact rfl)) | (apply R.guard_not0; exact rfl; exact rfl) | (apply R.guard_un; (iterate 3 exact rfl)) | (apply R.guard_un0; exact rfl; exact rfl)))); apply R.nil; refine ⟨?_, ?_⟩; (focus ((repeat' (first | exact trivial | (refine ⟨?_, ?_⟩; (focus ((repeat' (first | exact At.head | apply At.tail | apply At.right)); done)))))))) <;> (apply A.take 8; exact rfl; exact rfl; kernel_rfl; kernel_rfl; kernel_rfl; first | (apply Ok1.pick_t; exact rfl; exact rfl) | (apply Ok1.pick_f; exact rfl; exact rfl) | (apply Ok1.pick_h; exact rfl; assumption; exact rfl) | (apply Ok1.pick_n; exact rfl; assumption; exact rfl)) <;> (apply A.take 9; exact rfl; exact rfl; kernel_rfl; kernel_rfl; kernel_rfl; first | (apply Ok1.move; exact rfl)) <;> (first | (apply A.skipG 10; exact rfl; exact rfl; rotate_left 3; exact rfl; exact rfl; rotate_right 3; kernel_rfl; kernel_rfl; kernel_rfl) | (apply A.skipU 10; exact rfl; exact rfl; rotate_left 3; exact rfl; exact rfl; rotate_right 3; kernel_rfl; kernel_rfl; kernel_rfl) | (apply A.takeG 10; exact rfl; exact rfl; rotate_left 3; exact rfl; exact rfl; rotate_right 3; kernel_rfl; kernel_rfl; kernel_rfl; first | (apply Ok1.fieldAddr; (iterate 5 exact rfl)))) <;> (first | (apply A.skipG 11; exact rfl; exact rfl; rotate_left 3; exact rfl; exact rfl; rotate_right 3; kernel_rfl; kernel_rfl; kernel_rfl) | (apply A.skipU 11; exact rfl; exact rfl; rotate_left 3; exact rfl; exact rfl; rotate_right 3; kernel_rfl; kernel_rfl; kernel_rfl) | (apply A.takeG 11; exact rfl; exact rfl; rotate_left 3; exact rfl; exact rfl; rotate_right 3; kernel_rfl; kernel_rfl; kernel_rfl; first | (apply Ok1.load; exact rfl; first | (apply Ld.ownk; exact rfl; exact rfl; (focus ((repeat' (first | exact At.head | apply At.tail | apply At.right)); done)); exact hs4) | (apply Ld.ownk; exact rfl; exact rfl; (focus ((repeat' (first | exact At.head | apply At.tail | apply At.right)); done)); exact hs8) | (apply Ld.ownk; exact rfl; exact rfl; (focus ((repeat' (first | exact At.head | apply At.tail | apply At.right)); done)); exact hsa)) | (apply Ok1.load; exact rfl; first | (apply Ld.own1; exact rfl; exact rfl; (focus ((repeat' (first | exact At.head | apply At.tail | apply At.right)); done)); exact rfl) | (apply Ld.ownk; exact rfl; exact rfl; (focus ((repeat' (first | exact At.head | apply At.tail | apply At.right)); done)); exact rfl) | (apply Ld.old1; exact rfl; exact rfl; assumption; (first | exact List.not_mem_nil | assumption)) | (apply Ld.blk1; exact rfl; exact rfl; assumption; (first | exact List.not_mem_nil | assumption); exact rfl) | (apply Ld.blkk; exact rfl; exact rfl; assumption; (first | exact List.not_mem_nil | assumption); exact rfl)))) <;> (first | (apply A.skipG 12; exact rfl; exact rfl; rotate_left 3; exact rfl; exact rfl; rotate_right 3; kernel_rfl; kernel_rfl; kernel_rfl) | (apply A.skipU 12; exact rfl; exact rfl; rotate_left 3; exact rfl; exact rfl; rotate_right 3; kernel_rfl; kernel_rfl; kernel_rfl) | (apply A.takeG 12; exact rfl; exact rfl; rotate_left 3; exact rfl; exact rfl; rotate_right 3; kernel_rfl; kernel_rfl; kernel_rfl; first | (apply Ok1.build; (iterate 5 exact rfl)) | (apply Ok1.buildA; (iterate 6 exact rfl)))) <;> (first | (apply A.skipG 13; exact rfl; exact rfl; rotate_left 3; exact rfl; exact rfl; rotate_right 3; kernel_rfl; kernel_rfl; kernel_rfl) | (apply A.skipU 13; exact rfl; exact rfl; rotate_left 3; exact rfl; exact rfl; rotate_right 3; kernel_rfl; kernel_rfl; kernel_rfl) | (apply A.takeG 13; exact rfl; exact rfl; rotate_left 3; exact rfl; exact rfl; rotate_right 3; kernel_rfl; kernel_rfl; kernel_rfl; first | (apply Ok1.neqFq2 (q := false); (iterate 5 exact rfl); exact hf8; exact rfl; exact hne) | (apply Ok1.neq_t; exact rfl; exact rfl; omega) | (apply Ok1.neq_f; exact rfl; exact rfl; omega) | (apply Ok1.neqP; (iterate 5 exact rfl)) | (apply Ok1.neqM; (iterate 5 exact rfl)) | (apply Ok1.neqS; (iterate 5 exact rfl))) | (apply A.takeG 13; exact rfl; exact rfl; rotate_left 3; exact rfl; exact rfl; rotate_right 3; kernel_rfl; kernel_rfl; kernel_rfl; (first | (apply Ok1.neq; exact rfl; exact rfl) | (apply Ok1.neqF; (iterate 7 exact rfl))); apply A.dec (t := 17); exact rfl; all_goals intro)) <;> (apply A.take 14; exact rfl; exact rfl; kernel_rfl; kernel_rfl; kernel_rfl; first | (apply Ok1.pick_t; exact rfl; exact rfl) | (apply Ok1.pick_f; exact rfl; exact rfl) | (apply Ok1.pick_h; exact rfl; assumption; exact rfl) | (apply Ok1.pick_n; exact rfl; assumption; exact rfl)) <;> (apply A.take 15; exact rfl; exact rfl; kernel_rfl; kernel_rfl; kernel_rfl; first | (apply Ok1.assign; exact rfl)) <;> (apply A.done; kernel_rfl))) | apply T.seq | apply T.region | apply T.block | apply T.scope | apply T.label | apply T.skip | apply T.exit | apply T.ret | (apply T.cond_t; exact rfl) | (apply T.cond_f; exact rfl) | (apply T.cond_h; exact rfl; assumption) | (apply T.cond_n; exact rfl; assumption) | (apply T.cond rfl <;> intro)) | apply Rnd.step)
  all_goals (apply RetOk.t; exact rfl)
  all_goals exact ⟨_, Keep.nil _, rfl, rfl⟩
end Go.Proofs.YtligpachgcmkcaaGreat
set_option linter.unusedSimpArgs false
set_option linter.unusedVariables false
namespace Go.Proofs.YtligpachgcmkcaaGreat
open Go.RowKit Go.Shelf
set_option maxRecDepth 100000
theorem same_ok (p1 p2 : Option Addr) (n1 n2 c1 c2 : Nat) (xs ys : List Int) (hn1 : n1 = xs.length) (hn2 : n2 = ys.length) (hbig : n1 ≤ 1000000000) (w : World) (h1 : RdSl w p1 u8V xs) (h2 : RdSl w p2 u8V ys) : CallW Tryz.prog 15 [.slice p1 n1 c1, .slice p2 n2 c2] w fun v _ => v = .bool (decide (xs = ys)) := by
  subst hn1 hn2
  refine enterW (tb := tb) Tryz.func15 rfl Tryz.ntmps15 rfl ?_
  by_cases hne : xs.length = ys.length
  · repeat' (first | (apply R.is1; first | (apply R.isBin; (apply R.pure; exact rfl; (apply Ok1.neq_f; exact rfl; exact rfl; omega))) | (apply R.isCall; (apply R.pure; exact rfl; (apply Ok1.lenS; (iterate 3 exact rfl)))) | (apply R.pure; exact rfl; first | (apply Ok1.move; exact rfl) | (apply Ok1.assign; exact rfl))) | apply R.nil | (apply T.is; first | apply T.seq | apply T.region | apply T.block | apply T.skip | (apply T.cond_f; exact rfl)))
    apply T.loopK (α := Nat) (I := fun i => i ≤ xs.length ∧ xs.take i = ys.take i) (σi := fun i => [(0, .slice p1 xs.length c1), (1, .slice p2 ys.length c2), (5, .int .i64 i)]) (Li := fun _ => []) (μ := fun i => xs.length - i) (i0 := 0)
    · exact ⟨Nat.zero_le _, rfl⟩
    · exact ⟨rfl, rfl, rfl, trivial⟩
    · (focus ((repeat' (exact Keep.nil _)); done))
    · intro i ⟨hi, htk⟩
      rcases Nat.lt_or_ge i xs.length with hlt | hge
      · obtain ⟨x, hx⟩ : ∃ x, xs[i]? = some x := ⟨_, List.getElem?_eq_getElem (by omega)⟩
        obtain ⟨y, hy⟩ : ∃ y, ys[i]? = some y := ⟨_, List.getElem?_eq_getElem (by omega)⟩
        obtain ⟨b1, o1, hpe1, H1⟩ := h1.at hx
        obtain ⟨b2, o2, hpe2, H2⟩ := h2.at hy
        replace H1 := H1 1 u8V_len
        replace H2 := H2 1 u8V_len
        by_cases hxy : x = y
        · repeat' (first | (apply R.is1; first | (apply R.isBin; (apply R.pure; exact rfl; first | (apply Ok1.add64; exact rfl; exact rfl; omega; omega) | (apply Ok1.lss_t; exact rfl; exact rfl; omega))) | (apply R.isCall; (apply R.pure; exact rfl; (apply Ok1.lenS; (iterate 3 exact rfl)))) | (apply R.pure; exact rfl; first | (apply Ok1.move; exact rfl) | (apply Ok1.assign; exact rfl))) | apply R.nil | (apply T.is; first | (apply T.drawC (id := 6) [] (by decide); ((apply A.take 0; exact rfl; exact rfl; kernel_rfl; kernel_rfl; kernel_rfl; (apply Ok1.move; exact rfl)) <;> (apply A.take 1; exact rfl; exact rfl; kernel_rfl; kernel_rfl; kernel_rfl; (apply Ok1.move; exact rfl)) <;> (apply A.take 2; exact rfl; exact rfl; kernel_rfl; kernel_rfl; kernel_rfl; (apply Ok1.indexAddrP; (iterate 4 exact rfl); (exact hpe1); exact rfl; omega; omega)) <;> (apply A.take 3; exact rfl; exact rfl; kernel_rfl; kernel_rfl; kernel_rfl; (apply Ok1.load; exact rfl; (apply Ld.row0 H1; exact rfl; exact List.not_mem_nil; (iterate 3 exact rfl)))) <;> (apply A.take 4; exact rfl; exact rfl; kernel_rfl; kernel_rfl; kernel_rfl; (apply Ok1.move; exact rfl)) <;> (apply A.take 5; exact rfl; exact rfl; kernel_rfl; kernel_rfl; kernel_rfl; (apply Ok1.move; exact rfl)) <;> (apply A.take 6; exact rfl; exact rfl; kernel_rfl; kernel_rfl; kernel_rfl; (apply Ok1.indexAddrP; (iterate 4 exact rfl); (exact hpe2); exact rfl; omega; omega)) <;> (apply A.take 7; exact rfl; exact rfl; kernel_rfl; kernel_rfl; kernel_rfl; (apply Ok1.load; exact rfl; (apply Ld.row0 H2; exact rfl; exact List.not_mem_nil; (iterate 3 exact rfl)))) <;> ((apply A.take 8; exact rfl; exact rfl; kernel_rfl; kernel_rfl; kernel_rfl; (apply Ok1.neq_f; exact rfl; exact rfl; omega))) <;> (apply A.done; kernel_rfl))) | apply T.seq | apply T.region | apply T.block | apply T.skip | (apply T.cond_t; exact rfl) | (apply T.cond_f; exact rfl)))
          refine ⟨i + 1, ⟨by omega, ?_⟩, by omega, ⟨rfl, rfl, rfl, trivial⟩, by (focus ((repeat' (exact Keep.nil _)); done))⟩
          rw [List.take_add_one, List.take_add_one, htk, hx, hy, hxy]
        · repeat' (first | (apply R.is1; first | (apply R.isBin; (apply R.pure; exact rfl; (apply Ok1.lss_t; exact rfl; exact rfl; omega))) | (apply R.isCall; (apply R.pure; exact rfl; (apply Ok1.lenS; (iterate 3 exact rfl)))) | (apply R.pure; exact rfl; first | (apply Ok1.move; exact rfl) | (apply Ok1.assign; exact rfl))) | apply R.nil | (apply T.is; first | (apply T.drawC (id := 6) [] (by decide); ((apply A.take 0; exact rfl; exact rfl; kernel_rfl; kernel_rfl; kernel_rfl; (apply Ok1.move; exact rfl)) <;> (apply A.take 1; exact rfl; exact rfl; kernel_rfl; kernel_rfl; kernel_rfl; (apply Ok1.move; exact rfl)) <;> (apply A.take 2; exact rfl; exact rfl; kernel_rfl; kernel_rfl; kernel_rfl; (apply Ok1.indexAddrP; (iterate 4 exact rfl); (exact hpe1); exact rfl; omega; omega)) <;> (apply A.take 3; exact rfl; exact rfl; kernel_rfl; kernel_rfl; kernel_rfl; (apply Ok1.load; exact rfl; (apply Ld.row0 H1; exact rfl; exact List.not_mem_nil; (iterate 3 exact rfl)))) <;> (apply A.take 4; exact rfl; exact rfl; kernel_rfl; kernel_rfl; kernel_rfl; (apply Ok1.move; exact rfl)) <;> (apply A.take 5; exact rfl; exact rfl; kernel_rfl; kernel_rfl; kernel_rfl; (apply Ok1.move; exact rfl)) <;> (apply A.take 6; exact rfl; exact rfl; kernel_rfl; kernel_rfl; kernel_rfl; (apply Ok1.indexAddrP; (iterate 4 exact rfl); (exact hpe2); exact rfl; omega; omega)) <;> (apply A.take 7; exact rfl; exact rfl; kernel_rfl; kernel_rfl; kernel_rfl; (apply Ok1.load; exact rfl; (apply Ld.row0 H2; exact rfl; exact List.not_mem_nil; (iterate 3 exact rfl)))) <;> ((apply A.take 8; exact rfl; exact rfl; kernel_rfl; kernel_rfl; kernel_rfl; (apply Ok1.neq_t; exact rfl; exact rfl; omega))) <;> (apply A.done; kernel_rfl))) | apply T.seq | apply T.region | apply T.block | apply T.skip | apply T.ret | (apply T.cond_t; exact rfl)))
          all_goals (apply RetOk.t; exact rfl)
          all_goals rw [decide_eq_false]
          intro e
          rw [e, hy] at hx
          cases hx
          exact hxy rfl
      · repeat' (first | (apply R.is1; first | (apply R.isBin; (apply R.pure; exact rfl; (apply Ok1.lss_f; exact rfl; exact rfl; omega))) | (apply R.isCall; (apply R.pure; exact rfl; (apply Ok1.lenS; (iterate 3 exact rfl)))) | (apply R.pure; exact rfl; first | (apply Ok1.move; exact rfl) | (apply Ok1.assign; exact rfl))) | apply R.nil | (apply T.is; first | apply T.seq | apply T.region | apply T.exit | apply T.ret | (apply T.cond_f; exact rfl)))
        (apply RetOk.t; exact rfl)
        rw [List.take_of_length_le hge, List.take_of_length_le (by omega)] at htk
        rw [decide_eq_true htk]
  · repeat' (first | (apply R.is1; first | (apply R.isBin; (apply R.pure; exact rfl; (apply Ok1.neq_t; exact rfl; exact rfl; omega))) | (apply R.isCall; (apply R.pure; exact rfl; (apply Ok1.lenS; (iterate 3 exact rfl)))) | (apply R.pure; exact rfl; first | (apply Ok1.move; exact rfl) | (apply Ok1.assign; exact rfl))) | apply R.nil | (apply T.is; first | apply T.seq | apply T.region | apply T.ret | (apply T.cond_t; exact rfl)))
    all_goals (apply RetOk.t; exact rfl)
    all_goals rw [decide_eq_false]
    exact fun e => hne (by rw [e])
end Go.Proofs.YtligpachgcmkcaaGreat
set_option linter.unusedSimpArgs false
set_option linter.unusedVariables false
namespace Go.Proofs.YtligpachgcmkcaaGreat
open Go.RowKit Go.Shelf
set_option maxRecDepth 100000
section
variable {X : Cx} {σ : Env} {L : Lst} {d : Option Nat} {ty ty2 t : TypeId} {pos : String} {af : Array Edge} {g : Option (Nat × Bool)} {x y : Operand} {k : IntKind} {i j : Int}
theorem Ok1.orCh {a b c : Int} (hx : ev σ x = some (.int .u32 (andI .u32 a b))) (hy : ev σ y = some (.int .u32 (andI .u32 (xorI .u32 a 4294967295) c))) : Ok1 X ⟨d, .binOp .or t x y ty2, ty, pos, af, g⟩ σ L (.int .u32 (chI a b c)) := by
  rw [← ch_eq]; exact Ok1.orK hx hy
theorem Ok1.orMaj {a b c : Int} (hx : ev σ x = some (.int .u32 (orI .u32 (andI .u32 a b) (andI .u32 a c)))) (hy : ev σ y = some (.int .u32 (andI .u32 b c))) : Ok1 X ⟨d, .binOp .or t x y ty2, ty, pos, af, g⟩ σ L (.int .u32 (majI a b c)) := by
  rw [← maj_eq]; exact Ok1.orK hx hy
theorem Ok1.shlE {k2 : IntKind} {m z : Int} (hx : ev σ x = some (.int k i)) (hy : ev σ y = some (.int k2 j)) (h : 0 ≤ j) (h2 : j.toNat ≤ k.bits) (hm : pw j.toNat = m) (hz : k.wrap (i * m) = z) : Ok1 X ⟨d, .binOp .shl t x y ty2, ty, pos, af, g⟩ σ L (.int k z) := by
  subst hz; exact Ok1.shl hx hy h h2 hm
end
theorem right1_ok (x n p q : Int) (h0 : 0 < n) (h1 : n < 32) (hp : pw n.toNat = p) (hq : pw (32 - n).toNat = q) : CallP Tryz.prog 63 [.int .u32 x, .int .i64 n] (.int .u32 (rotr x p q)) := by
  refine enterP (tb := tb) Tryz.func63 rfl Tryz.ntmps63 rfl fun w => ?_
  have hn : n.toNat ≤ IntKind.u32.bits := by show n.toNat ≤ 32; omega
  have hn2 : (32 - n).toNat ≤ IntKind.u32.bits := by show (32 - n).toNat ≤ 32; omega
  repeat' (first | (apply R.is1; (apply R.pure; exact rfl; (apply Ok1.assign; exact rfl))) | apply R.nil | (apply T.is; first | (apply T.drawC (id := 1) [] (by decide); ((apply A.take 0; exact rfl; exact rfl; kernel_rfl; kernel_rfl; kernel_rfl; (apply Ok1.move; exact rfl)) <;> (apply A.take 1; exact rfl; exact rfl; kernel_rfl; kernel_rfl; kernel_rfl; (apply Ok1.move; exact rfl)) <;> (apply A.take 2; exact rfl; exact rfl; kernel_rfl; kernel_rfl; kernel_rfl; (apply Ok1.shr; exact rfl; exact rfl; omega; exact hn; exact hp)) <;> (apply A.take 3; exact rfl; exact rfl; kernel_rfl; kernel_rfl; kernel_rfl; (apply Ok1.move; exact rfl)) <;> (apply A.take 4; exact rfl; exact rfl; kernel_rfl; kernel_rfl; kernel_rfl; (apply Ok1.move; exact rfl)) <;> (apply A.take 5; exact rfl; exact rfl; kernel_rfl; kernel_rfl; kernel_rfl; (apply Ok1.sub64; exact rfl; exact rfl; omega; omega)) <;> (apply A.take 6; exact rfl; exact rfl; kernel_rfl; kernel_rfl; kernel_rfl; (apply Ok1.shl; exact rfl; exact rfl; omega; exact hn2; exact hq)) <;> (apply A.take 7; exact rfl; exact rfl; kernel_rfl; kernel_rfl; kernel_rfl; (apply Ok1.orK; exact rfl; exact rfl)) <;> (apply A.take 8; exact rfl; exact rfl; kernel_rfl; kernel_rfl; kernel_rfl; (apply Ok1.assign; exact rfl)) <;> (apply A.done; kernel_rfl))) | apply T.seq | apply T.region | apply T.ret))
  (apply RetOk.t; exact rfl)
  unfold rotr
  rw [orI_comm]
  rfl
def tabV : List Value := u32s kI ++ h0I.v
theorem all_snoc (K : List Int) (i : Nat) (b : List Int) (s : H8) : allI K (i + 1) b s = mixI K ((b.drop (64 * i)).take 64) (allI K i b s) := by rw [allI_add K 1 i]; rfl
theorem pad_byt (n : Nat) : Byt (padI n) := by
  intro y hy
  rcases List.mem_cons.1 hy with rfl | hy
  · omega
  · rcases List.mem_append.1 hy with hy | hy
    · rw [List.eq_of_mem_replicate hy]; omega
    · simp only [lenI, List.mem_cons, List.not_mem_nil, or_false] at hy
      rcases hy with rfl | rfl | rfl | rfl | rfl | rfl | rfl | rfl <;> omega
theorem pad_len (n : Nat) : (padI n).length = 9 + (119 - n % 64) % 64 := by simp [padI, lenI]; omega
theorem w4 {a b c d : Int} (ha : 0 ≤ a ∧ a ≤ 255) (hb : 0 ≤ b ∧ b ≤ 255) (hc : 0 ≤ c ∧ c ≤ 255) (hd : 0 ≤ d ∧ d ≤ 255) : wr (wr (256 * wr (wr (256 * wr (wr (256 * wr (wr (256 * 0) + a)) + b)) + c)) + d) = wordI a b c d := by
  simp only [wr_mod, wordI]; omega
def cL : Code → Code | .seq a _ => a | c => c
def cR : Code → Code | .seq _ b => b | c => c
def cB : Code → Code | .block _ c => c | .loop c => c | c => c
def codeOf (f : Func) : Code := match f.body with | some c => c | none => .skip
def atY (c : Code) : Code := cB (cL (cR (cB (cB (cR (cL (cR (cR (cR (cR (cR (cR c))))))))))))
def atL4 (c : Code) : Code := cB (cR (cL (cR (atY c))))
def atL8 (c : Code) : Code := cB (cR (cL (cR (cR (cR (cR (cR (cR (cR (cR c))))))))))
def atL6 (c : Code) : Code := cB (cR (cL (cR (cR (cR (atY c))))))
theorem sum_loop4 (w : World) (bT bO bm bh bw M jm j : Nat) (km tv : List Value) (bb bk : List Int) (st : H8) (hlen : bb.length = 64 * M) (hbig : M ≤ 100000000) (hlt : j < M) (hbl : bk.length = 64) (hbb : Byt bk)
    (hgm : ∀ k, k < 64 → (u8s bb ++ km)[64 * j + k]? = some (.int .u8 (bk.getD k 0))) {Q : Post} {σ : Env} {L : Lst}
    (hs : Sub ([(2, .pointer (some ⟨bT, 0, none⟩)), (4, .pointer (some ⟨bO, 0, none⟩)), (5, .slice (some ⟨bm, 0, none⟩) (64 * M) (64 * M + jm)), (8, .pointer (some ⟨bh, 0, none⟩)), (9, .int .i64 (64 * (j : Int))), (10, .pointer (some ⟨bw, 0, none⟩)), (11, .int .i64 0)] : Env) σ) (hL : Keep L [(bw, .cells ⟨List.replicate 64 (.int .u32 0)⟩ 34 (0, 0)), (bh, .cells ⟨st.v⟩ 35 (0, 0)), (bm, .cells ⟨u8s bb ++ km⟩ 5 (0, 0)), (bT, .cells ⟨tv⟩ 37 (0, 0)), (bO, .cells ⟨List.replicate 32 (.int .u8 0)⟩ 67 (0, 0))])
    (hQ : ∀ σ' L', Sub ([(2, .pointer (some ⟨bT, 0, none⟩)), (4, .pointer (some ⟨bO, 0, none⟩)), (5, .slice (some ⟨bm, 0, none⟩) (64 * M) (64 * M + jm)), (8, .pointer (some ⟨bh, 0, none⟩)), (9, .int .i64 (64 * (j : Int))), (10, .pointer (some ⟨bw, 0, none⟩))] : Env) σ' → Keep L' [(bw, .cells ⟨u32s (schedI bk 64)⟩ 34 (0, 0)), (bh, .cells ⟨st.v⟩ 35 (0, 0)), (bm, .cells ⟨u8s bb ++ km⟩ 5 (0, 0)), (bT, .cells ⟨tv⟩ 37 (0, 0)), (bO, .cells ⟨List.replicate 32 (.int .u8 0)⟩ 67 (0, 0))] → Q (.exit 6) σ' L') :
    T ⟨Tryz.prog, tb, 266, w, []⟩ (atL4 (codeOf Tryz.f43)) Q σ L := by
  apply T.loopK (α := Nat) (I := fun i => i ≤ 64) (σi := fun i => [(2, .pointer (some ⟨bT, 0, none⟩)), (4, .pointer (some ⟨bO, 0, none⟩)), (5, .slice (some ⟨bm, 0, none⟩) (64 * M) (64 * M + jm)), (8, .pointer (some ⟨bh, 0, none⟩)), (9, .int .i64 (64 * (j : Int))), (10, .pointer (some ⟨bw, 0, none⟩)), (11, .int .i64 i)])
    (Li := fun i => [(bw, .cells ⟨u32s (schedI bk i) ++ List.replicate (64 - i) (.int .u32 0)⟩ 34 (0, 0)), (bh, .cells ⟨st.v⟩ 35 (0, 0)), (bm, .cells ⟨u8s bb ++ km⟩ 5 (0, 0)), (bT, .cells ⟨tv⟩ 37 (0, 0)), (bO, .cells ⟨List.replicate 32 (.int .u8 0)⟩ 67 (0, 0))]) (μ := fun i => 64 - i) (i0 := 0)
  · exact Nat.zero_le _
  · exact hs
  · exact hL
  · intro i hi
    have hsl := sched_len bk i
    have hnn : schedI bk (i + 1) = schedI bk i ++ [nextI bk (schedI bk i)] := rfl
    have hnx : nextI bk (schedI bk i) = nextI bk (schedI bk i) := rfl
    conv at hnx => rhs; unfold nextI
    rcases Nat.lt_or_ge i 64 with hlt2 | hge2
    · generalize schedI bk i = l at *
      obtain ⟨k, hk⟩ : ∃ k, 64 - i = k + 1 := ⟨63 - i, by omega⟩
      rw [hk]
      rcases Nat.lt_or_ge i 16 with h16 | h16
      · rw [if_pos (by omega), hsl] at hnx
        have hq := fun m (hm : m < 4) => hgm (4 * i + m) (by omega)
        have hr := fun m (hm : m < 4) => hbb (bk.getD (4 * i + m) 0) (by rw [List.getD_eq_getElem?_getD, List.getElem?_eq_getElem (by omega)]; exact List.getElem_mem _)
        have g0 : (u8s bb ++ km)[0 + (64 * (j : Int) + 4 * (i : Int) + 0).toNat * 1]? = some (.int .u8 (bk.getD (4 * i) 0)) := by rw [show 0 + (64 * (j : Int) + 4 * (i : Int) + 0).toNat * 1 = 64 * j + (4 * i + 0) by omega]; exact hq 0 (by decide)
        have g1 : (u8s bb ++ km)[0 + (64 * (j : Int) + 4 * (i : Int) + 1).toNat * 1]? = some (.int .u8 (bk.getD (4 * i + 1) 0)) := by rw [show 0 + (64 * (j : Int) + 4 * (i : Int) + 1).toNat * 1 = 64 * j + (4 * i + 1) by omega]; exact hq 1 (by decide)
        have g2 : (u8s bb ++ km)[0 + (64 * (j : Int) + 4 * (i : Int) + 2).toNat * 1]? = some (.int .u8 (bk.getD (4 * i + 2) 0)) := by rw [show 0 + (64 * (j : Int) + 4 * (i : Int) + 2).toNat * 1 = 64 * j + (4 * i + 2) by omega]; exact hq 2 (by decide)
        have g3 : (u8s bb ++ km)[0 + (64 * (j : Int) + 4 * (i : Int) + 3).toNat * 1]? = some (.int .u8 (bk.getD (4 * i + 3) 0)) := by rw [show 0 + (64 * (j : Int) + 4 * (i : Int) + 3).toNat * 1 = 64 * j + (4 * i + 3) by omega]; exact hq 3 (by decide)
        have r0 := hr 0 (by decide)
        have r1 := hr 1 (by decide)
        have r2 := hr 2 (by decide)
        have r3 := hr 3 (by decide)
        rw [Nat.add_zero] at r0
        have hw4 := w4 r0 r1 r2 r3
        clear hq hr hgm
        generalize bk.getD (4 * i) 0 = c0 at *
        generalize bk.getD (4 * i + 1) 0 = c1 at *
        generalize bk.getD (4 * i + 2) 0 = c2 at *
        generalize bk.getD (4 * i + 3) 0 = c3 at *
        have hgx : ∀ x : Int, (u32s l ++ .int .u32 x :: List.replicate k (.int .u32 0))[0 + (i : Int).toNat * 1]? = some (.int .u32 x) := by
          intro x
          rw [List.getElem?_append_right (by rw [u32s_len]; omega)]
          rw [show 0 + (i : Int).toNat * 1 - (u32s l).length = 0 by rw [u32s_len]; omega]
          rfl
        have hpx : ∀ x y : Int, setE (u32s l ++ .int .u32 x :: List.replicate k (.int .u32 0)) (0 + (i : Int).toNat * 1) [.int .u32 y] = some (u32s l ++ .int .u32 y :: List.replicate k (.int .u32 0)) := by
          intro x y
          have := setE_mid (u32s l) (vs := [.int .u32 y]) (junk := .int .u32 x :: List.replicate k (.int .u32 0)) (by simp)
          rw [show 0 + (i : Int).toNat * 1 = (u32s l).length by rw [u32s_len]; omega, this]
          simp
        rw [List.replicate_succ]
        repeat' (first | (apply R.is1; first | (apply R.isBin; (apply R.pure; exact rfl; first | (apply Ok1.add64; exact rfl; exact rfl; omega; omega) | (apply Ok1.lss_t; exact rfl; exact rfl; omega) | (apply Ok1.lss_f; exact rfl; exact rfl; omega))) | (apply R.pure; exact rfl; first | (apply Ok1.move; exact rfl) | (apply Ok1.assign; exact rfl))) | apply R.nil | (apply T.is; first | apply T.rounds 5 | (apply T.drawC (id := 21) [2] (by decide); ((apply A.take 0; exact rfl; exact rfl; kernel_rfl; kernel_rfl; kernel_rfl; (apply Ok1.move; exact rfl)) <;> (apply A.take 1; exact rfl; exact rfl; kernel_rfl; kernel_rfl; kernel_rfl; (apply Ok1.move; exact rfl)) <;> (apply A.take 2; exact rfl; exact rfl; kernel_rfl; kernel_rfl; kernel_rfl; (apply Ok1.indexAddrA; (iterate 5 exact rfl); omega; omega)) <;> (apply A.take 5; exact rfl; exact rfl; kernel_rfl; kernel_rfl; kernel_rfl; (apply Ok1.move; exact rfl)) <;> (apply A.take 6; exact rfl; exact rfl; kernel_rfl; kernel_rfl; kernel_rfl; (apply Ok1.move; exact rfl)) <;> (apply A.take 7; exact rfl; exact rfl; kernel_rfl; kernel_rfl; kernel_rfl; (apply Ok1.move; exact rfl)) <;> (apply A.take 8; exact rfl; exact rfl; kernel_rfl; kernel_rfl; kernel_rfl; (apply Ok1.mul64; exact rfl; exact rfl; omega; omega)) <;> (apply A.take 9; exact rfl; exact rfl; kernel_rfl; kernel_rfl; kernel_rfl; (apply Ok1.add64; exact rfl; exact rfl; omega; omega)) <;> (apply A.take 10; exact rfl; exact rfl; kernel_rfl; kernel_rfl; kernel_rfl; (apply Ok1.move; exact rfl)) <;> (apply A.take 11; exact rfl; exact rfl; kernel_rfl; kernel_rfl; kernel_rfl; (apply Ok1.add64; exact rfl; exact rfl; omega; omega)) <;> (apply A.take 12; exact rfl; exact rfl; kernel_rfl; kernel_rfl; kernel_rfl; (apply Ok1.indexAddr; (iterate 5 exact rfl); omega; omega)) <;> (apply A.take 13; exact rfl; exact rfl; kernel_rfl; kernel_rfl; kernel_rfl; (apply Ok1.load; exact rfl; apply Ld.own1; exact rfl; exact rfl; exact At.head; first | exact g0 | exact g1 | exact g2 | exact g3)) <;> (apply A.take 14; exact rfl; exact rfl; kernel_rfl; kernel_rfl; kernel_rfl; (apply Ok1.convU32; (iterate 5 exact rfl); omega; omega)) <;> (apply A.one 3; kernel_rfl; exact rfl; (((apply R.pure; exact rfl; (apply Ok1.load; exact rfl; apply Ld.own1; exact rfl; exact rfl; exact At.head; exact hgx _)))); apply R.nil; refine ⟨?_, ?_⟩; (focus ((repeat' (first | exact trivial | (refine ⟨?_, ?_⟩; (focus ((repeat' (first | exact At.head | apply At.tail)); done)))))))) <;> (apply A.take 4; exact rfl; exact rfl; kernel_rfl; kernel_rfl; kernel_rfl; (apply Ok1.mul32; exact rfl; exact rfl)) <;> (apply A.take 15; exact rfl; exact rfl; kernel_rfl; kernel_rfl; kernel_rfl; (apply Ok1.add32; exact rfl; exact rfl)) <;> (apply A.take 16; exact rfl; exact rfl; kernel_rfl; kernel_rfl; kernel_rfl; (apply Ok1.indexAddrA; (iterate 5 exact rfl); omega; omega)) <;> (apply A.one 17; kernel_rfl; exact rfl; (((apply R.store; (iterate 6 exact rfl); exact Upd.head; exact hpx _ _))); apply R.nil; refine ⟨?_, ?_⟩; (focus ((repeat' (first | exact trivial | (refine ⟨?_, ?_⟩; (focus ((repeat' (first | exact At.head | apply At.tail)); done)))))))) <;> (apply A.done; kernel_rfl))) | apply T.seq | apply T.region | apply T.block | apply T.skip | apply T.exit | (apply T.cond_t; exact rfl) | (apply T.cond_f; exact rfl)))
        refine ⟨i + 1, by omega, by omega, ⟨rfl, rfl, rfl, rfl, rfl, rfl, rfl, trivial⟩, ?_⟩
        have hfin : u32s (l ++ [nextI bk l]) ++ List.replicate k (.int .u32 0) = u32s l ++ .int .u32 (wr (wr (256 * wr (wr (256 * wr (wr (256 * wr (wr (256 * 0) + c0)) + c1)) + c2)) + c3)) :: List.replicate k (.int .u32 0) := by rw [hw4, hnx, u32s_app, List.append_assoc]; rfl
        rw [hnn, show 64 - (i + 1) = k by omega, hfin]
        (focus ((repeat' (first | exact Keep.nil _ | exact Ext.one _ _ | apply Keep.cons)); done))
      · rw [if_neg (by omega), hsl] at hnx
        have hput := fun x => arr_put l x (.int .u32 0) (k := k)
        rw [hsl] at hput
        have e15 : ((i : Int) - 15).toNat = i - 15 := by omega
        have e2 : ((i : Int) - 2).toNat = i - 2 := by omega
        have e16 : ((i : Int) - 16).toNat = i - 16 := by omega
        have e7 : ((i : Int) - 7).toNat = i - 7 := by omega
        have g15 : (u32s l ++ List.replicate (k + 1) (.int .u32 0))[0 + ((i : Int) - 15).toNat * 1]? = some (.int .u32 (l.getD (i - 15) 0)) := by rw [e15]; exact arr_get (by omega)
        have g2 : (u32s l ++ List.replicate (k + 1) (.int .u32 0))[0 + ((i : Int) - 2).toNat * 1]? = some (.int .u32 (l.getD (i - 2) 0)) := by rw [e2]; exact arr_get (by omega)
        have g16 : (u32s l ++ List.replicate (k + 1) (.int .u32 0))[0 + ((i : Int) - 16).toNat * 1]? = some (.int .u32 (l.getD (i - 16) 0)) := by rw [e16]; exact arr_get (by omega)
        have g7 : (u32s l ++ List.replicate (k + 1) (.int .u32 0))[0 + ((i : Int) - 7).toNat * 1]? = some (.int .u32 (l.getD (i - 7) 0)) := by rw [e7]; exact arr_get (by omega)
        generalize l.getD (i - 15) 0 = x15 at *
        generalize l.getD (i - 2) 0 = x2 at *
        generalize l.getD (i - 16) 0 = x16 at *
        generalize l.getD (i - 7) 0 = x7 at *
        repeat' (first | (apply R.is1; first | (apply R.isBin; (apply R.pure; exact rfl; first | (apply Ok1.add64; exact rfl; exact rfl; omega; omega) | (apply Ok1.lss_t; exact rfl; exact rfl; omega) | (apply Ok1.lss_f; exact rfl; exact rfl; omega))) | (apply R.pure; exact rfl; first | (apply Ok1.move; exact rfl) | (apply Ok1.assign; exact rfl))) | apply R.nil | (apply T.is; first | (apply T.drawC (id := 22) [0] (by decide); ((apply A.take 0; exact rfl; exact rfl; kernel_rfl; kernel_rfl; kernel_rfl; (apply Ok1.move; exact rfl)) <;> (apply A.take 1; exact rfl; exact rfl; kernel_rfl; kernel_rfl; kernel_rfl; (apply Ok1.sub64; exact rfl; exact rfl; omega; omega)) <;> (apply A.take 2; exact rfl; exact rfl; kernel_rfl; kernel_rfl; kernel_rfl; (apply Ok1.indexAddrA; (iterate 5 exact rfl); omega; omega)) <;> (apply A.take 3; exact rfl; exact rfl; kernel_rfl; kernel_rfl; kernel_rfl; (apply Ok1.load; exact rfl; apply Ld.own1; exact rfl; exact rfl; exact At.head; with_reducible (exact g15))) <;> (apply A.call 4; exact rfl; exact rfl; kernel_rfl; kernel_rfl; kernel_rfl; exact rfl; exact rfl; (exact fun w1 _ => (right1_ok x15 7 128 33554432 (by decide) (by decide) rfl rfl).w w1)) <;> (apply A.take 5; exact rfl; exact rfl; kernel_rfl; kernel_rfl; kernel_rfl; (apply Ok1.move; exact rfl)) <;> (apply A.take 6; exact rfl; exact rfl; kernel_rfl; kernel_rfl; kernel_rfl; (apply Ok1.sub64; exact rfl; exact rfl; omega; omega)) <;> (apply A.take 7; exact rfl; exact rfl; kernel_rfl; kernel_rfl; kernel_rfl; (apply Ok1.indexAddrA; (iterate 5 exact rfl); omega; omega)) <;> (apply A.take 8; exact rfl; exact rfl; kernel_rfl; kernel_rfl; kernel_rfl; (apply Ok1.load; exact rfl; apply Ld.own1; exact rfl; exact rfl; exact At.head; with_reducible (exact g15))) <;> (apply A.call 9; exact rfl; exact rfl; kernel_rfl; kernel_rfl; kernel_rfl; exact rfl; exact rfl; (exact fun w1 _ => (right1_ok x15 18 262144 16384 (by decide) (by decide) rfl rfl).w w1)) <;> (apply A.take 10; exact rfl; exact rfl; kernel_rfl; kernel_rfl; kernel_rfl; (apply Ok1.xorK; exact rfl; exact rfl)) <;> (apply A.take 11; exact rfl; exact rfl; kernel_rfl; kernel_rfl; kernel_rfl; (apply Ok1.move; exact rfl)) <;> (apply A.take 12; exact rfl; exact rfl; kernel_rfl; kernel_rfl; kernel_rfl; (apply Ok1.sub64; exact rfl; exact rfl; omega; omega)) <;> (apply A.take 13; exact rfl; exact rfl; kernel_rfl; kernel_rfl; kernel_rfl; (apply Ok1.indexAddrA; (iterate 5 exact rfl); omega; omega)) <;> (apply A.take 14; exact rfl; exact rfl; kernel_rfl; kernel_rfl; kernel_rfl; (apply Ok1.load; exact rfl; apply Ld.own1; exact rfl; exact rfl; exact At.head; with_reducible (exact g15))) <;> (apply A.take 15; exact rfl; exact rfl; kernel_rfl; kernel_rfl; kernel_rfl; (apply Ok1.shr; exact rfl; exact rfl; omega; exact Nat.le_of_ble_eq_true rfl; (exact pwE3))) <;> (apply A.take 16; exact rfl; exact rfl; kernel_rfl; kernel_rfl; kernel_rfl; (apply Ok1.xorK; exact rfl; exact rfl)) <;> (apply A.take 17; exact rfl; exact rfl; kernel_rfl; kernel_rfl; kernel_rfl; (apply Ok1.assign; exact rfl)) <;> (apply A.done; kernel_rfl))) | (apply T.drawC (id := 23) [0] (by decide); ((apply A.take 0; exact rfl; exact rfl; kernel_rfl; kernel_rfl; kernel_rfl; (apply Ok1.move; exact rfl)) <;> (apply A.take 1; exact rfl; exact rfl; kernel_rfl; kernel_rfl; kernel_rfl; (apply Ok1.sub64; exact rfl; exact rfl; omega; omega)) <;> (apply A.take 2; exact rfl; exact rfl; kernel_rfl; kernel_rfl; kernel_rfl; (apply Ok1.indexAddrA; (iterate 5 exact rfl); omega; omega)) <;> (apply A.take 3; exact rfl; exact rfl; kernel_rfl; kernel_rfl; kernel_rfl; (apply Ok1.load; exact rfl; apply Ld.own1; exact rfl; exact rfl; exact At.head; with_reducible (exact g2))) <;> (apply A.call 4; exact rfl; exact rfl; kernel_rfl; kernel_rfl; kernel_rfl; exact rfl; exact rfl; (exact fun w1 _ => (right1_ok x2 17 131072 32768 (by decide) (by decide) rfl rfl).w w1)) <;> (apply A.take 5; exact rfl; exact rfl; kernel_rfl; kernel_rfl; kernel_rfl; (apply Ok1.move; exact rfl)) <;> (apply A.take 6; exact rfl; exact rfl; kernel_rfl; kernel_rfl; kernel_rfl; (apply Ok1.sub64; exact rfl; exact rfl; omega; omega)) <;> (apply A.take 7; exact rfl; exact rfl; kernel_rfl; kernel_rfl; kernel_rfl; (apply Ok1.indexAddrA; (iterate 5 exact rfl); omega; omega)) <;> (apply A.take 8; exact rfl; exact rfl; kernel_rfl; kernel_rfl; kernel_rfl; (apply Ok1.load; exact rfl; apply Ld.own1; exact rfl; exact rfl; exact At.head; with_reducible (exact g2))) <;> (apply A.call 9; exact rfl; exact rfl; kernel_rfl; kernel_rfl; kernel_rfl; exact rfl; exact rfl; (exact fun w1 _ => (right1_ok x2 19 524288 8192 (by decide) (by decide) rfl rfl).w w1)) <;> (apply A.take 10; exact rfl; exact rfl; kernel_rfl; kernel_rfl; kernel_rfl; (apply Ok1.xorK; exact rfl; exact rfl)) <;> (apply A.take 11; exact rfl; exact rfl; kernel_rfl; kernel_rfl; kernel_rfl; (apply Ok1.move; exact rfl)) <;> (apply A.take 12; exact rfl; exact rfl; kernel_rfl; kernel_rfl; kernel_rfl; (apply Ok1.sub64; exact rfl; exact rfl; omega; omega)) <;> (apply A.take 13; exact rfl; exact rfl; kernel_rfl; kernel_rfl; kernel_rfl; (apply Ok1.indexAddrA; (iterate 5 exact rfl); omega; omega)) <;> (apply A.take 14; exact rfl; exact rfl; kernel_rfl; kernel_rfl; kernel_rfl; (apply Ok1.load; exact rfl; apply Ld.own1; exact rfl; exact rfl; exact At.head; with_reducible (exact g2))) <;> (apply A.take 15; exact rfl; exact rfl; kernel_rfl; kernel_rfl; kernel_rfl; (apply Ok1.shr; exact rfl; exact rfl; omega; exact Nat.le_of_ble_eq_true rfl; (exact rfl))) <;> (apply A.take 16; exact rfl; exact rfl; kernel_rfl; kernel_rfl; kernel_rfl; (apply Ok1.xorK; exact rfl; exact rfl)) <;> (apply A.take 17; exact rfl; exact rfl; kernel_rfl; kernel_rfl; kernel_rfl; (apply Ok1.assign; exact rfl)) <;> (apply A.done; kernel_rfl))) | (apply T.drawC (id := 24) [] (by decide); ((apply A.take 0; exact rfl; exact rfl; kernel_rfl; kernel_rfl; kernel_rfl; (apply Ok1.move; exact rfl)) <;> (apply A.take 1; exact rfl; exact rfl; kernel_rfl; kernel_rfl; kernel_rfl; (apply Ok1.move; exact rfl)) <;> (apply A.take 2; exact rfl; exact rfl; kernel_rfl; kernel_rfl; kernel_rfl; (apply Ok1.sub64; exact rfl; exact rfl; omega; omega)) <;> (apply A.take 3; exact rfl; exact rfl; kernel_rfl; kernel_rfl; kernel_rfl; (apply Ok1.indexAddrA; (iterate 5 exact rfl); omega; omega)) <;> (apply A.take 5; exact rfl; exact rfl; kernel_rfl; kernel_rfl; kernel_rfl; (apply Ok1.move; exact rfl)) <;> (apply A.take 7; exact rfl; exact rfl; kernel_rfl; kernel_rfl; kernel_rfl; (apply Ok1.move; exact rfl)) <;> (apply A.take 8; exact rfl; exact rfl; kernel_rfl; kernel_rfl; kernel_rfl; (apply Ok1.sub64; exact rfl; exact rfl; omega; omega)) <;> (apply A.take 9; exact rfl; exact rfl; kernel_rfl; kernel_rfl; kernel_rfl; (apply Ok1.indexAddrA; (iterate 5 exact rfl); omega; omega)) <;> (apply A.take 12; exact rfl; exact rfl; kernel_rfl; kernel_rfl; kernel_rfl; (apply Ok1.move; exact rfl)) <;> (apply A.two 4 10; kernel_rfl; exact rfl; exact rfl; rotate_left 1; (focus (((((apply R.pure; exact rfl; (apply Ok1.load; exact rfl; apply Ld.own1; exact rfl; exact rfl; exact At.head; with_reducible (exact g7))))); apply R.nil; refine ⟨?_, ?_⟩; (focus ((repeat' (exact trivial))))) <;> (apply A.one 4; kernel_rfl; exact rfl; (((apply R.pure; exact rfl; (apply Ok1.load; exact rfl; apply Ld.own1; exact rfl; exact rfl; exact At.head; with_reducible (exact g16))))); apply R.nil; refine ⟨?_, ?_⟩; (focus ((repeat' (exact trivial))))) <;> (apply A.take 6; exact rfl; exact rfl; kernel_rfl; kernel_rfl; kernel_rfl; (apply Ok1.add32; exact rfl; exact rfl)) <;> (apply A.take 11; exact rfl; exact rfl; kernel_rfl; kernel_rfl; kernel_rfl; (apply Ok1.add32; exact rfl; exact rfl)) <;> (apply A.take 13; exact rfl; exact rfl; kernel_rfl; kernel_rfl; kernel_rfl; (apply Ok1.add32; exact rfl; exact rfl)) <;> (apply A.take 14; exact rfl; exact rfl; kernel_rfl; kernel_rfl; kernel_rfl; (apply Ok1.indexAddrA; (iterate 5 exact rfl); omega; omega)) <;> (apply A.one 15; kernel_rfl; exact rfl; (((apply R.store; (iterate 6 exact rfl); exact Upd.head; exact hput _))); apply R.nil; refine ⟨?_, ?_⟩; (focus ((repeat' (exact trivial))))) <;> (apply A.done; kernel_rfl))); rotate_right 1; (focus (((((apply R.pure; exact rfl; (apply Ok1.load; exact rfl; apply Ld.own1; exact rfl; exact rfl; exact At.head; with_reducible (exact g16))))); apply R.nil; refine ⟨?_, ?_⟩; (focus ((repeat' (exact trivial))))) <;> (apply A.take 6; exact rfl; exact rfl; kernel_rfl; kernel_rfl; kernel_rfl; (apply Ok1.add32; exact rfl; exact rfl)) <;> (apply A.one 10; kernel_rfl; exact rfl; (((apply R.pure; exact rfl; (apply Ok1.load; exact rfl; apply Ld.own1; exact rfl; exact rfl; exact At.head; with_reducible (exact g7))))); apply R.nil; refine ⟨?_, ?_⟩; (focus ((repeat' (exact trivial))))) <;> (apply A.take 11; exact rfl; exact rfl; kernel_rfl; kernel_rfl; kernel_rfl; (apply Ok1.add32; exact rfl; exact rfl)) <;> (apply A.take 13; exact rfl; exact rfl; kernel_rfl; kernel_rfl; kernel_rfl; (apply Ok1.add32; exact rfl; exact rfl)) <;> (apply A.take 14; exact rfl; exact rfl; kernel_rfl; kernel_rfl; kernel_rfl; (apply Ok1.indexAddrA; (iterate 5 exact rfl); omega; omega)) <;> (apply A.one 15; kernel_rfl; exact rfl; (((apply R.store; (iterate 6 exact rfl); exact Upd.head; exact hput _))); apply R.nil; refine ⟨?_, ?_⟩; (focus ((repeat' (exact trivial))))) <;> (apply A.done; kernel_rfl)))))) | apply T.seq | apply T.region | apply T.block | apply T.skip | (apply T.cond_t; exact rfl) | (apply T.cond_f; exact rfl)))
        all_goals refine ⟨i + 1, by omega, by omega, ⟨rfl, rfl, rfl, rfl, rfl, rfl, rfl, trivial⟩, ?_⟩
        all_goals rw [hnn, hnx, show 64 - (i + 1) = k by omega]
        all_goals (focus ((repeat' (first | exact Keep.nil _ | exact Ext.one _ _ | apply Keep.cons)); done))
    · have him : i = 64 := by omega
      subst him
      rw [Nat.sub_self, List.replicate_zero, List.append_nil]
      repeat' (first | (apply R.is1; first | (apply R.isBin; (apply R.pure; exact rfl; (apply Ok1.lss_f; exact rfl; exact rfl; omega))) | (apply R.pure; exact rfl; (apply Ok1.move; exact rfl))) | apply R.nil | (apply T.is; first | apply T.seq | apply T.region | apply T.exit | (apply T.cond_f; exact rfl)))
      exact hQ _ _ ⟨rfl, rfl, rfl, rfl, rfl, rfl, trivial⟩ (by (focus ((repeat' (first | exact Keep.nil _ | exact Ext.one _ _ | apply Keep.cons)); done)))
end Go.Proofs.YtligpachgcmkcaaGreat
set_option linter.unusedSimpArgs false
set_option linter.unusedVariables false
namespace Go.Proofs.YtligpachgcmkcaaGreat
open Go.RowKit Go.Shelf
set_option maxRecDepth 100000
theorem sum_loop6 (w : World) (bT bO bm bh bw bv M jm j : Nat) (km tv us : List Value) (bb W : List Int) (st : H8) (rs : Nat → H8)
    (hgk : ∀ i, i < 64 → tv[0 + i * 1]? = some (.int .u32 (kI.getD i 0))) (hgw : ∀ i, i < 64 → us[0 + i * 1]? = some (.int .u32 (W.getD i 0))) (hr0 : rs 0 = st) (hrs : ∀ i, rs (i + 1) = stepI (rs i) (kI.getD i 0) (W.getD i 0)) {Q : Post} {σ : Env} {L : Lst}
    (hs : Sub ([(2, .pointer (some ⟨bT, 0, none⟩)), (4, .pointer (some ⟨bO, 0, none⟩)), (5, .slice (some ⟨bm, 0, none⟩) (64 * M) (64 * M + jm)), (8, .pointer (some ⟨bh, 0, none⟩)), (9, .int .i64 (64 * (j : Int))), (10, .pointer (some ⟨bw, 0, none⟩)), (15, .pointer (some ⟨bv, 0, none⟩)), (16, .int .i64 0)] : Env) σ) (hL : Keep L [(bv, .cells ⟨st.v⟩ 35 (0, 0)), (bw, .cells ⟨us⟩ 34 (0, 0)), (bh, .cells ⟨st.v⟩ 35 (0, 0)), (bm, .cells ⟨u8s bb ++ km⟩ 5 (0, 0)), (bT, .cells ⟨tv⟩ 37 (0, 0)), (bO, .cells ⟨List.replicate 32 (.int .u8 0)⟩ 67 (0, 0))])
    (hQ : ∀ σ' L', Sub ([(2, .pointer (some ⟨bT, 0, none⟩)), (4, .pointer (some ⟨bO, 0, none⟩)), (5, .slice (some ⟨bm, 0, none⟩) (64 * M) (64 * M + jm)), (8, .pointer (some ⟨bh, 0, none⟩)), (9, .int .i64 (64 * (j : Int))), (10, .pointer (some ⟨bw, 0, none⟩)), (15, .pointer (some ⟨bv, 0, none⟩))] : Env) σ' → Keep L' [(bv, .cells ⟨(rs 64).v⟩ 35 (0, 0)), (bh, .cells ⟨st.v⟩ 35 (0, 0)), (bm, .cells ⟨u8s bb ++ km⟩ 5 (0, 0)), (bT, .cells ⟨tv⟩ 37 (0, 0)), (bO, .cells ⟨List.replicate 32 (.int .u8 0)⟩ 67 (0, 0))] → Q (.exit 10) σ' L') :
    T ⟨Tryz.prog, tb, 266, w, []⟩ (atL6 (codeOf Tryz.f43)) Q σ L := by
  apply T.loopK (α := Nat) (I := fun i => i ≤ 64) (σi := fun i => [(2, .pointer (some ⟨bT, 0, none⟩)), (4, .pointer (some ⟨bO, 0, none⟩)), (5, .slice (some ⟨bm, 0, none⟩) (64 * M) (64 * M + jm)), (8, .pointer (some ⟨bh, 0, none⟩)), (9, .int .i64 (64 * (j : Int))), (10, .pointer (some ⟨bw, 0, none⟩)), (15, .pointer (some ⟨bv, 0, none⟩)), (16, .int .i64 i)])
    (Li := fun i => [(bv, .cells ⟨(rs i).v⟩ 35 (0, 0)), (bw, .cells ⟨us⟩ 34 (0, 0)), (bh, .cells ⟨st.v⟩ 35 (0, 0)), (bm, .cells ⟨u8s bb ++ km⟩ 5 (0, 0)), (bT, .cells ⟨tv⟩ 37 (0, 0)), (bO, .cells ⟨List.replicate 32 (.int .u8 0)⟩ 67 (0, 0))]) (μ := fun i => 64 - i) (i0 := 0)
  · exact Nat.zero_le _
  · exact hs
  · rw [hr0]; exact hL
  · intro i hi
    rcases Nat.lt_or_ge i 64 with hlt3 | hge3
    · have g1 := hgk i hlt3
      have g2 := hgw i hlt3
      have hst := hrs i
      generalize kI.getD i 0 = ki at *
      generalize W.getD i 0 = wi at *
      generalize rs i = s1 at *
      simp only [H8.v, H8.l, u32s, List.map_cons, List.map_nil]
      repeat' (first | (apply R.is1; first | (apply R.isBin; (apply R.pure; exact rfl; first | (apply Ok1.orCh; exact rfl; exact rfl) | (apply Ok1.orMaj; exact rfl; exact rfl) | (apply Ok1.xorK; exact rfl; exact rfl) | (apply Ok1.andK; exact rfl; exact rfl) | (apply Ok1.orK; exact rfl; exact rfl) | (apply Ok1.add32; exact rfl; exact rfl) | (apply Ok1.add64; exact rfl; exact rfl; omega; omega) | (apply Ok1.lss_t; exact rfl; exact rfl; omega))) | (apply R.pure; exact rfl; first | (apply Ok1.move; exact rfl) | (apply Ok1.load; exact rfl; (apply Ld.own1; exact rfl; exact rfl; exact At.head; exact rfl)) | (apply Ok1.assign; exact rfl) | (apply Ok1.indexAddrA; (iterate 5 exact rfl); omega; omega) | (apply Ok1.buildA; (iterate 6 exact rfl)))) | (apply R.is0; (apply R.store; (iterate 6 exact rfl); exact Upd.head; exact setE_all rfl)) | apply R.nil | (apply T.is; first | (apply T.drawC (id := 29) [0] (by decide); ((apply A.take 0; exact rfl; exact rfl; kernel_rfl; kernel_rfl; kernel_rfl; (apply Ok1.indexAddrA; (iterate 5 exact rfl); omega; omega)) <;> (apply A.take 1; exact rfl; exact rfl; kernel_rfl; kernel_rfl; kernel_rfl; (apply Ok1.load; exact rfl; (apply Ld.own1; exact rfl; exact rfl; exact At.head; exact rfl))) <;> (apply A.call 2; exact rfl; exact rfl; kernel_rfl; kernel_rfl; kernel_rfl; exact rfl; exact rfl; (exact fun w1 _ => (right1_ok s1.e 6 64 67108864 (by decide) (by decide) rfl rfl).w w1)) <;> (apply A.take 3; exact rfl; exact rfl; kernel_rfl; kernel_rfl; kernel_rfl; (apply Ok1.indexAddrA; (iterate 5 exact rfl); omega; omega)) <;> (apply A.take 4; exact rfl; exact rfl; kernel_rfl; kernel_rfl; kernel_rfl; (apply Ok1.load; exact rfl; (apply Ld.own1; exact rfl; exact rfl; exact At.head; exact rfl))) <;> (apply A.call 5; exact rfl; exact rfl; kernel_rfl; kernel_rfl; kernel_rfl; exact rfl; exact rfl; (exact fun w1 _ => (right1_ok s1.e 11 2048 2097152 (by decide) (by decide) rfl rfl).w w1)) <;> (apply A.take 6; exact rfl; exact rfl; kernel_rfl; kernel_rfl; kernel_rfl; (apply Ok1.xorK; exact rfl; exact rfl)) <;> (apply A.take 7; exact rfl; exact rfl; kernel_rfl; kernel_rfl; kernel_rfl; (apply Ok1.indexAddrA; (iterate 5 exact rfl); omega; omega)) <;> (apply A.take 8; exact rfl; exact rfl; kernel_rfl; kernel_rfl; kernel_rfl; (apply Ok1.load; exact rfl; (apply Ld.own1; exact rfl; exact rfl; exact At.head; exact rfl))) <;> (apply A.call 9; exact rfl; exact rfl; kernel_rfl; kernel_rfl; kernel_rfl; exact rfl; exact rfl; (exact fun w1 _ => (right1_ok s1.e 25 33554432 128 (by decide) (by decide) rfl rfl).w w1)) <;> (apply A.take 10; exact rfl; exact rfl; kernel_rfl; kernel_rfl; kernel_rfl; (apply Ok1.xorK; exact rfl; exact rfl)) <;> (apply A.take 11; exact rfl; exact rfl; kernel_rfl; kernel_rfl; kernel_rfl; (apply Ok1.assign; exact rfl)) <;> (apply A.done; kernel_rfl))) | (apply T.drawC (id := 31) [0,1,4] (by decide); ((apply A.take 0; exact rfl; exact rfl; kernel_rfl; kernel_rfl; kernel_rfl; (apply Ok1.indexAddrA; (iterate 5 exact rfl); omega; omega)) <;> (apply A.take 1; exact rfl; exact rfl; kernel_rfl; kernel_rfl; kernel_rfl; (apply Ok1.load; exact rfl; (apply Ld.own1; exact rfl; exact rfl; exact At.head; exact rfl))) <;> (apply A.take 2; exact rfl; exact rfl; kernel_rfl; kernel_rfl; kernel_rfl; (apply Ok1.move; exact rfl)) <;> (apply A.take 3; exact rfl; exact rfl; kernel_rfl; kernel_rfl; kernel_rfl; (apply Ok1.add32; exact rfl; exact rfl)) <;> (apply A.take 4; exact rfl; exact rfl; kernel_rfl; kernel_rfl; kernel_rfl; (apply Ok1.move; exact rfl)) <;> (apply A.take 5; exact rfl; exact rfl; kernel_rfl; kernel_rfl; kernel_rfl; (apply Ok1.add32; exact rfl; exact rfl)) <;> (apply A.take 6; exact rfl; exact rfl; kernel_rfl; kernel_rfl; kernel_rfl; (apply Ok1.move; exact rfl)) <;> (apply A.take 7; exact rfl; exact rfl; kernel_rfl; kernel_rfl; kernel_rfl; (apply Ok1.fieldAddr; (iterate 5 exact rfl))) <;> (apply A.take 8; exact rfl; exact rfl; kernel_rfl; kernel_rfl; kernel_rfl; (apply Ok1.indexAddrA; (iterate 5 exact rfl); omega; omega)) <;> (apply A.take 9; exact rfl; exact rfl; kernel_rfl; kernel_rfl; kernel_rfl; (apply Ok1.load; exact rfl; apply Ld.own1; exact rfl; exact rfl; (focus ((repeat' (first | exact At.head | apply At.tail)); done)); exact g1)) <;> (apply A.take 10; exact rfl; exact rfl; kernel_rfl; kernel_rfl; kernel_rfl; (apply Ok1.add32; exact rfl; exact rfl)) <;> (apply A.take 11; exact rfl; exact rfl; kernel_rfl; kernel_rfl; kernel_rfl; (apply Ok1.move; exact rfl)) <;> (apply A.take 12; exact rfl; exact rfl; kernel_rfl; kernel_rfl; kernel_rfl; (apply Ok1.indexAddrA; (iterate 5 exact rfl); omega; omega)) <;> (apply A.take 13; exact rfl; exact rfl; kernel_rfl; kernel_rfl; kernel_rfl; (apply Ok1.load; exact rfl; apply Ld.own1; exact rfl; exact rfl; (focus ((repeat' (first | exact At.head | apply At.tail)); done)); exact g2)) <;> (apply A.take 14; exact rfl; exact rfl; kernel_rfl; kernel_rfl; kernel_rfl; (apply Ok1.add32; exact rfl; exact rfl)) <;> (apply A.take 15; exact rfl; exact rfl; kernel_rfl; kernel_rfl; kernel_rfl; (apply Ok1.assign; exact rfl)) <;> (apply A.done; kernel_rfl))) | (apply T.drawC (id := 32) [0] (by decide); ((apply A.take 0; exact rfl; exact rfl; kernel_rfl; kernel_rfl; kernel_rfl; (apply Ok1.indexAddrA; (iterate 5 exact rfl); omega; omega)) <;> (apply A.take 1; exact rfl; exact rfl; kernel_rfl; kernel_rfl; kernel_rfl; (apply Ok1.load; exact rfl; (apply Ld.own1; exact rfl; exact rfl; exact At.head; exact rfl))) <;> (apply A.call 2; exact rfl; exact rfl; kernel_rfl; kernel_rfl; kernel_rfl; exact rfl; exact rfl; (exact fun w1 _ => (right1_ok s1.a 2 4 1073741824 (by decide) (by decide) rfl rfl).w w1)) <;> (apply A.take 3; exact rfl; exact rfl; kernel_rfl; kernel_rfl; kernel_rfl; (apply Ok1.indexAddrA; (iterate 5 exact rfl); omega; omega)) <;> (apply A.take 4; exact rfl; exact rfl; kernel_rfl; kernel_rfl; kernel_rfl; (apply Ok1.load; exact rfl; (apply Ld.own1; exact rfl; exact rfl; exact At.head; exact rfl))) <;> (apply A.call 5; exact rfl; exact rfl; kernel_rfl; kernel_rfl; kernel_rfl; exact rfl; exact rfl; (exact fun w1 _ => (right1_ok s1.a 13 8192 524288 (by decide) (by decide) rfl rfl).w w1)) <;> (apply A.take 6; exact rfl; exact rfl; kernel_rfl; kernel_rfl; kernel_rfl; (apply Ok1.xorK; exact rfl; exact rfl)) <;> (apply A.take 7; exact rfl; exact rfl; kernel_rfl; kernel_rfl; kernel_rfl; (apply Ok1.indexAddrA; (iterate 5 exact rfl); omega; omega)) <;> (apply A.take 8; exact rfl; exact rfl; kernel_rfl; kernel_rfl; kernel_rfl; (apply Ok1.load; exact rfl; (apply Ld.own1; exact rfl; exact rfl; exact At.head; exact rfl))) <;> (apply A.call 9; exact rfl; exact rfl; kernel_rfl; kernel_rfl; kernel_rfl; exact rfl; exact rfl; (exact fun w1 _ => (right1_ok s1.a 22 4194304 1024 (by decide) (by decide) rfl rfl).w w1)) <;> (apply A.take 10; exact rfl; exact rfl; kernel_rfl; kernel_rfl; kernel_rfl; (apply Ok1.xorK; exact rfl; exact rfl)) <;> (apply A.take 11; exact rfl; exact rfl; kernel_rfl; kernel_rfl; kernel_rfl; (apply Ok1.assign; exact rfl)) <;> (apply A.done; kernel_rfl))) | apply T.seq | apply T.region | apply T.block | apply T.skip | (apply T.cond_t; exact rfl)))
      refine ⟨i + 1, by omega, by omega, ⟨rfl, rfl, rfl, rfl, rfl, rfl, rfl, rfl, trivial⟩, ?_⟩
      rw [hst]
      (focus ((repeat' (first | exact Keep.nil _ | exact Ext.one _ _ | apply Keep.cons)); done))
    · have him : i = 64 := by omega
      subst him
      generalize rs 64 = t at *
      repeat' (first | (apply R.is1; first | (apply R.isBin; (apply R.pure; exact rfl; (apply Ok1.lss_f; exact rfl; exact rfl; omega))) | (apply R.pure; exact rfl; (apply Ok1.move; exact rfl))) | apply R.nil | (apply T.is; first | apply T.seq | apply T.region | apply T.exit | (apply T.cond_f; exact rfl)))
      exact hQ _ _ ⟨rfl, rfl, rfl, rfl, rfl, rfl, rfl, trivial⟩ (by (focus ((repeat' (first | exact Keep.nil _ | exact Ext.one _ _ | apply Keep.cons | apply Ext.cons)); done)))
theorem sum_loop8 (w : World) (bO bh bo : Nat) (st : H8) {Q : Post} {σ : Env} {L : Lst}
    (hs : Sub ([(4, .pointer (some ⟨bO, 0, none⟩)), (8, .pointer (some ⟨bh, 0, none⟩)), (24, .pointer (some ⟨bo, 0, none⟩)), (25, .int .i64 0)] : Env) σ) (hL : Keep L [(bo, .cells ⟨List.replicate 32 (.int .u8 0)⟩ 67 (0, 0)), (bh, .cells ⟨st.v⟩ 35 (0, 0)), (bO, .cells ⟨List.replicate 32 (.int .u8 0)⟩ 67 (0, 0))])
    (hQ : ∀ σ' L', Sub ([(4, .pointer (some ⟨bO, 0, none⟩)), (24, .pointer (some ⟨bo, 0, none⟩))] : Env) σ' → Keep L' [(bo, .cells ⟨u8s (outI st)⟩ 67 (0, 0)), (bO, .cells ⟨List.replicate 32 (.int .u8 0)⟩ 67 (0, 0))] → Q (.exit 14) σ' L') :
    T ⟨Tryz.prog, tb, 266, w, []⟩ (atL8 (codeOf Tryz.f43)) Q σ L := by
  refine T.weakK ?_ hL hs
  simp only [H8.v, H8.l, u32s, List.map_cons, List.map_nil]
  repeat' (first | (apply R.is1; first | (apply R.isBin; (apply R.pure; exact rfl; first | (apply Ok1.add64; exact rfl; exact rfl; omega; omega) | (apply Ok1.sub64; exact rfl; exact rfl; omega; omega) | (apply Ok1.lss_t; exact rfl; exact rfl; omega) | (apply Ok1.lss_f; exact rfl; exact rfl; omega) | (apply Ok1.mul64; exact rfl; exact rfl; omega; omega) | (apply Ok1.shr; exact rfl; exact rfl; omega; exact Nat.le_of_ble_eq_true rfl; (first | exact pwE8 | exact pwE16 | exact pwE24 | exact rfl)) | (apply Ok1.quo64; exact rfl; exact rfl; omega; omega; omega) | (apply Ok1.remN; exact rfl; exact rfl; omega; omega))) | (apply R.pure; exact rfl; first | (apply Ok1.move; exact rfl) | (apply Ok1.load; exact rfl; (apply Ld.own1; exact rfl; exact rfl; (focus ((repeat' (first | exact At.head | apply At.tail)); done)); exact rfl)) | (apply Ok1.assign; exact rfl) | (apply Ok1.indexAddrA; (iterate 5 exact rfl); omega; omega) | (apply Ok1.conv; (iterate 5 exact rfl)))) | (apply R.is0; (apply R.store; (iterate 6 exact rfl); exact Upd.head; exact rfl)) | apply R.nil | (apply T.is; first | apply T.rounds 33 | apply T.seq | apply T.region | apply T.block | apply T.skip | apply T.exit | (apply T.cond_t; exact rfl) | (apply T.cond_f; exact rfl)))
  refine hQ _ _ ⟨rfl, rfl, trivial⟩ ?_
  have p0 : pw 0 = 1 := rfl
  simp only [Int.reduceAdd, Int.reduceMul, Int.reduceSub, Int.reduceMod, Int.reduceToNat, p0, u8_mod, Int.ediv_one, outI, H8.l, u8s, List.flatMap_cons, List.flatMap_nil, List.map_cons, List.map_nil, List.cons_append, List.nil_append, List.append_nil]
  (focus ((repeat' (first | exact Keep.nil _ | exact Ext.one _ _ | apply Keep.cons | apply Ext.cons)); done))
theorem sum_ok (p : Option Addr) (n cap : Nat) (b : List Int) (hn : n = b.length) (hbig : n ≤ 999999000) (hb : Byt b) (w : World) (hp : RdSl w p u8V b) :
    CallW Tryz.prog 43 [.agg ⟨tabV⟩, .slice p n cap] w fun v _ => v = .agg ⟨u8s (shaI b)⟩ := by
  subst hn
  have hgk : ∀ i, i < 64 → tabV[0 + i * 1]? = some (.int .u32 (kI.getD i 0)) := fun i hi => arr_get (l := kI) (zs := h0I.v) (by rw [kI_len]; exact hi)
  have hgh : subE tabV 64 8 = some h0I.v := rfl
  have htl : tabV.length = 72 := rfl
  have hto : tabV.all Value.oneCell' = true := rfl
  have hx0 : OvOk 1 (none : Ov) 0 [] := OvOk.start 1
  generalize tabV = tv at *
  refine enterW (tb := tb) Tryz.func43 rfl Tryz.ntmps43 rfl ?_
  repeat' (first | (apply R.is1; first | (apply R.buildSlice0; (iterate 4 exact rfl); intro b0) | (apply R.isCall; first | (apply R.appendRd (xs := b) (v := u8V) (sz := 1) (ov := some (b0, 0, [])) (n := 0) (old := []); (iterate 12 exact rfl); exact ⟨rfl, rfl⟩; (focus ((repeat' (exact Ext.one _ _)); done)); exact rfl; exact u8V_len; exact rfl; (intro w1 hw1; exact hp.chg hw1.chg (Off.nil _)); (focus (rw [fl_u8]; exact u8s_one b)); omega; intro ov1 hov1 hsome; rw [fl_u8, List.nil_append, Nat.zero_add] at hov1; rw [fl_u8, List.nil_append, Nat.zero_add]) | (apply R.append1; (iterate 12 exact rfl); (focus ((repeat' (first | exact OwnAt.mid hov1 | apply OwnAt.tail)); done)); exact At.head; exact rfl; exact rfl; omega; omega; intro b2 j2 k2 hj2)) | (apply R.pure; exact rfl; first | (apply Ok1.move; exact rfl) | (apply Ok1.assign; exact rfl)) | (apply R.box; (iterate 3 exact rfl); intro) | (apply R.alloc; (iterate 3 exact rfl); intro) | (apply R.buildSlice; (iterate 12 exact rfl); intro)) | apply R.nil | (apply T.is; first | apply T.seq | apply T.region | apply T.block))
  rename_i bT bO bS
  have hovm := hov1.some (b := b2) (ys := [.int .u8 128]) (m := 1) rfl hj2
  obtain ⟨Z, hZ⟩ : ∃ Z, Z = (119 - b.length % 64) % 64 := ⟨_, rfl⟩
  apply T.loopK (α := Nat × Ov) (I := fun x => x.1 ≤ Z ∧ OvOk 1 x.2 (b.length + 1 + x.1) (u8s (b ++ 128 :: List.replicate x.1 0))) (σi := fun x => [(1, .slice p b.length cap), (2, .pointer (some ⟨bT, 0, none⟩)), (4, .pointer (some ⟨bO, 0, none⟩)), (5, slV x.2 (b.length + 1 + x.1))])
    (Li := fun x => (bT, .cells ⟨tv⟩ 37 (0, 0)) :: (bO, .cells ⟨List.replicate 32 (.int .u8 0)⟩ 67 (0, 0)) :: blkL 5 x.2 (u8s (b ++ 128 :: List.replicate x.1 0))) (μ := fun x => Z - x.1) (i0 := (0, some (b2, j2, k2)))
  · refine ⟨Nat.zero_le _, ?_⟩
    simp only [List.replicate_zero, u8s_app]
    exact hovm
  · exact ⟨rfl, rfl, rfl, rfl, trivial⟩
  · simp only [blkL, List.replicate_zero, u8s_app]
    (focus ((repeat' (first | exact Keep.nil _ | exact Ext.one _ _ | apply Keep.cons | apply Ext.cons)); done))
  · clear hov1 hovm hj2
    rintro ⟨j, ov⟩ ⟨hj, hov⟩
    simp only at hj hov ⊢
    rcases Nat.lt_or_ge j Z with hlt | hge
    · have hne : ((b.length + 1 + j : Nat) : Int) % 64 ≠ 56 := by omega
      repeat' (first | (apply R.is1; first | (apply R.isBin; (apply R.pure; exact rfl; first | (apply Ok1.neq_t; exact rfl; exact rfl; omega) | (apply Ok1.remN; exact rfl; exact rfl; omega; omega))) | (apply R.isCall; first | (apply R.pure; exact rfl; apply Ok1.lenOv; (iterate 3 exact rfl); exact hov) | (apply R.append1; (iterate 12 exact rfl); (focus ((repeat' (first | exact OwnAt.base hov | apply OwnAt.tail)); done)); exact At.head; exact rfl; exact rfl; omega; omega; intro b2 j2 k2 hj2)) | (apply R.pure; exact rfl; first | (apply Ok1.move; exact rfl) | (apply Ok1.assign; exact rfl)) | (apply R.buildSlice; (iterate 12 exact rfl); intro)) | apply R.nil | (apply T.is; first | apply T.seq | apply T.region | apply T.block | apply T.skip | (apply T.cond_t; exact rfl)))
      have hov' := hov.some (b := b2) (ys := [.int .u8 0]) (m := 1) rfl hj2
      have hu : u8s (b ++ 128 :: List.replicate (j + 1) 0) = u8s (b ++ 128 :: List.replicate j 0) ++ [.int .u8 0] := by rw [List.replicate_succ']; simp [u8s]
      refine ⟨(j + 1, some (b2, j2, k2)), ⟨by simp only; omega, by simp only [hu]; exact hov'⟩, by simp only; omega, ⟨rfl, rfl, rfl, rfl, trivial⟩, ?_⟩
      simp only [hu, blkL, List.cons_append, List.nil_append]
      (focus ((repeat' (first | exact Keep.nil _ | exact Ext.one _ _ | apply Keep.cons | apply Ext.cons)); done))
    · have hjZ : j = Z := by omega
      subst j
      have hne : ((b.length + 1 + Z : Nat) : Int) % 64 = 56 := by omega
      repeat' (first | (apply R.is1; first | (apply R.isBin; (apply R.pure; exact rfl; first | (apply Ok1.mulU; exact rfl; exact rfl; omega; omega) | (apply Ok1.neq_f; exact rfl; exact rfl; omega) | (apply Ok1.remN; exact rfl; exact rfl; omega; omega))) | (apply R.isCall; first | (apply R.pure; exact rfl; apply Ok1.lenOv; (iterate 3 exact rfl); exact hov) | (apply R.pure; exact rfl; (apply Ok1.lenS; (iterate 3 exact rfl)))) | (apply R.pure; exact rfl; first | (apply Ok1.convU64; (iterate 5 exact rfl); omega; omega) | (apply Ok1.move; exact rfl) | (apply Ok1.assign; exact rfl))) | apply R.nil | (apply T.is; first | apply T.seq | apply T.region | apply T.block | apply T.exit | (apply T.cond_f; exact rfl)))
      apply T.loopK (α := Nat × Ov) (I := fun x => x.1 ≤ 8 ∧ OvOk 1 x.2 (b.length + 1 + Z + x.1) (u8s (b ++ 128 :: (List.replicate Z 0 ++ (lenI (8 * (b.length : Int))).take x.1)))) (σi := fun x => [(2, .pointer (some ⟨bT, 0, none⟩)), (4, .pointer (some ⟨bO, 0, none⟩)), (5, slV x.2 (b.length + 1 + Z + x.1)), (6, .int .u64 (8 * (b.length : Int))), (7, .int .i64 x.1)])
        (Li := fun x => (bT, .cells ⟨tv⟩ 37 (0, 0)) :: (bO, .cells ⟨List.replicate 32 (.int .u8 0)⟩ 67 (0, 0)) :: blkL 5 x.2 (u8s (b ++ 128 :: (List.replicate Z 0 ++ (lenI (8 * (b.length : Int))).take x.1)))) (μ := fun x => 8 - x.1) (i0 := (0, ov))
      · exact ⟨Nat.zero_le _, by simpa using hov⟩
      · exact ⟨rfl, rfl, rfl, rfl, rfl, trivial⟩
      · simp only [List.take_zero, List.append_nil]
        (focus ((repeat' (first | exact Ext.one _ _ | exact Ext.all _ | apply Keep.cons | apply Keep.last)); done))
      · clear hov
        rintro ⟨m, ov⟩ ⟨hm, hov⟩
        simp only at hm hov ⊢
        rcases Nat.lt_or_ge m 8 with hlt | hge
        · have hmz : m = 0 ∨ m = 1 ∨ m = 2 ∨ m = 3 ∨ m = 4 ∨ m = 5 ∨ m = 6 ∨ m = 7 := by omega
          have hu : u8s (b ++ 128 :: (List.replicate Z 0 ++ (lenI (8 * (b.length : Int))).take (m + 1))) = u8s (b ++ 128 :: (List.replicate Z 0 ++ (lenI (8 * (b.length : Int))).take m)) ++ [.int .u8 ((lenI (8 * (b.length : Int))).getD m 0)] := by
            rcases hmz with rfl | rfl | rfl | rfl | rfl | rfl | rfl | rfl <;> simp [lenI, u8s]
          obtain ⟨sh, hsh⟩ : ∃ sh : Int, sh = pw (8 * (7 - m)) := ⟨_, rfl⟩
          have hval : IntKind.u8.wrap (8 * (b.length : Int) / sh) = (lenI (8 * (b.length : Int))).getD m 0 := by
            rw [u8_mod]
            subst hsh
            rcases hmz with rfl | rfl | rfl | rfl | rfl | rfl | rfl | rfl <;> first | rfl | (simp [lenI, pw])
          have hj8 : (56 - 8 * (m : Int)).toNat = 8 * (7 - m) := by omega
          have hsh2 : pw (56 - 8 * (m : Int)).toNat = sh := by rw [hj8]; exact hsh.symm
          have hb64 : (56 - 8 * (m : Int)).toNat ≤ IntKind.u64.bits := by rw [hj8]; show 8 * (7 - m) ≤ 64; omega
          have hsh3 : IntKind.u64.wrap (1 * sh) = sh ∧ 0 < sh := by
            subst hsh
            rcases hmz with rfl | rfl | rfl | rfl | rfl | rfl | rfl | rfl <;> exact ⟨rfl, by decide⟩
          clear hsh
          repeat' (first | (apply R.is1; first | (apply R.isBin; (apply R.pure; exact rfl; first | (apply Ok1.shlE; exact rfl; exact rfl; omega; exact hb64; exact hsh2; exact hsh3.1) | (apply Ok1.quoU; exact rfl; exact rfl; omega; exact hsh3.2; omega) | (apply Ok1.add64; exact rfl; exact rfl; omega; omega) | (apply Ok1.sub64; exact rfl; exact rfl; omega; omega) | (apply Ok1.lss_t; exact rfl; exact rfl; omega) | (apply Ok1.mul64; exact rfl; exact rfl; omega; omega))) | (apply R.isCall; (apply R.append1; (iterate 12 exact rfl); (focus ((repeat' (first | exact OwnAt.base hov | apply OwnAt.tail)); done)); exact At.head; exact rfl; exact rfl; omega; omega; intro b2 j2 k2 hj2)) | (apply R.pure; exact rfl; first | (apply Ok1.move; exact rfl) | (apply Ok1.assign; exact rfl) | (apply Ok1.conv; (iterate 5 exact rfl))) | (apply R.buildSlice; (iterate 12 exact rfl); intro)) | apply R.nil | (apply T.is; first | apply T.seq | apply T.region | apply T.block | apply T.skip | (apply T.cond_t; exact rfl)))
          have hov' := hov.some (b := b2) (ys := [.int .u8 (IntKind.u8.wrap (8 * (b.length : Int) / sh))]) (m := 1) rfl hj2
          rw [hval, ← hu] at hov'
          rw [hval, ← hu]
          refine ⟨(m + 1, some (b2, j2, k2)), ⟨by simp only; omega, hov'⟩, by simp only; omega, ⟨rfl, rfl, rfl, rfl, rfl, trivial⟩, ?_⟩
          simp only [blkL, List.cons_append, List.nil_append]
          (focus ((repeat' (first | exact Keep.nil _ | exact Ext.one _ _ | apply Keep.cons | apply Ext.cons)); done))
        · have hm8 : m = 8 := by omega
          subst hm8
          have hpad : b ++ (128 :: (List.replicate Z 0 ++ (lenI (8 * (b.length : Int))).take 8)) = b ++ padI b.length := by subst hZ; rfl
          rw [hpad] at hov ⊢
          have hpl : b.length + 1 + Z + 8 = (b ++ padI b.length).length := by rw [List.length_append, pad_len]; omega
          have hbp : Byt (b ++ padI b.length) := hb.app (pad_byt _)
          have hpb : (b ++ padI b.length).length ≤ 999999100 := by omega
          have hmod : (b ++ padI b.length).length % 64 = 0 := by rw [List.length_append, pad_len]; omega
          rw [hpl] at hov ⊢
          obtain ⟨M, hM⟩ : ∃ M, M = (b ++ padI b.length).length / 64 := ⟨_, rfl⟩
          have hsha : shaI b = outI (allI kI M (b ++ padI b.length) h0I) := by rw [hM]; rfl
          rw [hsha]
          have hlen : (b ++ padI b.length).length = 64 * M := by omega
          rw [hlen] at hov ⊢
          generalize b ++ padI b.length = bb at *
          obtain ⟨bm, jm, km, rfl⟩ := ovsome hov (by omega)
          simp only [slV, blkL]
          repeat' (first | (apply R.is1; first | (apply R.isBin; (apply R.pure; exact rfl; (apply Ok1.lss_f; exact rfl; exact rfl; omega))) | (apply R.pure; exact rfl; first | (apply Ok1.load; exact rfl; apply Ld.ownk; exact rfl; exact rfl; exact At.head; exact hgh) | (apply Ok1.move; exact rfl) | (apply Ok1.fieldAddr; (iterate 5 exact rfl)) | (apply Ok1.assign; exact rfl)) | (apply R.alloc; (iterate 3 exact rfl); intro)) | (apply R.is0; (apply R.store; (iterate 6 exact rfl); exact Upd.head; exact setE_all rfl)) | apply R.nil | (apply T.is; first | apply T.seq | apply T.region | apply T.block | apply T.exit | (apply T.cond_f; exact rfl)))
          repeat' (fail)
          rename_i bh
          apply T.loopK (α := Nat) (I := fun j => j ≤ M) (σi := fun j => [(2, .pointer (some ⟨bT, 0, none⟩)), (4, .pointer (some ⟨bO, 0, none⟩)), (5, .slice (some ⟨bm, 0, none⟩) (64 * M) (64 * M + jm)), (8, .pointer (some ⟨bh, 0, none⟩)), (9, .int .i64 (64 * (j : Int)))])
            (Li := fun j => [(bh, .cells ⟨(allI kI j bb h0I).v⟩ 35 (0, 0)), (bm, .cells ⟨u8s bb ++ km⟩ 5 (0, 0)), (bT, .cells ⟨tv⟩ 37 (0, 0)), (bO, .cells ⟨List.replicate 32 (.int .u8 0)⟩ 67 (0, 0))]) (μ := fun j => M - j) (i0 := 0)
          · exact Nat.zero_le _
          · exact ⟨rfl, rfl, rfl, rfl, rfl, trivial⟩
          · (focus ((repeat' (first | exact Keep.nil _ | exact Ext.one _ _ | apply Keep.cons | apply Ext.cons)); done))
          · intro j hj
            have hsn := all_snoc kI j bb h0I
            generalize hst0 : allI kI j bb h0I = st at *
            rcases Nat.lt_or_ge j M with hlt | hge
            · repeat' (first | (apply R.is1; first | (apply R.isBin; (apply R.pure; exact rfl; (apply Ok1.lss_t; exact rfl; exact rfl; omega))) | (apply R.isCall; (apply R.pure; exact rfl; (apply Ok1.lenS; (iterate 3 exact rfl)))) | (apply R.pure; exact rfl; first | (apply Ok1.move; exact rfl) | (apply Ok1.assign; exact rfl) | (apply Ok1.buildA; (iterate 6 exact rfl))) | (apply R.alloc; (iterate 3 exact rfl); intro)) | (apply R.is0; (apply R.store; (iterate 6 exact rfl); exact Upd.head; exact rfl)) | apply R.nil | (apply T.is; first | apply T.seq | apply T.region | apply T.block | apply T.skip | (apply T.cond_t; exact rfl)))
              rename_i bw
              obtain ⟨bk, hbk⟩ : ∃ bk, bk = (bb.drop (64 * j)).take 64 := ⟨_, rfl⟩
              have hbl : bk.length = 64 := by rw [hbk, List.length_take, List.length_drop]; omega
              have hbb : Byt bk := by rw [hbk]; exact (hbp.drop _).take _
              rw [← hbk] at hsn
              have hgm : ∀ k, k < 64 → (u8s bb ++ km)[64 * j + k]? = some (.int .u8 (bk.getD k 0)) := by
                intro k hk
                rw [List.getElem?_append_left (by rw [u8s_len]; omega)]
                simp only [u8s, List.getElem?_map, hbk, List.getD_eq_getElem?_getD, List.getElem?_take, List.getElem?_drop, hk, if_true]
                rw [List.getElem?_eq_getElem (by omega)]
                rfl
              clear hbk
              have hM8 : M ≤ 100000000 := by omega
              repeat' ((apply T.is; (refine sum_loop4 w bT bO bm bh bw M jm j km tv bb bk st hlen hM8 hlt hbl hbb hgm ?_ ?_ ?_)))
              · exact ⟨rfl, rfl, rfl, rfl, rfl, rfl, rfl, trivial⟩
              · (focus ((repeat' (first | exact Keep.nil _ | exact Ext.one _ _ | apply Keep.cons)); done))
              · intro σ' L' hs hk
                refine T.weakK (σ' := [(2, .pointer (some ⟨bT, 0, none⟩)), (4, .pointer (some ⟨bO, 0, none⟩)), (5, .slice (some ⟨bm, 0, none⟩) (64 * M) (64 * M + jm)), (8, .pointer (some ⟨bh, 0, none⟩)), (9, .int .i64 (64 * (j : Int))), (10, .pointer (some ⟨bw, 0, none⟩))]) ?_ hk hs
                have hsl := sched_len bk 64
                have hgw : ∀ i, i < 64 → (u32s (schedI bk 64))[0 + i * 1]? = some (.int .u32 ((schedI bk 64).getD i 0)) := fun i hi => by have := arr_get (l := schedI bk 64) (zs := []) (k := i) (by omega); rwa [List.append_nil] at this
                have hmix : mixI kI bk st = addH st (roundsI kI (schedI bk 64) st 64) := rfl
                have hr0 : roundsI kI (schedI bk 64) st 0 = st := rfl
                have hrs : ∀ i, roundsI kI (schedI bk 64) st (i + 1) = stepI (roundsI kI (schedI bk 64) st i) (kI.getD i 0) ((schedI bk 64).getD i 0) := fun _ => rfl
                have hsv : subE st.v 0 8 = some st.v := subE_all rfl
                clear hgm
                generalize roundsI kI (schedI bk 64) st = rs at *
                generalize hW : u32s (schedI bk 64) = us at *
                repeat' (first | (apply R.is1; first | (apply R.pure; exact rfl; first | (apply Ok1.load; exact rfl; apply Ld.ownk; exact rfl; exact rfl; (focus ((repeat' (first | exact At.head | apply At.tail)); done)); exact hsv) | (apply Ok1.assign; exact rfl)) | (apply R.alloc; (iterate 3 exact rfl); intro)) | (apply R.is0; (apply R.store; (iterate 6 exact rfl); exact Upd.head; exact setE_all rfl)) | apply R.nil | (apply T.is; first | apply T.seq | apply T.region | apply T.block))
                rename_i bv
                repeat' ((apply T.is; (refine sum_loop6 w bT bO bm bh bw bv M jm j km tv us bb (schedI bk 64) st rs hgk hgw hr0 hrs ?_ ?_ ?_)))
                · exact ⟨rfl, rfl, rfl, rfl, rfl, rfl, rfl, rfl, trivial⟩
                · (focus ((repeat' (first | exact Keep.nil _ | exact Ext.one _ _ | apply Keep.cons)); done))
                · intro σ' L' hs hk
                  refine T.weakK (σ' := [(2, .pointer (some ⟨bT, 0, none⟩)), (4, .pointer (some ⟨bO, 0, none⟩)), (5, .slice (some ⟨bm, 0, none⟩) (64 * M) (64 * M + jm)), (8, .pointer (some ⟨bh, 0, none⟩)), (9, .int .i64 (64 * (j : Int))), (10, .pointer (some ⟨bw, 0, none⟩)), (15, .pointer (some ⟨bv, 0, none⟩))]) ?_ hk hs
                  rw [hmix] at hsn
                  generalize rs 64 = t at *
                  clear hgk hgw hrs
                  simp only [H8.v, H8.l, u32s, List.map_cons, List.map_nil]
                  repeat' (first | (apply R.is1; first | (apply R.isBin; (apply R.pure; exact rfl; first | (apply Ok1.add64; exact rfl; exact rfl; omega; omega) | (apply Ok1.lss_t; exact rfl; exact rfl; omega) | (apply Ok1.lss_f; exact rfl; exact rfl; omega))) | (apply R.pure; exact rfl; first | (apply Ok1.move; exact rfl) | (apply Ok1.assign; exact rfl))) | apply R.nil | (apply T.is; first | apply T.rounds 9 | (apply T.drawC (id := 39) [0] (by decide); ((apply A.take 0; exact rfl; exact rfl; kernel_rfl; kernel_rfl; kernel_rfl; (apply Ok1.move; exact rfl)) <;> (apply A.take 1; exact rfl; exact rfl; kernel_rfl; kernel_rfl; kernel_rfl; (apply Ok1.move; exact rfl)) <;> (apply A.take 2; exact rfl; exact rfl; kernel_rfl; kernel_rfl; kernel_rfl; (apply Ok1.indexAddrA; (iterate 5 exact rfl); omega; omega)) <;> (apply A.take 4; exact rfl; exact rfl; kernel_rfl; kernel_rfl; kernel_rfl; (apply Ok1.move; exact rfl)) <;> (apply A.take 5; exact rfl; exact rfl; kernel_rfl; kernel_rfl; kernel_rfl; (apply Ok1.indexAddrA; (iterate 5 exact rfl); omega; omega)) <;> (apply A.take 6; exact rfl; exact rfl; kernel_rfl; kernel_rfl; kernel_rfl; (apply Ok1.load; exact rfl; (apply Ld.own1; exact rfl; exact rfl; exact At.head; exact rfl))) <;> (apply A.one 3; kernel_rfl; exact rfl; (((apply R.pure; exact rfl; (apply Ok1.load; exact rfl; (apply Ld.own1; exact rfl; exact rfl; (focus ((repeat' (first | exact At.head | apply At.tail)); done)); exact rfl))))); apply R.nil; refine ⟨?_, ?_⟩; (focus ((repeat' (first | exact trivial | (refine ⟨?_, ?_⟩; exact At.head)))))) <;> (apply A.take 7; exact rfl; exact rfl; kernel_rfl; kernel_rfl; kernel_rfl; (apply Ok1.add32; exact rfl; exact rfl)) <;> (apply A.take 8; exact rfl; exact rfl; kernel_rfl; kernel_rfl; kernel_rfl; (apply Ok1.indexAddrA; (iterate 5 exact rfl); omega; omega)) <;> (apply A.one 9; kernel_rfl; exact rfl; (((apply R.store; (iterate 6 exact rfl); (focus ((repeat' (first | exact Upd.head | apply Upd.tail)); done)); exact rfl))); apply R.nil; refine ⟨?_, ?_⟩; (focus ((repeat' (first | exact trivial | (refine ⟨?_, ?_⟩; exact At.head)))))) <;> (apply A.done; kernel_rfl))) | apply T.seq | apply T.region | apply T.block | apply T.skip | apply T.exit | (apply T.cond_t; exact rfl) | (apply T.cond_f; exact rfl)))
                  refine ⟨j + 1, by omega, by omega, ⟨rfl, rfl, rfl, rfl, ?_, trivial⟩, ?_⟩
                  · rw [show (64 : Int) * ((j + 1 : Nat) : Int) = 64 * (j : Int) + 64 by omega]; rfl
                  · rw [hsn]; (focus ((repeat' (first | exact Keep.nil _ | exact Ext.one _ _ | apply Keep.cons | apply Ext.cons)); done))
            · have hjM : j = M := by omega
              subst hjM
              rw [hst0]
              clear hgk hgh hsn
              have hol : (u8s (outI st)).length = 32 := by rw [u8s_len, out_len]
              have hoo := u8s_one (outI st)
              repeat' (first | (apply R.is1; first | (apply R.isBin; (apply R.pure; exact rfl; (apply Ok1.lss_f; exact rfl; exact rfl; omega))) | (apply R.isCall; (apply R.pure; exact rfl; (apply Ok1.lenS; (iterate 3 exact rfl)))) | (apply R.pure; exact rfl; first | (apply Ok1.move; exact rfl) | (apply Ok1.assign; exact rfl) | (apply Ok1.buildA; (iterate 6 exact rfl))) | (apply R.alloc; (iterate 3 exact rfl); intro)) | (apply R.is0; (apply R.store; (iterate 6 exact rfl); exact Upd.head; exact rfl)) | apply R.nil | (apply T.is; first | apply T.seq | apply T.region | apply T.block | apply T.exit | (apply T.cond_f; exact rfl)))
              rename_i bo
              refine sum_loop8 w bO bh bo st ?_ ?_ ?_
              · exact ⟨rfl, rfl, rfl, rfl, trivial⟩
              · (focus ((repeat' (first | exact Keep.nil _ | exact Ext.one _ _ | apply Keep.cons | apply Ext.cons)); done))
              · intro σ' L' hs hk
                refine T.weakK (σ' := [(4, .pointer (some ⟨bO, 0, none⟩)), (24, .pointer (some ⟨bo, 0, none⟩))]) ?_ hk hs
                repeat' (first | (apply R.is1; (apply R.pure; exact rfl; (apply Ok1.load; exact rfl; apply Ld.ownk; exact rfl; exact rfl; exact At.head; exact subE_all hol))) | (apply R.is0; (apply R.store; (iterate 4 exact rfl); exact hol; exact hoo; (focus ((repeat' (first | exact Upd.head | apply Upd.tail)); done)); exact setE_all hol)) | apply R.nil | (apply T.is; first | apply T.seq | apply T.region | apply T.ret))
                apply RetOk.c
                exact rfl
                apply Ld.ownk
                exact rfl
                exact rfl
                (focus ((repeat' (first | exact At.head | apply At.tail)); done))
                exact subE_all hol
                rfl
end Go.Proofs.YtligpachgcmkcaaGreat
