/- Contracts of revoke: all that is revoked, is one, a new set; few. -/
import Derived.Test.YtligpachgcmkcaaRv1
import Derived.Test.YtligpachgcmkcaaEng29
set_option linter.unusedSimpArgs false
set_option linter.unusedVariables false
namespace Go.Proofs.Ytligpachgcmkcaa
open Go.RowKit Go.Shelf
set_option maxRecDepth 100000

theorem lcat_snoc {gs : List Lg} {i : Nat} {g : Lg} (h : gs[i]? = some g) : lcat (gs.take (i + 1)) = lcat (gs.take i) ++ g.xs := by
  unfold lcat
  rw [List.take_add_one, h, List.flatMap_append]
  simp
theorem lcat_le {gs : List Lg} (h : ∀ g ∈ gs, g.xs.length ≤ 256) : (lcat gs).length ≤ 256 * gs.length := by
  induction gs with
  | nil => simp [lcat]
  | cons g gs ih =>
    have h1 := h g List.mem_cons_self
    have h2 := ih fun x hx => h x (List.mem_cons_of_mem _ hx)
    simp only [lcat, List.flatMap_cons, List.length_append, List.length_cons] at *
    omega
theorem GOk.cat {gs : List Lg} (hg : GOk gs) (i : Nat) : (lcat (gs.take i)).length ≤ 1024 := by
  have := lcat_le (gs := gs.take i) fun g h => hg.le g (List.mem_of_mem_take h)
  have h2 : (gs.take i).length ≤ 4 := by rw [List.length_take, hg.len]; omega
  omega
theorem rall_nil (w : World) : CallM Try.prog 13 [.pointer none] [] w fun v L => ∃ ov, OvOk 1 ov 0 [] ∧ v = slV ov 0 ∧ L = blkL 3 ov [] := by
  have h := log_nil
  have hs := fun w1 => isort_ok [] (by decide) none ⟨rfl, rfl⟩ w1
  have hc := fun w1 => icompact_ok [] (by decide) none ⟨rfl, rfl⟩ w1
  refine enterK (tb := tb) Try.func13 rfl Try.ntmps13 rfl ?_
  repeat' (first | (apply R.is1; first | (apply R.isBin; (apply R.pure; exact rfl; first | (apply Ok1.add64; exact rfl; exact rfl; omega; omega) | (apply Ok1.lss_t; exact rfl; exact rfl; omega) | (apply Ok1.lss_f; exact rfl; exact rfl; omega))) | (apply R.isCall; first | apply R.callP rfl rfl rfl (h _) | (apply R.append0 (ov := none) (n := 0); (iterate 8 exact rfl); (intro _; rfl)) | (apply R.callE (vs := [.slice none 0 0]); (iterate 3 exact rfl); exact Ext.none _; intro w1 hw1; exact hs w1; rintro v Lo ⟨rfl, rfl⟩) | (apply R.callE (vs := [.slice none 0 0]); (iterate 3 exact rfl); exact Ext.none _; intro w1 hw1; exact hc w1; rintro v Lo ⟨ov2, hov2, rfl, rfl⟩)) | (apply R.pure; exact rfl; first | (apply Ok1.move; exact rfl) | (apply Ok1.assign; exact rfl))) | apply R.nil | (apply T.is; first | apply T.rounds 5 | apply T.seq | apply T.region | apply T.block | apply T.skip | apply T.exit | apply T.ret | (apply T.cond_t; exact rfl) | (apply T.cond_f; exact rfl)))
  all_goals (apply RetOk.t; exact rfl)
  all_goals exact ⟨_, by (focus ((repeat' (first | exact Ext.here _ _ | apply Keep.last)); done)), ov2, hov2, rfl, rfl⟩
theorem rall_ok (bs : Nat) (gs : List Lg) (hg : GOk gs) (w : World) (hs : SetR w bs gs) :
    CallM Try.prog 13 [.pointer (some ⟨bs, 0, none⟩)] [] w fun v L => ∃ ov, OvOk 1 ov (uniq (lcat gs)).length (iis (uniq (lcat gs))) ∧ v = slV ov (uniq (lcat gs)).length ∧ L = blkL 3 ov (iis (uniq (lcat gs))) := by
  have hlog := fun i g hi w1 (hc : Chg [] w w1) => log_ok bs gs hg i g hi w1 (hs.chg hc)
  refine enterK (tb := tb) Try.func13 rfl Try.ntmps13 rfl ?_
  repeat' (first | (apply R.is1; (apply R.pure; exact rfl; first | (apply Ok1.move; exact rfl) | (apply Ok1.assign; exact rfl))) | apply R.nil | (apply T.is; first | apply T.seq | apply T.region | apply T.block))
  apply T.loopK (α := Nat × Ov) (I := fun y => y.1 ≤ 4 ∧ OvOk 1 y.2 (lcat (gs.take y.1)).length (iis (lcat (gs.take y.1)))) (σi := fun y => [(0, .pointer (some ⟨bs, 0, none⟩)), (3, slV y.2 (lcat (gs.take y.1)).length), (5, .int .i64 y.1)]) (Li := fun y => blkL 3 y.2 (iis (lcat (gs.take y.1)))) (μ := fun y => 4 - y.1) (i0 := (0, none))
  · exact ⟨Nat.zero_le _, rfl, rfl⟩
  · exact ⟨rfl, rfl, rfl, trivial⟩
  · exact Keep.nil _
  · rintro ⟨i, ov⟩ ⟨hi, hov⟩
    simp only at hi hov ⊢
    have hle := hg.cat i
    rcases Nat.lt_or_ge i 4 with hlt | hge
    · obtain ⟨g, hx⟩ : ∃ g, gs[i]? = some g := ⟨_, List.getElem?_eq_getElem (by rw [hg.len]; omega)⟩
      have hgl := hg.le g (List.mem_of_getElem? hx)
      have h1 := hlog i g hx
      have hsn := lcat_snoc hx
      have hl := congrArg List.length hsn
      rw [List.length_append] at hl
      repeat' (first | (apply R.is1; first | (apply R.isBin; (apply R.pure; exact rfl; first | (apply Ok1.add64; exact rfl; exact rfl; omega; omega) | (apply Ok1.lss_t; exact rfl; exact rfl; omega))) | (apply R.isCall; first | (apply R.callE (vs := [.pointer (some ⟨bs, 0, none⟩), .int .i64 i]); (iterate 3 exact rfl); exact Ext.none _; intro w1 hw1; exact h1 w1 hw1.chg; rintro v Lo ⟨ov2, hov2, rfl, rfl⟩) | (apply R.appendSl (ov := ov) (ov2 := ov2) (n := (lcat (gs.take i)).length) (m := g.xs.length) (old := iis (lcat (gs.take i))) (news := iis g.xs) (e3 := 3); (iterate 12 exact rfl); exact hov; exact hov2; (focus ((repeat' (first | exact Ext.all _ | apply Ext.app)); done)); exact Ext.mem (by (focus ((repeat' (exact Ext.here _ _)); done))); exact iis_one _; omega; intro ov1 hov1; rw [← iis_app, ← hsn, ← hl] at hov1; rw [← iis_app, ← hsn, ← hl])) | (apply R.pure; exact rfl; first | (apply Ok1.move; exact rfl) | (apply Ok1.assign; exact rfl))) | apply R.nil | (apply T.is; first | apply T.seq | apply T.region | apply T.block | apply T.skip | (apply T.cond_t; exact rfl)))
      exact ⟨(i + 1, ov1), ⟨by simp only; omega, hov1⟩, by simp only; omega, ⟨rfl, rfl, rfl, trivial⟩, by (focus ((repeat' (first | exact Ext.here _ _ | apply Keep.last)); done))⟩
    · have him : i = 4 := by omega
      subst him
      have htk : gs.take 4 = gs := List.take_of_length_le (by rw [hg.len]; omega)
      rw [htk] at hov hle ⊢
      have hsl : (srt (lcat gs)).length = (lcat gs).length := (srt_perm _).length_eq
      have hso := fun w1 => isort_ok (lcat gs) (by omega) ov hov w1
      have hco := fun w1 => icompact_ok (srt (lcat gs)) (by omega) ov ⟨by rw [iis_len, Nat.mul_one], by have := hov.2; cases ov with | none => simp only at this ⊢; omega | some q => exact this⟩ w1
      rw [hsl] at hco
      repeat' (first | (apply R.is1; first | (apply R.isBin; (apply R.pure; exact rfl; (apply Ok1.lss_f; exact rfl; exact rfl; omega))) | (apply R.isCall; first | (apply R.callE (vs := [slV ov (lcat gs).length]); (iterate 3 exact rfl); exact Ext.all _; intro w1 hw1; exact hso w1; rintro v Lo ⟨rfl, rfl⟩) | (apply R.callE (vs := [slV ov (lcat gs).length]); (iterate 3 exact rfl); exact Ext.here _ _; intro w1 hw1; exact hco w1; rintro v Lo ⟨ov2, hov2, rfl, rfl⟩)) | (apply R.pure; exact rfl; first | (apply Ok1.move; exact rfl) | (apply Ok1.assign; exact rfl))) | apply R.nil | (apply T.is; first | apply T.seq | apply T.region | apply T.exit | apply T.ret | (apply T.cond_f; exact rfl)))
      (apply RetOk.t; exact rfl)
      exact ⟨_, by (focus ((repeat' (first | exact Ext.here _ _ | apply Keep.last)); done)), ov2, hov2, rfl, rfl⟩
end Go.Proofs.Ytligpachgcmkcaa
