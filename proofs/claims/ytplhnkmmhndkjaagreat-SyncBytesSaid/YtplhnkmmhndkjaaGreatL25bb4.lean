/- Texts of the proof: Da2, Rg0, Rg1, Dn2, Sm1, Rf1, Rf6, Dd1, Dd2, Dd3, Eng17, So1, Tk1, L08x, Dd6, Sy1, Sy2, Sy4, Sy3, Sy8, Sy9, Sy10, Sy5, Sy6. -/
import Derived.Test.YtplhnkmmhndkjaaGreatL25bb3
import Derived.Shelf.SlSortCmp.WholeK
import Derived.Test.YtplhnkmmhndkjaaGreatShelf
set_option linter.unusedSimpArgs false
set_option linter.unusedVariables false
namespace Go.Proofs.YtplhnkmmhndkjaaGreat
open Go.RowKit Go.Shelf
set_option maxRecDepth 100000
def VR (vs : List Int) : Prop := ∀ x ∈ vs, 0 ≤ x ∧ x ≤ 256
instance (vs : List Int) : Decidable (VR vs) := by unfold VR; infer_instance
theorem dright1_ok (x : Int) : CallP Tryz.prog 107 [.int .i64 x] (.bool (decide (x < 0 ∨ 256 < x))) := by
  refine enterP (tb := tb) Tryz.func107 rfl Tryz.ntmps107 rfl fun w => ?_
  by_cases h0 : x < 0
  · rw [decide_eq_true (.inl h0)]
    repeat' (first | (apply R.is1; first | (apply R.isBin; first | (apply R.pure; exact rfl; first | (apply Ok1.lss_t; exact rfl; exact rfl; omega) | (apply Ok1.lss_f; exact rfl; exact rfl; omega) | (apply Ok1.gtr_t; exact rfl; exact rfl; omega) | (apply Ok1.gtr_f; exact rfl; exact rfl; omega)) | (apply R.lss rfl rfl rfl <;> intro) | (apply R.gtr rfl rfl rfl <;> intro)) | (apply R.pure; exact rfl; first | (apply Ok1.move; exact rfl) | (apply Ok1.assign; exact rfl) | (apply Ok1.pick_t; exact rfl; exact rfl) | (apply Ok1.pick_f; exact rfl; exact rfl) | (apply Ok1.pick_h; exact rfl; assumption; exact rfl) | (apply Ok1.pick_n; exact rfl; assumption; exact rfl))) | (apply R.is0; first | fail) | (apply R.isG; first | (apply R.guard_run; exact rfl; exact rfl) | (apply R.guard_not; (iterate 3 exact rfl)) | (apply R.guard_not0; exact rfl; exact rfl) | (apply R.guard_un; (iterate 3 exact rfl)) | (apply R.guard_un0; exact rfl; exact rfl) | (apply R.guard rfl rfl ?_ (fun h => ⟨rfl, ?_⟩) <;> try intro)) | apply R.nil | (apply T.is; first | apply T.seq | apply T.region | apply T.block | apply T.scope | apply T.label | apply T.skip | apply T.exit | apply T.ret | (apply T.cond_t; exact rfl) | (apply T.cond_f; exact rfl) | (apply T.cond_h; exact rfl; assumption) | (apply T.cond_n; exact rfl; assumption) | (apply T.cond rfl <;> intro)) | apply Rnd.step)
    (apply RetOk.t; exact rfl)
    rfl
  · by_cases h1 : 256 < x
    · rw [decide_eq_true (.inr h1)]
      repeat' (first | (apply R.is1; first | (apply R.isBin; first | (apply R.pure; exact rfl; first | (apply Ok1.lss_t; exact rfl; exact rfl; omega) | (apply Ok1.lss_f; exact rfl; exact rfl; omega) | (apply Ok1.gtr_t; exact rfl; exact rfl; omega) | (apply Ok1.gtr_f; exact rfl; exact rfl; omega)) | (apply R.lss rfl rfl rfl <;> intro) | (apply R.gtr rfl rfl rfl <;> intro)) | (apply R.pure; exact rfl; first | (apply Ok1.move; exact rfl) | (apply Ok1.assign; exact rfl) | (apply Ok1.pick_t; exact rfl; exact rfl) | (apply Ok1.pick_f; exact rfl; exact rfl) | (apply Ok1.pick_h; exact rfl; assumption; exact rfl) | (apply Ok1.pick_n; exact rfl; assumption; exact rfl))) | (apply R.is0; first | fail) | (apply R.isG; first | (apply R.guard_run; exact rfl; exact rfl) | (apply R.guard_not; (iterate 3 exact rfl)) | (apply R.guard_not0; exact rfl; exact rfl) | (apply R.guard_un; (iterate 3 exact rfl)) | (apply R.guard_un0; exact rfl; exact rfl) | (apply R.guard rfl rfl ?_ (fun h => ⟨rfl, ?_⟩) <;> try intro)) | apply R.nil | (apply T.is; first | apply T.seq | apply T.region | apply T.block | apply T.scope | apply T.label | apply T.skip | apply T.exit | apply T.ret | (apply T.cond_t; exact rfl) | (apply T.cond_f; exact rfl) | (apply T.cond_h; exact rfl; assumption) | (apply T.cond_n; exact rfl; assumption) | (apply T.cond rfl <;> intro)) | apply Rnd.step)
      (apply RetOk.t; exact rfl)
      rfl
    · rw [decide_eq_false (by omega)]
      repeat' (first | (apply R.is1; first | (apply R.isBin; first | (apply R.pure; exact rfl; first | (apply Ok1.lss_t; exact rfl; exact rfl; omega) | (apply Ok1.lss_f; exact rfl; exact rfl; omega) | (apply Ok1.gtr_t; exact rfl; exact rfl; omega) | (apply Ok1.gtr_f; exact rfl; exact rfl; omega)) | (apply R.lss rfl rfl rfl <;> intro) | (apply R.gtr rfl rfl rfl <;> intro)) | (apply R.pure; exact rfl; first | (apply Ok1.move; exact rfl) | (apply Ok1.assign; exact rfl) | (apply Ok1.pick_t; exact rfl; exact rfl) | (apply Ok1.pick_f; exact rfl; exact rfl) | (apply Ok1.pick_h; exact rfl; assumption; exact rfl) | (apply Ok1.pick_n; exact rfl; assumption; exact rfl))) | (apply R.is0; first | fail) | (apply R.isG; first | (apply R.guard_run; exact rfl; exact rfl) | (apply R.guard_not; (iterate 3 exact rfl)) | (apply R.guard_not0; exact rfl; exact rfl) | (apply R.guard_un; (iterate 3 exact rfl)) | (apply R.guard_un0; exact rfl; exact rfl) | (apply R.guard rfl rfl ?_ (fun h => ⟨rfl, ?_⟩) <;> try intro)) | apply R.nil | (apply T.is; first | apply T.seq | apply T.region | apply T.block | apply T.scope | apply T.label | apply T.skip | apply T.exit | apply T.ret | (apply T.cond_t; exact rfl) | (apply T.cond_f; exact rfl) | (apply T.cond_h; exact rfl; assumption) | (apply T.cond_n; exact rfl; assumption) | (apply T.cond rfl <;> intro)) | apply Rnd.step)
      (apply RetOk.t; exact rfl)
      rfl
theorem vright_ok (vs : List Int) (hl : vs.length = 4) : CallP Tryz.prog 74 [.agg ⟨iis vs⟩] (.bool (decide (VR vs))) := by
  have hc := fun p w1 h => conF_ok p 4 4 vs hl.symm (by decide) 107 rfl _ dright1_ok w1 h
  have he : (vs.any fun x => decide (x < 0 ∨ 256 < x)) = !decide (VR vs) := by
    by_cases hs : VR vs
    · rw [decide_eq_true hs]
      cases h4 : vs.any fun x => decide (x < 0 ∨ 256 < x) with
      | false => rfl
      | true =>
        obtain ⟨x, hx, hb⟩ := List.any_eq_true.1 h4
        have := hs x hx
        have := of_decide_eq_true hb
        omega
    · rw [decide_eq_false hs]
      cases h4 : vs.any fun x => decide (x < 0 ∨ 256 < x) with
      | true => rfl
      | false =>
        refine absurd (fun x hx => ?_) hs
        have := List.any_eq_false.1 h4 x hx
        simp only [decide_eq_true_eq] at this
        omega
  rw [he] at hc
  generalize decide (VR vs) = q at *
  have hil : (iis vs).length = 4 := by rw [iis_len, hl]
  refine enterP (tb := tb) Tryz.func74 rfl Tryz.ntmps74 rfl fun w => ?_
  cases q
  · repeat' (first | (apply R.is1; first | (apply R.isCall; first | (apply R.callV; (iterate 3 exact rfl); intro w1 hw1; exact hc _ w1 (RdSl.of (junk := []) hw1 (by (focus ((repeat' (first | exact At.head | apply At.tail | apply At.right)); done))) (by rw [fl_i, List.append_nil])))) | (apply R.pure; exact rfl; first | (apply Ok1.sliceArr; (iterate 4 exact rfl)) | (apply Ok1.assign; exact rfl) | (apply Ok1.not_t; exact rfl) | (apply Ok1.not_f; exact rfl) | (apply Ok1.not; exact rfl) | (apply Ok1.neg; exact rfl) | (apply Ok1.slice0; (iterate 7 exact rfl); (refine ⟨?_, ?_, ?_⟩ <;> omega); (first | exact Or.inl rfl | exact Or.inr (fun e => by cases e))) | (apply Ok1.sliceTo; (iterate 6 exact rfl); omega; omega; omega; (first | exact Or.inl rfl | exact Or.inr (fun e => by cases e))) | (apply Ok1.sliceFrom; (iterate 7 exact rfl); omega; omega; omega; omega; omega; (first | exact Or.inl rfl | exact Or.inr (fun e => by cases e)))) | (apply R.box; (iterate 3 exact rfl); intro)) | (apply R.is0; first | fail) | (apply R.isG; first | (apply R.guard_run; exact rfl; exact rfl) | (apply R.guard_not; (iterate 3 exact rfl)) | (apply R.guard_not0; exact rfl; exact rfl) | (apply R.guard_un; (iterate 3 exact rfl)) | (apply R.guard_un0; exact rfl; exact rfl) | (apply R.guard rfl rfl ?_ (fun h => ⟨rfl, ?_⟩) <;> try intro)) | apply R.nil | (apply T.is; first | apply T.seq | apply T.region | apply T.block | apply T.scope | apply T.label | apply T.skip | apply T.exit | apply T.ret | (apply T.cond_t; exact rfl) | (apply T.cond_f; exact rfl) | (apply T.cond_h; exact rfl; assumption) | (apply T.cond_n; exact rfl; assumption) | (apply T.cond rfl <;> intro)) | apply Rnd.step)
    (apply RetOk.t; exact rfl)
    rfl
  · repeat' (first | (apply R.is1; first | (apply R.isCall; first | (apply R.callV; (iterate 3 exact rfl); intro w1 hw1; exact hc _ w1 (RdSl.of (junk := []) hw1 (by (focus ((repeat' (first | exact At.head | apply At.tail | apply At.right)); done))) (by rw [fl_i, List.append_nil])))) | (apply R.pure; exact rfl; first | (apply Ok1.sliceArr; (iterate 4 exact rfl)) | (apply Ok1.assign; exact rfl) | (apply Ok1.not_t; exact rfl) | (apply Ok1.not_f; exact rfl) | (apply Ok1.not; exact rfl) | (apply Ok1.neg; exact rfl) | (apply Ok1.slice0; (iterate 7 exact rfl); (refine ⟨?_, ?_, ?_⟩ <;> omega); (first | exact Or.inl rfl | exact Or.inr (fun e => by cases e))) | (apply Ok1.sliceTo; (iterate 6 exact rfl); omega; omega; omega; (first | exact Or.inl rfl | exact Or.inr (fun e => by cases e))) | (apply Ok1.sliceFrom; (iterate 7 exact rfl); omega; omega; omega; omega; omega; (first | exact Or.inl rfl | exact Or.inr (fun e => by cases e)))) | (apply R.box; (iterate 3 exact rfl); intro)) | (apply R.is0; first | fail) | (apply R.isG; first | (apply R.guard_run; exact rfl; exact rfl) | (apply R.guard_not; (iterate 3 exact rfl)) | (apply R.guard_not0; exact rfl; exact rfl) | (apply R.guard_un; (iterate 3 exact rfl)) | (apply R.guard_un0; exact rfl; exact rfl) | (apply R.guard rfl rfl ?_ (fun h => ⟨rfl, ?_⟩) <;> try intro)) | apply R.nil | (apply T.is; first | apply T.seq | apply T.region | apply T.block | apply T.scope | apply T.label | apply T.skip | apply T.exit | apply T.ret | (apply T.cond_t; exact rfl) | (apply T.cond_f; exact rfl) | (apply T.cond_h; exact rfl; assumption) | (apply T.cond_n; exact rfl; assumption) | (apply T.cond rfl <;> intro)) | apply Rnd.step)
    (apply RetOk.t; exact rfl)
    rfl
theorem rvright_ok (v0 v1 v2 v3 : Int) : CallP Tryz.prog 45 [.agg ⟨iis [v0, v1, v2, v3]⟩] (.bool (decide (VR [v0, v1, v2, v3]))) := by
  have he : VR [v0, v1, v2, v3] ↔ (0 ≤ v0 ∧ v0 ≤ 256) ∧ (0 ≤ v1 ∧ v1 ≤ 256) ∧ (0 ≤ v2 ∧ v2 ≤ 256) ∧ (0 ≤ v3 ∧ v3 ≤ 256) := by simp [VR]
  refine enterP (tb := tb) Tryz.func45 rfl Tryz.ntmps45 rfl fun w => ?_
  repeat' (first | (apply R.is1; first | (apply R.isBin; first | (apply R.pure; exact rfl; first | (apply Ok1.add64; exact rfl; exact rfl; omega; omega) | (apply Ok1.lss_t; exact rfl; exact rfl; omega) | (apply Ok1.lss_f; exact rfl; exact rfl; omega) | (apply Ok1.gtr_t; exact rfl; exact rfl; omega) | (apply Ok1.gtr_f; exact rfl; exact rfl; omega)) | (apply R.lss rfl rfl rfl <;> intro) | (apply R.gtr rfl rfl rfl <;> intro)) | (apply R.pure; exact rfl; first | (apply Ok1.move; exact rfl) | (apply Ok1.load; exact rfl; first | (apply Ld.own1; exact rfl; exact rfl; (focus ((repeat' (first | exact At.head | apply At.tail | apply At.right)); done)); exact rfl) | (apply Ld.ownk; exact rfl; exact rfl; (focus ((repeat' (first | exact At.head | apply At.tail | apply At.right)); done)); exact rfl) | (apply Ld.old1; exact rfl; exact rfl; assumption; (first | exact List.not_mem_nil | assumption)) | (apply Ld.blk1; exact rfl; exact rfl; assumption; (first | exact List.not_mem_nil | assumption); exact rfl) | (apply Ld.blkk; exact rfl; exact rfl; assumption; (first | exact List.not_mem_nil | assumption); exact rfl)) | (apply Ok1.assign; exact rfl) | (apply Ok1.indexAddr; (iterate 5 exact rfl); omega; omega) | (apply Ok1.indexAddrA; (iterate 5 exact rfl); omega; omega) | (apply Ok1.pick_t; exact rfl; exact rfl) | (apply Ok1.pick_f; exact rfl; exact rfl) | (apply Ok1.pick_h; exact rfl; assumption; exact rfl) | (apply Ok1.pick_n; exact rfl; assumption; exact rfl)) | (apply R.box; (iterate 3 exact rfl); intro)) | (apply R.is0; first | fail) | (apply R.isG; first | (apply R.guard_run; exact rfl; exact rfl) | (apply R.guard_not; (iterate 3 exact rfl)) | (apply R.guard_not0; exact rfl; exact rfl) | (apply R.guard_un; (iterate 3 exact rfl)) | (apply R.guard_un0; exact rfl; exact rfl) | (apply R.guard rfl rfl ?_ (fun h => ⟨rfl, ?_⟩) <;> try intro)) | apply R.nil | (apply T.is; first | apply T.rounds 5 | apply T.seq | apply T.region | apply T.block | apply T.scope | apply T.label | apply T.skip | apply T.exit | apply T.ret | (apply T.cond_t; exact rfl) | (apply T.cond_f; exact rfl) | (apply T.cond_h; exact rfl; assumption) | (apply T.cond_n; exact rfl; assumption) | (apply T.cond rfl <;> intro)) | apply Rnd.step)
  all_goals (apply RetOk.t; exact rfl)
  all_goals first
    | (rw [decide_eq_true]; rw [he]; omega)
    | (rw [decide_eq_false]; rw [he]; omega)
def cntL (dd : List (Int × List Int)) : Nat := (dd.map fun x => x.2.length).sum
end Go.Proofs.YtplhnkmmhndkjaaGreat
set_option linter.unusedSimpArgs false
set_option linter.unusedVariables false
namespace Go.Proofs.YtplhnkmmhndkjaaGreat
open Go.RowKit Go.Shelf
set_option maxRecDepth 100000
def ovr (room : Int) (d : Dl) : Int := (max (16 + 2 * (cntL (pur d) : Int) - room) 0 + 1) / 2
def cutN (room : Int) (d : Dl) (x : Pi) : Nat := (max ((x.xs.length : Int) - ovr room d) 0).toNat
def cutP (n : Nat) (x : Pi) : Pi := ⟨x.p, n, x.xs.take n⟩
def cutAt (room : Int) (k : Nat) (d : Dl) : Dl := match d[k]? with
  | some x => d.set k (x.1, cutP (cutN room d x.2) x.2)
  | none => d
theorem cutN_le (room : Int) (d : Dl) (x : Pi) : cutN room d x ≤ x.xs.length := by
  unfold cutN ovr
  omega
theorem cutAt_mem {room : Int} {k : Nat} {d : Dl} {y : Int × Pi} (h : y ∈ cutAt room k d) : y ∈ d ∨ ∃ x n, x ∈ d ∧ n ≤ x.2.xs.length ∧ y = (x.1, cutP n x.2) := by
  unfold cutAt at h
  split at h
  · rename_i x hx
    rcases List.mem_or_eq_of_mem_set h with h1 | h1
    · exact .inl h1
    · exact .inr ⟨x, _, List.mem_of_getElem? hx, cutN_le _ _ _, h1⟩
  · exact .inl h
theorem DlO.cut {d : Dl} {L : Lst} (h : DlO d L) (room : Int) (k : Nat) : DlO (cutAt room k d) L := by
  refine ⟨fun y hy => ?_, fun y hy hne => ?_, fun w0 w S L' hw hin y hy => ?_⟩
  · rcases cutAt_mem hy with h1 | ⟨x, n, hx, hn, rfl⟩
    · exact h.cap y h1
    · simp only [cutP, List.length_take]; omega
  · rcases cutAt_mem hy with h1 | ⟨x, n, hx, hn, rfl⟩
    · exact h.adr y h1 hne
    · refine h.adr x hx ?_
      rintro h0
      apply hne
      simp [cutP, h0]
  · rcases cutAt_mem hy with h1 | ⟨x, n, hx, hn, rfl⟩
    · exact h.rd w0 w S L' hw hin y h1
    · exact (h.rd w0 w S L' hw hin x hx).pre iV_len n
end Go.Proofs.YtplhnkmmhndkjaaGreat
set_option linter.unusedSimpArgs false
set_option linter.unusedVariables false
namespace Go.Proofs.YtplhnkmmhndkjaaGreat
open Go.RowKit Go.Shelf
def Grw (ls ls' : List (List Int)) : Prop := ls'.length = ls.length ∧ ∀ (i : Nat) (xs : List Int), ls[i]? = some xs → ∃ zs, ls'[i]? = some (xs ++ zs)
theorem Grw.refl (ls : List (List Int)) : Grw ls ls := ⟨rfl, fun i xs h => ⟨[], by rw [List.append_nil]; exact h⟩⟩
theorem app_je {l : List Jx} (h : appE l = 0) : ∀ x ∈ l, JE x = 0 := by
  intro x hx
  unfold appE at h
  split at h
  · cases h
  · split at h
    · cases h
    · rename_i h3
      split at h
      · cases h
      · rename_i h6
        rcases je_cases x with h0 | h0 | h0
        · exact h0
        · exact absurd ⟨x, hx, h0⟩ h3
        · exact absurd ⟨x, hx, h0⟩ h6
theorem Grw.app (ls : List (List Int)) (dd : List (Int × List Int)) (hl : dd.length = ls.length) : Grw ls (appL ls dd) := by
  unfold appL
  by_cases h : appX ls dd = 0
  · rw [if_pos h]
    have hE : appE (ls.zip dd) = 0 := by
      unfold appX at h
      split at h
      · exact h
      · cases h
    refine ⟨by simp [hl], fun i xs hi => ?_⟩
    have hlt := (List.getElem?_eq_some_iff.1 hi).1
    obtain ⟨y, hy⟩ : ∃ y, dd[i]? = some y := ⟨_, List.getElem?_eq_getElem (by omega)⟩
    have hz : (ls.zip dd)[i]? = some (xs, y) := by rw [List.getElem?_zip_eq_some]; exact ⟨hi, hy⟩
    have hj := app_je hE _ (List.mem_of_getElem? hz)
    refine ⟨y.2.drop (both xs y.2 y.1.toNat), ?_⟩
    rw [List.getElem?_map, hz]
    unfold JE at hj
    simp only [Option.map_some, JL, jL, hj, if_true]
    rfl
  · rw [if_neg h]; exact Grw.refl ls
theorem Grw.mem {gs gs' : List Lg} (h : Grw (lgs gs) (lgs gs')) {y : Int} (hy : y ∈ lcat gs) : y ∈ lcat gs' := by
  obtain ⟨g, hg, hyg⟩ := List.mem_flatMap.1 hy
  obtain ⟨i, hi, rfl⟩ := List.getElem_of_mem hg
  obtain ⟨zs, hz⟩ := h.2 i gs[i].xs (by rw [lgs, List.getElem?_map, List.getElem?_eq_getElem hi]; rfl)
  rw [lgs, List.getElem?_map] at hz
  cases hg' : gs'[i]? with
  | none => rw [hg'] at hz; cases hz
  | some g' =>
    rw [hg'] at hz
    simp only [Option.map_some, Option.some.injEq] at hz
    exact List.mem_flatMap.2 ⟨g', List.mem_of_getElem? hg', by rw [hz]; exact List.mem_append_left _ hyg⟩
theorem Grw.le {gs gs' : List Lg} (h : Grw (lgs gs) (lgs gs')) : ∀ x ∈ (gs'.map fun g => (g.xs.length : Int)).zip (gs.map fun g => (g.xs.length : Int)), x.2 ≤ x.1 := by
  intro x hx
  obtain ⟨i, hi, rfl⟩ := List.getElem_of_mem hx
  simp only [List.length_zip, List.length_map] at hi
  simp only [List.getElem_zip, List.getElem_map]
  obtain ⟨zs, hz⟩ := h.2 i gs[i].xs (by rw [lgs, List.getElem?_map, List.getElem?_eq_getElem (by omega)]; rfl)
  rw [lgs, List.getElem?_map, List.getElem?_eq_getElem (by omega)] at hz
  simp only [Option.map_some, Option.some.injEq] at hz
  rw [hz, List.length_append]
  omega
end Go.Proofs.YtplhnkmmhndkjaaGreat
set_option linter.unusedSimpArgs false
set_option linter.unusedVariables false
namespace Go.Proofs.YtplhnkmmhndkjaaGreat
open Go.RowKit Go.Shelf
set_option maxRecDepth 100000
structure RAct where
  kind : Int
  n : Int
  l : Pi
  f0 : Int
  f1 : Int
  f2 : Int
  f3 : Int
  l0 : Pi
  l1 : Pi
  l2 : Pi
  l3 : Pi
deriving Inhabited
def Pi.w (z : Pi) : Value := .slice z.p z.xs.length z.cap
def RAct.v (a : RAct) : List Value := [.int .i64 a.kind, .int .i64 a.n, a.l.w, .int .i64 a.f0, .int .i64 a.f1, .int .i64 a.f2, .int .i64 a.f3, a.l0.w, a.l1.w, a.l2.w, a.l3.w]
theorem RAct.v_len (a : RAct) : a.v.length = 11 := rfl
def RAct.d (a : RAct) : Dl := [(a.f0, a.l0), (a.f1, a.l1), (a.f2, a.l2), (a.f3, a.l3)]
structure RAct.ok (w : World) (a : RAct) : Prop where
  rd : RdSl w a.l.p iV a.l.xs
  cap : a.l.xs.length ≤ a.l.cap
  drd : ∀ x ∈ a.d, RdSl w x.2.p iV x.2.xs
  dcap : ∀ x ∈ a.d, x.2.xs.length ≤ x.2.cap
theorem DlO.off {d : Dl} {M : Lst} (h : DlO d M) {w0 w : World} {S : List Nat} {L Li Lr : Lst} (hw : Hp w0 S L w) (he : Ext L Li Lr) (hin : ∀ z ∈ M, z ∈ Lr) : ∀ x ∈ d, x.2.xs ≠ [] → Off x.2.p (blks Li) := by
  intro x hx hne a ha
  obtain ⟨b, o, hp, hb⟩ := h.adr x hx hne
  rw [hp] at ha
  cases ha
  obtain ⟨z, hz, hze⟩ := List.mem_map.1 hb
  obtain ⟨zb, zo⟩ := z
  simp only at hze
  subst hze
  exact RdSl.off hw he (hin _ hz)
end Go.Proofs.YtplhnkmmhndkjaaGreat
set_option linter.unusedSimpArgs false
set_option linter.unusedVariables false
namespace Go.Proofs.YtplhnkmmhndkjaaGreat
open Go.RowKit Go.Shelf
set_option maxRecDepth 100000
theorem sub_tail : ∀ {xs ys : List Value} {n m : Nat}, xs.length = n → ys.length = m → subE (xs ++ ys) n m = some ys
  | [], ys, n, m, h, h2 => by simp at h; subst h; exact subE_all h2
  | x :: xs, ys, n, m, h, h2 => by
    cases n with
    | zero => simp at h
    | succ n =>
      have := sub_tail (xs := xs) (ys := ys) (n := n) (m := m) (by simpa using h) h2
      cases m with
      | zero =>
        have : ys = [] := List.eq_nil_of_length_eq_zero h2
        subst this
        rfl
      | succ k => exact this
section
variable {X : Cx} {σ : Env} {L : Lst} {ty t : TypeId} {pos : String} {af : Array Edge} {x y : Operand} {r : TRow} {xs ys : List Value} {ks : List TK}
end
end Go.Proofs.YtplhnkmmhndkjaaGreat
set_option linter.unusedSimpArgs false
set_option linter.unusedVariables false
namespace Go.Proofs.YtplhnkmmhndkjaaGreat
open Go.RowKit Go.Shelf
set_option maxRecDepth 100000
theorem same_ok (p1 p2 : Option Addr) (n1 n2 c1 c2 : Nat) (xs ys : List Int) (hn1 : n1 = xs.length) (hn2 : n2 = ys.length) (hbig : n1 ≤ 1000000000) (w : World) (h1 : RdSl w p1 u8V xs) (h2 : RdSl w p2 u8V ys) : CallW Tryz.prog 9 [.slice p1 n1 c1, .slice p2 n2 c2] w fun v _ => v = .bool (decide (xs = ys)) := by
  subst hn1 hn2
  refine enterW (tb := tb) Tryz.func9 rfl Tryz.ntmps9 rfl ?_
  by_cases hne : xs.length = ys.length
  · repeat' (first | (apply R.is1; first | (apply R.isBin; first | (apply R.pure; exact rfl; first | (apply Ok1.add64; exact rfl; exact rfl; omega; omega) | (apply Ok1.lss_t; exact rfl; exact rfl; omega) | (apply Ok1.lss_f; exact rfl; exact rfl; omega) | (apply Ok1.neq_t; exact rfl; exact rfl; omega) | (apply Ok1.neq_f; exact rfl; exact rfl; omega) | (apply Ok1.neqP; (iterate 5 exact rfl)) | (apply Ok1.neqM; (iterate 5 exact rfl)) | (apply Ok1.neqS; (iterate 5 exact rfl))) | (apply R.lss rfl rfl rfl <;> intro) | (apply R.neq rfl rfl rfl <;> intro) | (apply R.neqF; (iterate 8 exact rfl); all_goals intro)) | (apply R.isCall; first | (apply R.pure; exact rfl; first | (apply Ok1.lenS; (iterate 3 exact rfl)) | (apply Ok1.lenStr; (iterate 3 exact rfl)) | (apply Ok1.lenMm; (iterate 3 exact rfl); (focus ((repeat' (first | exact At.head | apply At.tail | apply At.right)); done))) | (apply Ok1.lenM_nil; (iterate 3 exact rfl)))) | (apply R.pure; exact rfl; first | (apply Ok1.move; exact rfl) | (apply Ok1.load; exact rfl; first | (apply Ld.own1; exact rfl; exact rfl; (focus ((repeat' (first | exact At.head | apply At.tail | apply At.right)); done)); exact rfl) | (apply Ld.ownk; exact rfl; exact rfl; (focus ((repeat' (first | exact At.head | apply At.tail | apply At.right)); done)); exact rfl) | (apply Ld.old1; exact rfl; exact rfl; assumption; (first | exact List.not_mem_nil | assumption)) | (apply Ld.blk1; exact rfl; exact rfl; assumption; (first | exact List.not_mem_nil | assumption); exact rfl) | (apply Ld.blkk; exact rfl; exact rfl; assumption; (first | exact List.not_mem_nil | assumption); exact rfl)) | (apply Ok1.assign; exact rfl) | (apply Ok1.indexAddr; (iterate 5 exact rfl); omega; omega) | (apply Ok1.indexAddrA; (iterate 5 exact rfl); omega; omega))) | (apply R.is0; first | fail) | (apply R.isG; first | (apply R.guard_run; exact rfl; exact rfl) | (apply R.guard_not; (iterate 3 exact rfl)) | (apply R.guard_not0; exact rfl; exact rfl) | (apply R.guard_un; (iterate 3 exact rfl)) | (apply R.guard_un0; exact rfl; exact rfl) | (apply R.guard rfl rfl ?_ (fun h => ⟨rfl, ?_⟩) <;> try intro)) | apply R.nil | (apply T.is; first | apply T.seq | apply T.region | apply T.block | apply T.scope | apply T.label | apply T.skip | apply T.exit | apply T.ret | (apply T.cond_t; exact rfl) | (apply T.cond_f; exact rfl) | (apply T.cond_h; exact rfl; assumption) | (apply T.cond_n; exact rfl; assumption) | (apply T.cond rfl <;> intro)) | apply Rnd.step)
    apply T.loopK (α := Nat) (I := fun i => i ≤ xs.length ∧ xs.take i = ys.take i) (σi := fun i => [(0, .slice p1 xs.length c1), (1, .slice p2 ys.length c2), (5, .int .i64 i)]) (Li := fun _ => []) (μ := fun i => xs.length - i) (i0 := 0)
    · exact ⟨Nat.zero_le _, rfl⟩
    · exact ⟨rfl, rfl, rfl, trivial⟩
    · (focus ((repeat' (first | exact Keep.nil _ | exact Ext.one _ _ | exact Ext.here _ _ | exact Ext.all _ | apply Keep.cons | apply Keep.app | apply Keep.last | apply Ext.cons | apply Ext.app)); done))
    · intro i ⟨hi, htk⟩
      rcases Nat.lt_or_ge i xs.length with hlt | hge
      · obtain ⟨x, hx⟩ : ∃ x, xs[i]? = some x := ⟨_, List.getElem?_eq_getElem (by omega)⟩
        obtain ⟨y, hy⟩ : ∃ y, ys[i]? = some y := ⟨_, List.getElem?_eq_getElem (by omega)⟩
        obtain ⟨b1, o1, hpe1, H1⟩ := h1.at hx
        obtain ⟨b2, o2, hpe2, H2⟩ := h2.at hy
        replace H1 := H1 1 u8V_len
        replace H2 := H2 1 u8V_len
        by_cases hxy : x = y
        · repeat' (first | (apply R.is1; first | (apply R.isBin; first | (apply R.pure; exact rfl; first | (apply Ok1.add64; exact rfl; exact rfl; omega; omega) | (apply Ok1.lss_t; exact rfl; exact rfl; omega) | (apply Ok1.lss_f; exact rfl; exact rfl; omega) | (apply Ok1.neq_t; exact rfl; exact rfl; omega) | (apply Ok1.neq_f; exact rfl; exact rfl; omega) | (apply Ok1.neqP; (iterate 5 exact rfl)) | (apply Ok1.neqM; (iterate 5 exact rfl)) | (apply Ok1.neqS; (iterate 5 exact rfl))) | (apply R.lss rfl rfl rfl <;> intro) | (apply R.neq rfl rfl rfl <;> intro) | (apply R.neqF; (iterate 8 exact rfl); all_goals intro)) | (apply R.isCall; first | (apply R.pure; exact rfl; first | (apply Ok1.lenS; (iterate 3 exact rfl)) | (apply Ok1.lenStr; (iterate 3 exact rfl)) | (apply Ok1.lenMm; (iterate 3 exact rfl); (focus ((repeat' (first | exact At.head | apply At.tail | apply At.right)); done))) | (apply Ok1.lenM_nil; (iterate 3 exact rfl)))) | (apply R.pure; exact rfl; first | (apply Ok1.indexAddrP; (iterate 4 exact rfl); (first | exact hpe1 | exact hpe2); exact rfl; omega; omega) | (apply Ok1.load; exact rfl; first | (apply Ld.row0 H1; exact rfl; exact List.not_mem_nil; (iterate 3 exact rfl)) | (apply Ld.row0 H2; exact rfl; exact List.not_mem_nil; (iterate 3 exact rfl))) | (apply Ok1.move; exact rfl) | (apply Ok1.load; exact rfl; first | (apply Ld.own1; exact rfl; exact rfl; (focus ((repeat' (first | exact At.head | apply At.tail | apply At.right)); done)); exact rfl) | (apply Ld.ownk; exact rfl; exact rfl; (focus ((repeat' (first | exact At.head | apply At.tail | apply At.right)); done)); exact rfl) | (apply Ld.old1; exact rfl; exact rfl; assumption; (first | exact List.not_mem_nil | assumption)) | (apply Ld.blk1; exact rfl; exact rfl; assumption; (first | exact List.not_mem_nil | assumption); exact rfl) | (apply Ld.blkk; exact rfl; exact rfl; assumption; (first | exact List.not_mem_nil | assumption); exact rfl)) | (apply Ok1.assign; exact rfl) | (apply Ok1.indexAddr; (iterate 5 exact rfl); omega; omega) | (apply Ok1.indexAddrA; (iterate 5 exact rfl); omega; omega))) | (apply R.is0; first | fail) | (apply R.isG; first | (apply R.guard_run; exact rfl; exact rfl) | (apply R.guard_not; (iterate 3 exact rfl)) | (apply R.guard_not0; exact rfl; exact rfl) | (apply R.guard_un; (iterate 3 exact rfl)) | (apply R.guard_un0; exact rfl; exact rfl) | (apply R.guard rfl rfl ?_ (fun h => ⟨rfl, ?_⟩) <;> try intro)) | apply R.nil | (apply T.is; first | (apply T.drawC (id := 6) [] (by decide); ((apply A.take 0; exact rfl; exact rfl; kernel_rfl; kernel_rfl; kernel_rfl; first | (apply Ok1.move; exact rfl)) <;> (apply A.take 1; exact rfl; exact rfl; kernel_rfl; kernel_rfl; kernel_rfl; first | (apply Ok1.move; exact rfl)) <;> (apply A.take 2; exact rfl; exact rfl; kernel_rfl; kernel_rfl; kernel_rfl; first | (apply Ok1.indexAddrP; (iterate 4 exact rfl); (first | exact hpe1 | exact hpe2); exact rfl; omega; omega) | (apply Ok1.indexAddr; (iterate 5 exact rfl); omega; omega) | (apply Ok1.indexAddrA; (iterate 5 exact rfl); omega; omega)) <;> (apply A.take 3; exact rfl; exact rfl; kernel_rfl; kernel_rfl; kernel_rfl; first | (apply Ok1.load; exact rfl; first | (apply Ld.row0 H1; exact rfl; exact List.not_mem_nil; (iterate 3 exact rfl)) | (apply Ld.row0 H2; exact rfl; exact List.not_mem_nil; (iterate 3 exact rfl))) | (apply Ok1.load; exact rfl; first | (apply Ld.own1; exact rfl; exact rfl; (focus ((repeat' (first | exact At.head | apply At.tail | apply At.right)); done)); exact rfl) | (apply Ld.ownk; exact rfl; exact rfl; (focus ((repeat' (first | exact At.head | apply At.tail | apply At.right)); done)); exact rfl) | (apply Ld.old1; exact rfl; exact rfl; assumption; (first | exact List.not_mem_nil | assumption)) | (apply Ld.blk1; exact rfl; exact rfl; assumption; (first | exact List.not_mem_nil | assumption); exact rfl) | (apply Ld.blkk; exact rfl; exact rfl; assumption; (first | exact List.not_mem_nil | assumption); exact rfl))) <;> (apply A.take 4; exact rfl; exact rfl; kernel_rfl; kernel_rfl; kernel_rfl; first | (apply Ok1.move; exact rfl)) <;> (apply A.take 5; exact rfl; exact rfl; kernel_rfl; kernel_rfl; kernel_rfl; first | (apply Ok1.move; exact rfl)) <;> (apply A.take 6; exact rfl; exact rfl; kernel_rfl; kernel_rfl; kernel_rfl; first | (apply Ok1.indexAddrP; (iterate 4 exact rfl); (first | exact hpe1 | exact hpe2); exact rfl; omega; omega) | (apply Ok1.indexAddr; (iterate 5 exact rfl); omega; omega) | (apply Ok1.indexAddrA; (iterate 5 exact rfl); omega; omega)) <;> (apply A.take 7; exact rfl; exact rfl; kernel_rfl; kernel_rfl; kernel_rfl; first | (apply Ok1.load; exact rfl; first | (apply Ld.row0 H1; exact rfl; exact List.not_mem_nil; (iterate 3 exact rfl)) | (apply Ld.row0 H2; exact rfl; exact List.not_mem_nil; (iterate 3 exact rfl))) | (apply Ok1.load; exact rfl; first | (apply Ld.own1; exact rfl; exact rfl; (focus ((repeat' (first | exact At.head | apply At.tail | apply At.right)); done)); exact rfl) | (apply Ld.ownk; exact rfl; exact rfl; (focus ((repeat' (first | exact At.head | apply At.tail | apply At.right)); done)); exact rfl) | (apply Ld.old1; exact rfl; exact rfl; assumption; (first | exact List.not_mem_nil | assumption)) | (apply Ld.blk1; exact rfl; exact rfl; assumption; (first | exact List.not_mem_nil | assumption); exact rfl) | (apply Ld.blkk; exact rfl; exact rfl; assumption; (first | exact List.not_mem_nil | assumption); exact rfl))) <;> (first | (apply A.take 8; exact rfl; exact rfl; kernel_rfl; kernel_rfl; kernel_rfl; first | (apply Ok1.neq_t; exact rfl; exact rfl; omega) | (apply Ok1.neq_f; exact rfl; exact rfl; omega) | (apply Ok1.neqP; (iterate 5 exact rfl)) | (apply Ok1.neqM; (iterate 5 exact rfl)) | (apply Ok1.neqS; (iterate 5 exact rfl))) | (apply A.take 8; exact rfl; exact rfl; kernel_rfl; kernel_rfl; kernel_rfl; (first | (apply Ok1.neq; exact rfl; exact rfl) | (apply Ok1.neqF; (iterate 7 exact rfl))); apply A.dec (t := 25); exact rfl; all_goals intro)) <;> (apply A.done; kernel_rfl))) | apply T.seq | apply T.region | apply T.block | apply T.scope | apply T.label | apply T.skip | apply T.exit | apply T.ret | (apply T.cond_t; exact rfl) | (apply T.cond_f; exact rfl) | (apply T.cond_h; exact rfl; assumption) | (apply T.cond_n; exact rfl; assumption) | (apply T.cond rfl <;> intro)) | apply Rnd.step)
          refine ⟨i + 1, ⟨by omega, ?_⟩, by omega, ⟨rfl, rfl, rfl, trivial⟩, by (focus ((repeat' (first | exact Keep.nil _ | exact Ext.one _ _ | exact Ext.here _ _ | exact Ext.all _ | apply Keep.cons | apply Keep.app | apply Keep.last | apply Ext.cons | apply Ext.app)); done))⟩
          rw [List.take_add_one, List.take_add_one, htk, hx, hy, hxy]
        · repeat' (first | (apply R.is1; first | (apply R.isBin; first | (apply R.pure; exact rfl; first | (apply Ok1.add64; exact rfl; exact rfl; omega; omega) | (apply Ok1.lss_t; exact rfl; exact rfl; omega) | (apply Ok1.lss_f; exact rfl; exact rfl; omega) | (apply Ok1.neq_t; exact rfl; exact rfl; omega) | (apply Ok1.neq_f; exact rfl; exact rfl; omega) | (apply Ok1.neqP; (iterate 5 exact rfl)) | (apply Ok1.neqM; (iterate 5 exact rfl)) | (apply Ok1.neqS; (iterate 5 exact rfl))) | (apply R.lss rfl rfl rfl <;> intro) | (apply R.neq rfl rfl rfl <;> intro) | (apply R.neqF; (iterate 8 exact rfl); all_goals intro)) | (apply R.isCall; first | (apply R.pure; exact rfl; first | (apply Ok1.lenS; (iterate 3 exact rfl)) | (apply Ok1.lenStr; (iterate 3 exact rfl)) | (apply Ok1.lenMm; (iterate 3 exact rfl); (focus ((repeat' (first | exact At.head | apply At.tail | apply At.right)); done))) | (apply Ok1.lenM_nil; (iterate 3 exact rfl)))) | (apply R.pure; exact rfl; first | (apply Ok1.indexAddrP; (iterate 4 exact rfl); (first | exact hpe1 | exact hpe2); exact rfl; omega; omega) | (apply Ok1.load; exact rfl; first | (apply Ld.row0 H1; exact rfl; exact List.not_mem_nil; (iterate 3 exact rfl)) | (apply Ld.row0 H2; exact rfl; exact List.not_mem_nil; (iterate 3 exact rfl))) | (apply Ok1.move; exact rfl) | (apply Ok1.load; exact rfl; first | (apply Ld.own1; exact rfl; exact rfl; (focus ((repeat' (first | exact At.head | apply At.tail | apply At.right)); done)); exact rfl) | (apply Ld.ownk; exact rfl; exact rfl; (focus ((repeat' (first | exact At.head | apply At.tail | apply At.right)); done)); exact rfl) | (apply Ld.old1; exact rfl; exact rfl; assumption; (first | exact List.not_mem_nil | assumption)) | (apply Ld.blk1; exact rfl; exact rfl; assumption; (first | exact List.not_mem_nil | assumption); exact rfl) | (apply Ld.blkk; exact rfl; exact rfl; assumption; (first | exact List.not_mem_nil | assumption); exact rfl)) | (apply Ok1.assign; exact rfl) | (apply Ok1.indexAddr; (iterate 5 exact rfl); omega; omega) | (apply Ok1.indexAddrA; (iterate 5 exact rfl); omega; omega))) | (apply R.is0; first | fail) | (apply R.isG; first | (apply R.guard_run; exact rfl; exact rfl) | (apply R.guard_not; (iterate 3 exact rfl)) | (apply R.guard_not0; exact rfl; exact rfl) | (apply R.guard_un; (iterate 3 exact rfl)) | (apply R.guard_un0; exact rfl; exact rfl) | (apply R.guard rfl rfl ?_ (fun h => ⟨rfl, ?_⟩) <;> try intro)) | apply R.nil | (apply T.is; first | (apply T.drawC (id := 6) [] (by decide); ((apply A.take 0; exact rfl; exact rfl; kernel_rfl; kernel_rfl; kernel_rfl; first | (apply Ok1.move; exact rfl)) <;> (apply A.take 1; exact rfl; exact rfl; kernel_rfl; kernel_rfl; kernel_rfl; first | (apply Ok1.move; exact rfl)) <;> (apply A.take 2; exact rfl; exact rfl; kernel_rfl; kernel_rfl; kernel_rfl; first | (apply Ok1.indexAddrP; (iterate 4 exact rfl); (first | exact hpe1 | exact hpe2); exact rfl; omega; omega) | (apply Ok1.indexAddr; (iterate 5 exact rfl); omega; omega) | (apply Ok1.indexAddrA; (iterate 5 exact rfl); omega; omega)) <;> (apply A.take 3; exact rfl; exact rfl; kernel_rfl; kernel_rfl; kernel_rfl; first | (apply Ok1.load; exact rfl; first | (apply Ld.row0 H1; exact rfl; exact List.not_mem_nil; (iterate 3 exact rfl)) | (apply Ld.row0 H2; exact rfl; exact List.not_mem_nil; (iterate 3 exact rfl))) | (apply Ok1.load; exact rfl; first | (apply Ld.own1; exact rfl; exact rfl; (focus ((repeat' (first | exact At.head | apply At.tail | apply At.right)); done)); exact rfl) | (apply Ld.ownk; exact rfl; exact rfl; (focus ((repeat' (first | exact At.head | apply At.tail | apply At.right)); done)); exact rfl) | (apply Ld.old1; exact rfl; exact rfl; assumption; (first | exact List.not_mem_nil | assumption)) | (apply Ld.blk1; exact rfl; exact rfl; assumption; (first | exact List.not_mem_nil | assumption); exact rfl) | (apply Ld.blkk; exact rfl; exact rfl; assumption; (first | exact List.not_mem_nil | assumption); exact rfl))) <;> (apply A.take 4; exact rfl; exact rfl; kernel_rfl; kernel_rfl; kernel_rfl; first | (apply Ok1.move; exact rfl)) <;> (apply A.take 5; exact rfl; exact rfl; kernel_rfl; kernel_rfl; kernel_rfl; first | (apply Ok1.move; exact rfl)) <;> (apply A.take 6; exact rfl; exact rfl; kernel_rfl; kernel_rfl; kernel_rfl; first | (apply Ok1.indexAddrP; (iterate 4 exact rfl); (first | exact hpe1 | exact hpe2); exact rfl; omega; omega) | (apply Ok1.indexAddr; (iterate 5 exact rfl); omega; omega) | (apply Ok1.indexAddrA; (iterate 5 exact rfl); omega; omega)) <;> (apply A.take 7; exact rfl; exact rfl; kernel_rfl; kernel_rfl; kernel_rfl; first | (apply Ok1.load; exact rfl; first | (apply Ld.row0 H1; exact rfl; exact List.not_mem_nil; (iterate 3 exact rfl)) | (apply Ld.row0 H2; exact rfl; exact List.not_mem_nil; (iterate 3 exact rfl))) | (apply Ok1.load; exact rfl; first | (apply Ld.own1; exact rfl; exact rfl; (focus ((repeat' (first | exact At.head | apply At.tail | apply At.right)); done)); exact rfl) | (apply Ld.ownk; exact rfl; exact rfl; (focus ((repeat' (first | exact At.head | apply At.tail | apply At.right)); done)); exact rfl) | (apply Ld.old1; exact rfl; exact rfl; assumption; (first | exact List.not_mem_nil | assumption)) | (apply Ld.blk1; exact rfl; exact rfl; assumption; (first | exact List.not_mem_nil | assumption); exact rfl) | (apply Ld.blkk; exact rfl; exact rfl; assumption; (first | exact List.not_mem_nil | assumption); exact rfl))) <;> (first | (apply A.take 8; exact rfl; exact rfl; kernel_rfl; kernel_rfl; kernel_rfl; first | (apply Ok1.neq_t; exact rfl; exact rfl; omega) | (apply Ok1.neq_f; exact rfl; exact rfl; omega) | (apply Ok1.neqP; (iterate 5 exact rfl)) | (apply Ok1.neqM; (iterate 5 exact rfl)) | (apply Ok1.neqS; (iterate 5 exact rfl))) | (apply A.take 8; exact rfl; exact rfl; kernel_rfl; kernel_rfl; kernel_rfl; (first | (apply Ok1.neq; exact rfl; exact rfl) | (apply Ok1.neqF; (iterate 7 exact rfl))); apply A.dec (t := 25); exact rfl; all_goals intro)) <;> (apply A.done; kernel_rfl))) | apply T.seq | apply T.region | apply T.block | apply T.scope | apply T.label | apply T.skip | apply T.exit | apply T.ret | (apply T.cond_t; exact rfl) | (apply T.cond_f; exact rfl) | (apply T.cond_h; exact rfl; assumption) | (apply T.cond_n; exact rfl; assumption) | (apply T.cond rfl <;> intro)) | apply Rnd.step)
          all_goals (apply RetOk.t; exact rfl)
          all_goals rw [decide_eq_false]
          intro e
          rw [e, hy] at hx
          cases hx
          exact hxy rfl
      · repeat' (first | (apply R.is1; first | (apply R.isBin; first | (apply R.pure; exact rfl; first | (apply Ok1.add64; exact rfl; exact rfl; omega; omega) | (apply Ok1.lss_t; exact rfl; exact rfl; omega) | (apply Ok1.lss_f; exact rfl; exact rfl; omega) | (apply Ok1.neq_t; exact rfl; exact rfl; omega) | (apply Ok1.neq_f; exact rfl; exact rfl; omega) | (apply Ok1.neqP; (iterate 5 exact rfl)) | (apply Ok1.neqM; (iterate 5 exact rfl)) | (apply Ok1.neqS; (iterate 5 exact rfl))) | (apply R.lss rfl rfl rfl <;> intro) | (apply R.neq rfl rfl rfl <;> intro) | (apply R.neqF; (iterate 8 exact rfl); all_goals intro)) | (apply R.isCall; first | (apply R.pure; exact rfl; first | (apply Ok1.lenS; (iterate 3 exact rfl)) | (apply Ok1.lenStr; (iterate 3 exact rfl)) | (apply Ok1.lenMm; (iterate 3 exact rfl); (focus ((repeat' (first | exact At.head | apply At.tail | apply At.right)); done))) | (apply Ok1.lenM_nil; (iterate 3 exact rfl)))) | (apply R.pure; exact rfl; first | (apply Ok1.move; exact rfl) | (apply Ok1.load; exact rfl; first | (apply Ld.own1; exact rfl; exact rfl; (focus ((repeat' (first | exact At.head | apply At.tail | apply At.right)); done)); exact rfl) | (apply Ld.ownk; exact rfl; exact rfl; (focus ((repeat' (first | exact At.head | apply At.tail | apply At.right)); done)); exact rfl) | (apply Ld.old1; exact rfl; exact rfl; assumption; (first | exact List.not_mem_nil | assumption)) | (apply Ld.blk1; exact rfl; exact rfl; assumption; (first | exact List.not_mem_nil | assumption); exact rfl) | (apply Ld.blkk; exact rfl; exact rfl; assumption; (first | exact List.not_mem_nil | assumption); exact rfl)) | (apply Ok1.assign; exact rfl) | (apply Ok1.indexAddr; (iterate 5 exact rfl); omega; omega) | (apply Ok1.indexAddrA; (iterate 5 exact rfl); omega; omega))) | (apply R.is0; first | fail) | (apply R.isG; first | (apply R.guard_run; exact rfl; exact rfl) | (apply R.guard_not; (iterate 3 exact rfl)) | (apply R.guard_not0; exact rfl; exact rfl) | (apply R.guard_un; (iterate 3 exact rfl)) | (apply R.guard_un0; exact rfl; exact rfl) | (apply R.guard rfl rfl ?_ (fun h => ⟨rfl, ?_⟩) <;> try intro)) | apply R.nil | (apply T.is; first | apply T.seq | apply T.region | apply T.block | apply T.scope | apply T.label | apply T.skip | apply T.exit | apply T.ret | (apply T.cond_t; exact rfl) | (apply T.cond_f; exact rfl) | (apply T.cond_h; exact rfl; assumption) | (apply T.cond_n; exact rfl; assumption) | (apply T.cond rfl <;> intro)) | apply Rnd.step)
        (apply RetOk.t; exact rfl)
        rw [List.take_of_length_le hge, List.take_of_length_le (by omega)] at htk
        rw [decide_eq_true htk]
  · repeat' (first | (apply R.is1; first | (apply R.isBin; first | (apply R.pure; exact rfl; first | (apply Ok1.add64; exact rfl; exact rfl; omega; omega) | (apply Ok1.lss_t; exact rfl; exact rfl; omega) | (apply Ok1.lss_f; exact rfl; exact rfl; omega) | (apply Ok1.neq_t; exact rfl; exact rfl; omega) | (apply Ok1.neq_f; exact rfl; exact rfl; omega) | (apply Ok1.neqP; (iterate 5 exact rfl)) | (apply Ok1.neqM; (iterate 5 exact rfl)) | (apply Ok1.neqS; (iterate 5 exact rfl))) | (apply R.lss rfl rfl rfl <;> intro) | (apply R.neq rfl rfl rfl <;> intro) | (apply R.neqF; (iterate 8 exact rfl); all_goals intro)) | (apply R.isCall; first | (apply R.pure; exact rfl; first | (apply Ok1.lenS; (iterate 3 exact rfl)) | (apply Ok1.lenStr; (iterate 3 exact rfl)) | (apply Ok1.lenMm; (iterate 3 exact rfl); (focus ((repeat' (first | exact At.head | apply At.tail | apply At.right)); done))) | (apply Ok1.lenM_nil; (iterate 3 exact rfl)))) | (apply R.pure; exact rfl; first | (apply Ok1.move; exact rfl) | (apply Ok1.load; exact rfl; first | (apply Ld.own1; exact rfl; exact rfl; (focus ((repeat' (first | exact At.head | apply At.tail | apply At.right)); done)); exact rfl) | (apply Ld.ownk; exact rfl; exact rfl; (focus ((repeat' (first | exact At.head | apply At.tail | apply At.right)); done)); exact rfl) | (apply Ld.old1; exact rfl; exact rfl; assumption; (first | exact List.not_mem_nil | assumption)) | (apply Ld.blk1; exact rfl; exact rfl; assumption; (first | exact List.not_mem_nil | assumption); exact rfl) | (apply Ld.blkk; exact rfl; exact rfl; assumption; (first | exact List.not_mem_nil | assumption); exact rfl)) | (apply Ok1.assign; exact rfl) | (apply Ok1.indexAddr; (iterate 5 exact rfl); omega; omega) | (apply Ok1.indexAddrA; (iterate 5 exact rfl); omega; omega))) | (apply R.is0; first | fail) | (apply R.isG; first | (apply R.guard_run; exact rfl; exact rfl) | (apply R.guard_not; (iterate 3 exact rfl)) | (apply R.guard_not0; exact rfl; exact rfl) | (apply R.guard_un; (iterate 3 exact rfl)) | (apply R.guard_un0; exact rfl; exact rfl) | (apply R.guard rfl rfl ?_ (fun h => ⟨rfl, ?_⟩) <;> try intro)) | apply R.nil | (apply T.is; first | apply T.seq | apply T.region | apply T.block | apply T.scope | apply T.label | apply T.skip | apply T.exit | apply T.ret | (apply T.cond_t; exact rfl) | (apply T.cond_f; exact rfl) | (apply T.cond_h; exact rfl; assumption) | (apply T.cond_n; exact rfl; assumption) | (apply T.cond rfl <;> intro)) | apply Rnd.step)
    all_goals (apply RetOk.t; exact rfl)
    all_goals rw [decide_eq_false]
    exact fun e => hne (by rw [e])
end Go.Proofs.YtplhnkmmhndkjaaGreat
set_option linter.unusedSimpArgs false
set_option linter.unusedVariables false
namespace Go.Proofs.YtplhnkmmhndkjaaGreat
open Go.RowKit Go.Shelf
set_option maxRecDepth 100000
section
variable {X : Cx} {σ : Env} {L : Lst} {d : Option Nat} {ty ty2 t : TypeId} {pos : String} {af : Array Edge} {g : Option (Nat × Bool)} {x y : Operand} {k : IntKind} {i j : Int}
end
def cR : Code → Code | .seq _ b => b | c => c
end Go.Proofs.YtplhnkmmhndkjaaGreat
set_option linter.unusedSimpArgs false
set_option linter.unusedVariables false
namespace Go.Proofs.YtplhnkmmhndkjaaGreat
open Go.RowKit Go.Shelf
set_option maxRecDepth 100000
end Go.Proofs.YtplhnkmmhndkjaaGreat
set_option linter.unusedSimpArgs false
set_option linter.unusedVariables false
namespace Go.Proofs.YtplhnkmmhndkjaaGreat
open Go.RowKit Go.Shelf
set_option maxRecDepth 100000
end Go.Proofs.YtplhnkmmhndkjaaGreat
set_option linter.unusedSimpArgs false
set_option linter.unusedVariables false
namespace Go.Proofs.YtplhnkmmhndkjaaGreat
open Go.RowKit Go.Shelf
set_option maxRecDepth 100000
end Go.Proofs.YtplhnkmmhndkjaaGreat
set_option linter.unusedSimpArgs false
set_option linter.unusedVariables false
namespace Go.Proofs.YtplhnkmmhndkjaaGreat
open Go.RowKit Go.Shelf
set_option maxRecDepth 100000
def pl (p : Nat) : Nat → Nat → Bool → Bool
  | 0, _, b => b
  | f + 1, q, b => if q * q ≤ p then pl p f (q + 1) (b && !decide (p % q = 0)) else b
def zs (n : Nat) : List Value := List.replicate n (.int .u32 0)
end Go.Proofs.YtplhnkmmhndkjaaGreat
set_option linter.unusedSimpArgs false
set_option linter.unusedVariables false
namespace Go.Proofs.YtplhnkmmhndkjaaGreat
open Go.RowKit Go.Shelf
set_option maxRecDepth 100000
theorem dgx {vs p8 : List Int} (hv : vs.length = 4) (hp : p8.length = 8) : ∃ a b c d e f g h i j k l, vs = [a, b, c, d] ∧ p8 = [e, f, g, h, i, j, k, l] := by
  match vs, hv, p8, hp with
  | [a, b, c, d], _, [e, f, g, h, i, j, k, l], _ => exact ⟨a, b, c, d, e, f, g, h, i, j, k, l, rfl, rfl⟩
theorem to9_ok (vs p8 : List Int) (hv : vs.length = 4) (hp : p8.length = 8) : CallP Tryz.prog 36 [.agg ⟨dgV vs p8⟩] (.agg ⟨dgV vs p8⟩) := by
  obtain ⟨a, b, c, d, e, f, g, h, i, j, k, l, rfl, rfl⟩ := dgx hv hp
  have e : dgV [a, b, c, d] [e, f, g, h, i, j, k, l] = [.int .i64 a, .int .i64 b, .int .i64 c, .int .i64 d, .int .u8 e, .int .u8 f, .int .u8 g, .int .u8 h, .int .u8 i, .int .u8 j, .int .u8 k, .int .u8 l] := rfl
  rw [e]
  refine enterP (tb := tb) Tryz.func36 rfl Tryz.ntmps36 rfl fun w => ?_
  repeat' (first | (apply R.is1; first | (apply R.pure; exact rfl; first | (apply Ok1.fieldAddr; (iterate 5 exact rfl)) | (apply Ok1.load; exact rfl; first | (apply Ld.own1; exact rfl; exact rfl; (focus ((repeat' (first | exact At.head | apply At.tail | apply At.right)); done)); exact rfl) | (apply Ld.ownk; exact rfl; exact rfl; (focus ((repeat' (first | exact At.head | apply At.tail | apply At.right)); done)); exact rfl) | (apply Ld.old1; exact rfl; exact rfl; assumption; (first | exact List.not_mem_nil | assumption)) | (apply Ld.blk1; exact rfl; exact rfl; assumption; (first | exact List.not_mem_nil | assumption); exact rfl) | (apply Ld.blkk; exact rfl; exact rfl; assumption; (first | exact List.not_mem_nil | assumption); exact rfl)) | (apply Ok1.build; (iterate 5 exact rfl)) | (apply Ok1.buildA; (iterate 6 exact rfl))) | (apply R.box; (iterate 3 exact rfl); intro) | (apply R.alloc; (iterate 3 exact rfl); intro)) | (apply R.is0; first | (apply R.store; (iterate 6 exact rfl); (focus ((repeat' (first | exact Upd.head | apply Upd.tail | apply Upd.right)); done)); exact rfl) | fail) | (apply R.isG; first | (apply R.guard_run; exact rfl; exact rfl) | (apply R.guard_not; (iterate 3 exact rfl)) | (apply R.guard_not0; exact rfl; exact rfl) | (apply R.guard_un; (iterate 3 exact rfl)) | (apply R.guard_un0; exact rfl; exact rfl) | (apply R.guard rfl rfl ?_ (fun h => ⟨rfl, ?_⟩) <;> try intro)) | apply R.nil | (apply T.is; first | apply T.seq | apply T.region | apply T.block | apply T.scope | apply T.label | apply T.skip | apply T.exit | apply T.ret | (apply T.cond_t; exact rfl) | (apply T.cond_f; exact rfl) | (apply T.cond_h; exact rfl; assumption) | (apply T.cond_n; exact rfl; assumption) | (apply T.cond rfl <;> intro)) | apply Rnd.step)
  all_goals (apply RetOk.c; exact rfl; (first | (apply Ld.ownk; exact rfl; exact rfl; (focus ((repeat' (first | exact At.head | apply At.tail | apply At.right)); done)); exact rfl) | (apply Ld.own1; exact rfl; exact rfl; (focus ((repeat' (first | exact At.head | apply At.tail | apply At.right)); done)); exact rfl)))
  all_goals rfl
theorem of9_ok (vs p8 : List Int) (hv : vs.length = 4) (hp : p8.length = 8) : CallP Tryz.prog 38 [.agg ⟨dgV vs p8⟩] (.agg ⟨dgV vs p8⟩) := by
  obtain ⟨a, b, c, d, e, f, g, h, i, j, k, l, rfl, rfl⟩ := dgx hv hp
  have e : dgV [a, b, c, d] [e, f, g, h, i, j, k, l] = [.int .i64 a, .int .i64 b, .int .i64 c, .int .i64 d, .int .u8 e, .int .u8 f, .int .u8 g, .int .u8 h, .int .u8 i, .int .u8 j, .int .u8 k, .int .u8 l] := rfl
  rw [e]
  refine enterP (tb := tb) Tryz.func38 rfl Tryz.ntmps38 rfl fun w => ?_
  repeat' (first | (apply R.is1; first | (apply R.pure; exact rfl; first | (apply Ok1.fieldAddr; (iterate 5 exact rfl)) | (apply Ok1.load; exact rfl; first | (apply Ld.own1; exact rfl; exact rfl; (focus ((repeat' (first | exact At.head | apply At.tail | apply At.right)); done)); exact rfl) | (apply Ld.ownk; exact rfl; exact rfl; (focus ((repeat' (first | exact At.head | apply At.tail | apply At.right)); done)); exact rfl) | (apply Ld.old1; exact rfl; exact rfl; assumption; (first | exact List.not_mem_nil | assumption)) | (apply Ld.blk1; exact rfl; exact rfl; assumption; (first | exact List.not_mem_nil | assumption); exact rfl) | (apply Ld.blkk; exact rfl; exact rfl; assumption; (first | exact List.not_mem_nil | assumption); exact rfl)) | (apply Ok1.build; (iterate 5 exact rfl)) | (apply Ok1.buildA; (iterate 6 exact rfl))) | (apply R.box; (iterate 3 exact rfl); intro) | (apply R.alloc; (iterate 3 exact rfl); intro)) | (apply R.is0; first | (apply R.store; (iterate 6 exact rfl); (focus ((repeat' (first | exact Upd.head | apply Upd.tail | apply Upd.right)); done)); exact rfl) | fail) | (apply R.isG; first | (apply R.guard_run; exact rfl; exact rfl) | (apply R.guard_not; (iterate 3 exact rfl)) | (apply R.guard_not0; exact rfl; exact rfl) | (apply R.guard_un; (iterate 3 exact rfl)) | (apply R.guard_un0; exact rfl; exact rfl) | (apply R.guard rfl rfl ?_ (fun h => ⟨rfl, ?_⟩) <;> try intro)) | apply R.nil | (apply T.is; first | apply T.seq | apply T.region | apply T.block | apply T.scope | apply T.label | apply T.skip | apply T.exit | apply T.ret | (apply T.cond_t; exact rfl) | (apply T.cond_f; exact rfl) | (apply T.cond_h; exact rfl; assumption) | (apply T.cond_n; exact rfl; assumption) | (apply T.cond rfl <;> intro)) | apply Rnd.step)
  all_goals (apply RetOk.c; exact rfl; (first | (apply Ld.ownk; exact rfl; exact rfl; (focus ((repeat' (first | exact At.head | apply At.tail | apply At.right)); done)); exact rfl) | (apply Ld.own1; exact rfl; exact rfl; (focus ((repeat' (first | exact At.head | apply At.tail | apply At.right)); done)); exact rfl)))
  all_goals rfl
/-- A digest of which the first so many numbers are there. -/
def dgQ (vs ps : List Int) : List Value := iis (vs ++ List.replicate (4 - vs.length) 0) ++ u8s (ps ++ List.replicate (8 - ps.length) 0)
theorem dgQ0 : dgQ [] [] = dgV [0, 0, 0, 0] [0, 0, 0, 0, 0, 0, 0, 0] := rfl
theorem dgQ_all {vs ps : List Int} (hv : vs.length = 4) (hp : ps.length = 8) : dgQ vs ps = dgV vs ps := by simp [dgQ, dgV, hv, hp]
theorem dgQ_v {vs ps : List Int} {i : Nat} (hv : vs.length = i) (hi : i < 4) (x : Int) : setE (dgQ vs ps) (0 + i * 1) [.int .i64 x] = some (dgQ (vs ++ [x]) ps) := by
  have e : ∀ z : Int, dgQ (vs ++ [z]) ps = iis vs ++ ([.int .i64 z] ++ (iis (List.replicate (3 - i) 0) ++ u8s (ps ++ List.replicate (8 - ps.length) 0))) := fun z => by
    simp only [dgQ, List.length_append, List.length_singleton, hv, iis_app, show 4 - (i + 1) = 3 - i by omega]
    simp [iis]
  have e0 : dgQ vs ps = dgQ (vs ++ [0]) ps := by
    simp only [dgQ, List.length_append, List.length_singleton, hv, show 4 - i = (3 - i) + 1 by omega, show 4 - (i + 1) = 3 - i by omega, List.replicate_succ]
    simp
  have hl : (iis vs).length = 0 + i * 1 := by rw [iis_len, hv]; omega
  rw [e0, e 0, e x, ← hl, setE_mid _ (by simp)]
  simp
theorem dgQ_p {vs ps : List Int} {i : Nat} (hv : vs.length = 4) (hp : ps.length = i) (hi : i < 8) (x : Int) : setE (dgQ vs ps) (4 + i * 1) [.int .u8 x] = some (dgQ vs (ps ++ [x])) := by
  have e : ∀ z : Int, dgQ vs (ps ++ [z]) = (iis vs ++ u8s ps) ++ ([.int .u8 z] ++ u8s (List.replicate (7 - i) 0)) := fun z => by
    simp only [dgQ, List.length_append, List.length_singleton, hp, hv, show 8 - (i + 1) = 7 - i by omega]
    simp [iis, u8s]
  have e0 : dgQ vs ps = dgQ vs (ps ++ [0]) := by
    simp only [dgQ, List.length_append, List.length_singleton, hp, show 8 - i = (7 - i) + 1 by omega, show 8 - (i + 1) = 7 - i by omega, List.replicate_succ]
    simp
  have hl : (iis vs ++ u8s ps).length = 4 + i * 1 := by rw [List.length_append, iis_len, u8s_len, hv, hp]; omega
  rw [e0, e 0, e x, ← hl, setE_mid _ (by simp)]
  simp
/-- A digest's bytes. -/
def encG (vs p8 : List Int) : List Int := numsI 1 vs ++ p8
theorem encG_len {vs p8 : List Int} (hv : vs.length = 4) (hp : p8.length = 8) : (encG vs p8).length = 16 := by rw [encG, List.length_append, nums1_len, hv, hp]
theorem vr_fits {vs : List Int} (h : VR vs) : ∀ x ∈ vs, Fits 1 x := fun x hx => by have := h x hx; exact ⟨this.1, .inr (.inl ⟨rfl, by omega⟩)⟩
theorem by_fits {ps : List Int} (h : Byt ps) : ∀ x ∈ ps, Fits 0 x := fun x hx => by have := h x hx; exact ⟨by omega, .inl ⟨rfl, by omega⟩⟩
theorem num0 {x : Int} (h0 : 0 ≤ x) (h1 : x ≤ 255) : numI 0 x = [x] := by show [x % 256] = [x]; congr 1; omega
theorem dbad_ok (vs p8 : List Int) (hv : vs.length = 4) (hp : p8.length = 8) (hV : ¬ VR vs) : CallP Tryz.prog 41 [.agg ⟨dgV vs p8⟩] (.tuple #[.slice none 0 0, .int .i64 10]) := by
  have hr := vright_ok vs hv
  rw [decide_eq_false hV] at hr
  have hs4 : subE (dgV vs p8) 0 4 = some (iis vs) := subE_app _ _ (by rw [iis_len, hv])
  generalize dgV vs p8 = D at *
  refine enterP (tb := tb) Tryz.func41 rfl Tryz.ntmps41 rfl fun w => ?_
  repeat' (first | (apply R.is1; first | (apply R.isBin; first | (apply R.pure; exact rfl; first | (apply Ok1.add64; exact rfl; exact rfl; omega; omega) | (apply Ok1.lss_t; exact rfl; exact rfl; omega) | (apply Ok1.lss_f; exact rfl; exact rfl; omega)) | (apply R.lss rfl rfl rfl <;> intro)) | (apply R.isCall; first | apply R.callP rfl rfl rfl hr) | (apply R.pure; exact rfl; first | (apply Ok1.load; exact rfl; (apply Ld.ownk; exact rfl; exact rfl; (focus ((repeat' (first | exact At.head | apply At.tail | apply At.right)); done)); exact hs4)) | (apply Ok1.move; exact rfl) | (apply Ok1.fieldAddr; (iterate 5 exact rfl)) | (apply Ok1.load; exact rfl; first | (apply Ld.own1; exact rfl; exact rfl; (focus ((repeat' (first | exact At.head | apply At.tail | apply At.right)); done)); exact rfl) | (apply Ld.ownk; exact rfl; exact rfl; (focus ((repeat' (first | exact At.head | apply At.tail | apply At.right)); done)); exact rfl) | (apply Ld.old1; exact rfl; exact rfl; assumption; (first | exact List.not_mem_nil | assumption)) | (apply Ld.blk1; exact rfl; exact rfl; assumption; (first | exact List.not_mem_nil | assumption); exact rfl) | (apply Ld.blkk; exact rfl; exact rfl; assumption; (first | exact List.not_mem_nil | assumption); exact rfl)) | (apply Ok1.assign; exact rfl) | (apply Ok1.extract; exact rfl; exact rfl) | (apply Ok1.not_t; exact rfl) | (apply Ok1.not_f; exact rfl) | (apply Ok1.not; exact rfl) | (apply Ok1.index1; (iterate 6 exact rfl); omega; omega; exact rfl) | (apply Ok1.indexk; (iterate 6 exact rfl); omega; omega; exact rfl) | (apply Ok1.convI64; (iterate 5 exact rfl); omega; omega) | (apply Ok1.convU64; (iterate 5 exact rfl); omega; omega) | (apply Ok1.convU32; (iterate 5 exact rfl); omega; omega) | (apply Ok1.convU8; (iterate 5 exact rfl); omega; omega) | (apply Ok1.conv; (iterate 5 exact rfl)) | (apply Ok1.neg; exact rfl) | (apply Ok1.slice0; (iterate 7 exact rfl); (refine ⟨?_, ?_, ?_⟩ <;> omega); (first | exact Or.inl rfl | exact Or.inr (fun e => by cases e))) | (apply Ok1.sliceTo; (iterate 6 exact rfl); omega; omega; omega; (first | exact Or.inl rfl | exact Or.inr (fun e => by cases e))) | (apply Ok1.sliceFrom; (iterate 7 exact rfl); omega; omega; omega; omega; omega; (first | exact Or.inl rfl | exact Or.inr (fun e => by cases e)))) | (apply R.box; (iterate 3 exact rfl); intro) | (apply R.alloc; (iterate 3 exact rfl); intro) | (apply R.buildSlice; (iterate 12 exact rfl); intro)) | (apply R.is0; first | fail) | (apply R.isG; first | (apply R.guard_run; exact rfl; exact rfl) | (apply R.guard_not; (iterate 3 exact rfl)) | (apply R.guard_not0; exact rfl; exact rfl) | (apply R.guard_un; (iterate 3 exact rfl)) | (apply R.guard_un0; exact rfl; exact rfl) | (apply R.guard rfl rfl ?_ (fun h => ⟨rfl, ?_⟩) <;> try intro)) | apply R.nil | (apply T.is; first | apply T.seq | apply T.region | apply T.block | apply T.scope | apply T.label | apply T.skip | apply T.exit | apply T.ret | (apply T.cond_t; exact rfl) | (apply T.cond_f; exact rfl) | (apply T.cond_h; exact rfl; assumption) | (apply T.cond_n; exact rfl; assumption) | (apply T.cond rfl <;> intro)) | apply Rnd.step)
  (apply RetOk.tt; exact rfl; exact rfl)
  rfl
theorem dbytes9_ok (vs p8 : List Int) (hv : vs.length = 4) (hp : p8.length = 8) (hV : VR vs) (hb : Byt p8) (w : World) :
    CallM Tryz.prog 41 [.agg ⟨dgV vs p8⟩] [] w fun v L => ∃ ov, OvOk 1 ov (encG vs p8).length (u8s (encG vs p8)) ∧ v = .tuple #[slV ov (encG vs p8).length, .int .i64 0] ∧ L = blkL 5 ov (u8s (encG vs p8)) := by
  have hr := vright_ok vs hv
  rw [decide_eq_true hV] at hr
  have hs4 : subE (dgV vs p8) 0 4 = some (iis vs) := subE_app _ _ (by rw [iis_len, hv])
  have hs8 : subE (dgV vs p8) 4 8 = some (u8s p8) := sub_tail (by rw [iis_len, hv]) (by rw [u8s_len, hp])
  have hn1 := fun bw p w1 h1 h2 => numbers_ok bw none [] (OvOk.start 1) 1 p 4 4 vs hv.symm (vr_fits hV) (by rw [hv]; decide) w1 h1 h2
  have hdr : dgV vs p8 = fl iV vs ++ u8s p8 := by rw [fl_i]; rfl
  refine enterK (tb := tb) Tryz.func41 rfl Tryz.ntmps41 rfl ?_
  repeat' (first | (apply R.is1; first | (apply R.isBin; first | (apply R.pure; exact rfl; first | (apply Ok1.add64; exact rfl; exact rfl; omega; omega) | (apply Ok1.lss_t; exact rfl; exact rfl; omega) | (apply Ok1.lss_f; exact rfl; exact rfl; omega)) | (apply R.lss rfl rfl rfl <;> intro)) | (apply R.isCall; first | apply R.callP rfl rfl rfl hr | (apply R.callE (Li := WL _ none []) (vs := [.pointer (some ⟨_, 0, none⟩), .int .i64 1, .slice (some ⟨_, 0, none⟩) 4 4]); (iterate 3 exact rfl); (focus ((repeat' (first | exact Ext.none _ | exact Ext.one _ _ | exact Ext.here _ _ | exact Ext.all _ | apply Ext.cons | apply Ext.app | apply Ext.two)); done)); intro w1 hw1; exact hn1 _ _ w1 (RdSl.of hw1 (by (focus ((repeat' (first | exact At.head | apply At.tail | apply At.right)); done))) hdr) (fun _ => Off.of hw1 (by (focus ((repeat' (first | exact Ext.none _ | exact Ext.one _ _ | exact Ext.here _ _ | exact Ext.all _ | apply Ext.cons | apply Ext.app | apply Ext.two)); done))) (by (focus ((repeat' (first | exact At.head | apply At.tail | apply At.right)); done)))); rintro v Lo ⟨ov1, rfl, hov1, rfl⟩)) | (apply R.pure; exact rfl; first | (apply Ok1.load; exact rfl; first | (apply Ld.ownk; exact rfl; exact rfl; (focus ((repeat' (first | exact At.head | apply At.tail | apply At.right)); done)); exact hs4) | (apply Ld.ownk; exact rfl; exact rfl; (focus ((repeat' (first | exact At.head | apply At.tail | apply At.right)); done)); exact hs8)) | (apply Ok1.sliceArr; (iterate 4 exact rfl)) | (apply Ok1.move; exact rfl) | (apply Ok1.fieldAddr; (iterate 5 exact rfl)) | (apply Ok1.load; exact rfl; first | (apply Ld.own1; exact rfl; exact rfl; (focus ((repeat' (first | exact At.head | apply At.tail | apply At.right)); done)); exact rfl) | (apply Ld.ownk; exact rfl; exact rfl; (focus ((repeat' (first | exact At.head | apply At.tail | apply At.right)); done)); exact rfl) | (apply Ld.old1; exact rfl; exact rfl; assumption; (first | exact List.not_mem_nil | assumption)) | (apply Ld.blk1; exact rfl; exact rfl; assumption; (first | exact List.not_mem_nil | assumption); exact rfl) | (apply Ld.blkk; exact rfl; exact rfl; assumption; (first | exact List.not_mem_nil | assumption); exact rfl)) | (apply Ok1.assign; exact rfl) | (apply Ok1.extract; exact rfl; exact rfl) | (apply Ok1.not_t; exact rfl) | (apply Ok1.not_f; exact rfl) | (apply Ok1.not; exact rfl) | (apply Ok1.index1; (iterate 6 exact rfl); omega; omega; exact rfl) | (apply Ok1.indexk; (iterate 6 exact rfl); omega; omega; exact rfl) | (apply Ok1.convI64; (iterate 5 exact rfl); omega; omega) | (apply Ok1.convU64; (iterate 5 exact rfl); omega; omega) | (apply Ok1.convU32; (iterate 5 exact rfl); omega; omega) | (apply Ok1.convU8; (iterate 5 exact rfl); omega; omega) | (apply Ok1.conv; (iterate 5 exact rfl)) | (apply Ok1.neg; exact rfl) | (apply Ok1.slice0; (iterate 7 exact rfl); (refine ⟨?_, ?_, ?_⟩ <;> omega); (first | exact Or.inl rfl | exact Or.inr (fun e => by cases e))) | (apply Ok1.sliceTo; (iterate 6 exact rfl); omega; omega; omega; (first | exact Or.inl rfl | exact Or.inr (fun e => by cases e))) | (apply Ok1.sliceFrom; (iterate 7 exact rfl); omega; omega; omega; omega; omega; (first | exact Or.inl rfl | exact Or.inr (fun e => by cases e)))) | (apply R.box; (iterate 3 exact rfl); intro) | (apply R.alloc; (iterate 3 exact rfl); intro) | (apply R.buildSlice; (iterate 12 exact rfl); intro)) | (apply R.is0; first | fail) | (apply R.isG; first | (apply R.guard_run; exact rfl; exact rfl) | (apply R.guard_not; (iterate 3 exact rfl)) | (apply R.guard_not0; exact rfl; exact rfl) | (apply R.guard_un; (iterate 3 exact rfl)) | (apply R.guard_un0; exact rfl; exact rfl) | (apply R.guard rfl rfl ?_ (fun h => ⟨rfl, ?_⟩) <;> try intro)) | apply R.nil | (apply T.is; first | apply T.seq | apply T.region | apply T.block | apply T.scope | apply T.label | apply T.skip | apply T.exit | apply T.ret | (apply T.cond_t; exact rfl) | (apply T.cond_f; exact rfl) | (apply T.cond_h; exact rfl; assumption) | (apply T.cond_n; exact rfl; assumption) | (apply T.cond rfl <;> intro)) | apply Rnd.step)
  rename_i b1 bw
  rw [List.nil_append] at hov1
  rw [List.nil_append]
  apply T.loopK (α := Nat × Ov) (I := fun y => y.1 ≤ 8 ∧ OvOk 1 y.2 (numsI 1 vs ++ p8.take y.1).length (u8s (numsI 1 vs ++ p8.take y.1))) (σi := fun y => [(4, .pointer (some ⟨bw, 0, none⟩)), (15, .agg ⟨u8s p8⟩), (16, .int .i64 y.1)]) (Li := fun y => WL bw y.2 (numsI 1 vs ++ p8.take y.1)) (μ := fun y => 8 - y.1) (i0 := (0, ov1))
  · refine ⟨Nat.zero_le _, ?_⟩
    simp only [List.take_zero, List.append_nil]
    exact hov1
  · exact ⟨rfl, rfl, rfl, trivial⟩
  · simp only [List.take_zero, List.append_nil]
    (focus ((repeat' (first | exact Keep.nil _ | exact Ext.one _ _ | exact Ext.here _ _ | exact Ext.all _ | apply Keep.cons | apply Keep.app | apply Keep.last | apply Ext.cons | apply Ext.app)); done))
  · rintro ⟨i, ov⟩ ⟨hi, hov⟩
    simp only at hi hov ⊢
    rcases Nat.lt_or_ge i 8 with hlt | hge
    · obtain ⟨x, hx⟩ : ∃ x, p8[i]? = some x := ⟨_, List.getElem?_eq_getElem (by omega)⟩
      have hxf := by_fits hb x (List.mem_of_getElem? hx)
      have hxb := hb x (List.mem_of_getElem? hx)
      have hpc : (u8s p8)[i * 1]? = some (.int .u8 x) := by rw [Nat.mul_one, u8s, List.getElem?_map, hx]; rfl
      have hnl := nums1_len vs
      have htl : (p8.take i).length = i := by rw [List.length_take]; omega
      have hn := fun bl fz e w1 => number1_ok bw ov (numsI 1 vs ++ p8.take i) hov 0 x hxf (by rw [List.length_append]; omega) bl fz e w1
      have htk : numsI 1 vs ++ p8.take (i + 1) = numsI 1 vs ++ p8.take i ++ numI 0 x := by rw [List.take_add_one, hx, num0 (by omega) (by omega), List.append_assoc]; rfl
      unfold WRes at hn
      rw [← htk] at hn
      repeat' (first | (apply R.is1; first | (apply R.isBin; first | (apply R.pure; exact rfl; first | (apply Ok1.add64; exact rfl; exact rfl; omega; omega) | (apply Ok1.lss_t; exact rfl; exact rfl; omega) | (apply Ok1.lss_f; exact rfl; exact rfl; omega)) | (apply R.lss rfl rfl rfl <;> intro)) | (apply R.isCall; first | (apply R.callE (Li := WL bw ov (numsI 1 vs ++ p8.take i)) (vs := [.pointer (some ⟨bw, 0, none⟩), .int .i64 0, .slice (some ⟨_, 0, none⟩) 1 1]); (iterate 3 exact rfl); (focus ((repeat' (first | exact Ext.none _ | exact Ext.one _ _ | exact Ext.here _ _ | exact Ext.all _ | apply Ext.cons | apply Ext.app | apply Ext.two)); done)); intro w1 hw1; exact hn _ _ _ w1 (hw1.get _ _ (At.mem (by (focus ((repeat' (first | exact At.head | apply At.tail | apply At.right)); done))))) (RdSl.off hw1 (by (focus ((repeat' (first | exact Ext.none _ | exact Ext.one _ _ | exact Ext.here _ _ | exact Ext.all _ | apply Ext.cons | apply Ext.app | apply Ext.two)); done))) (At.mem (by (focus ((repeat' (first | exact At.head | apply At.tail | apply At.right)); done))))); rintro v Lo ⟨ov2, rfl, hov2, rfl⟩)) | (apply R.pure; exact rfl; first | (apply Ok1.index1; (iterate 6 exact rfl); omega; omega; exact hpc) | (apply Ok1.move; exact rfl) | (apply Ok1.fieldAddr; (iterate 5 exact rfl)) | (apply Ok1.load; exact rfl; first | (apply Ld.own1; exact rfl; exact rfl; (focus ((repeat' (first | exact At.head | apply At.tail | apply At.right)); done)); exact rfl) | (apply Ld.ownk; exact rfl; exact rfl; (focus ((repeat' (first | exact At.head | apply At.tail | apply At.right)); done)); exact rfl) | (apply Ld.old1; exact rfl; exact rfl; assumption; (first | exact List.not_mem_nil | assumption)) | (apply Ld.blk1; exact rfl; exact rfl; assumption; (first | exact List.not_mem_nil | assumption); exact rfl) | (apply Ld.blkk; exact rfl; exact rfl; assumption; (first | exact List.not_mem_nil | assumption); exact rfl)) | (apply Ok1.assign; exact rfl) | (apply Ok1.extract; exact rfl; exact rfl) | (apply Ok1.not_t; exact rfl) | (apply Ok1.not_f; exact rfl) | (apply Ok1.not; exact rfl) | (apply Ok1.index1; (iterate 6 exact rfl); omega; omega; exact rfl) | (apply Ok1.indexk; (iterate 6 exact rfl); omega; omega; exact rfl) | (apply Ok1.convI64; (iterate 5 exact rfl); omega; omega) | (apply Ok1.convU64; (iterate 5 exact rfl); omega; omega) | (apply Ok1.convU32; (iterate 5 exact rfl); omega; omega) | (apply Ok1.convU8; (iterate 5 exact rfl); omega; omega) | (apply Ok1.conv; (iterate 5 exact rfl)) | (apply Ok1.neg; exact rfl) | (apply Ok1.slice0; (iterate 7 exact rfl); (refine ⟨?_, ?_, ?_⟩ <;> omega); (first | exact Or.inl rfl | exact Or.inr (fun e => by cases e))) | (apply Ok1.sliceTo; (iterate 6 exact rfl); omega; omega; omega; (first | exact Or.inl rfl | exact Or.inr (fun e => by cases e))) | (apply Ok1.sliceFrom; (iterate 7 exact rfl); omega; omega; omega; omega; omega; (first | exact Or.inl rfl | exact Or.inr (fun e => by cases e)))) | (apply R.box; (iterate 3 exact rfl); intro) | (apply R.alloc; (iterate 3 exact rfl); intro) | (apply R.buildSlice; (iterate 12 exact rfl); intro)) | (apply R.is0; first | fail) | (apply R.isG; first | (apply R.guard_run; exact rfl; exact rfl) | (apply R.guard_not; (iterate 3 exact rfl)) | (apply R.guard_not0; exact rfl; exact rfl) | (apply R.guard_un; (iterate 3 exact rfl)) | (apply R.guard_un0; exact rfl; exact rfl) | (apply R.guard rfl rfl ?_ (fun h => ⟨rfl, ?_⟩) <;> try intro)) | apply R.nil | (apply T.is; first | apply T.seq | apply T.region | apply T.block | apply T.scope | apply T.label | apply T.skip | apply T.exit | apply T.ret | (apply T.cond_t; exact rfl) | (apply T.cond_f; exact rfl) | (apply T.cond_h; exact rfl; assumption) | (apply T.cond_n; exact rfl; assumption) | (apply T.cond rfl <;> intro)) | apply Rnd.step)
      exact ⟨(i + 1, ov2), ⟨by simp only; omega, hov2⟩, by simp only; omega, ⟨rfl, rfl, rfl, trivial⟩, by (focus ((repeat' (first | exact Keep.nil _ | exact Ext.one _ _ | exact Ext.here _ _ | exact Ext.all _ | apply Keep.cons | apply Keep.app | apply Keep.last | apply Ext.cons | apply Ext.app)); done))⟩
    · have hi8 : i = 8 := by omega
      subst hi8
      rw [show p8.take 8 = p8 from List.take_of_length_le (by omega)] at hov ⊢
      have hle := encG_len hv hp
      unfold encG at hle ⊢
      have hwo := fun w1 h1 h2 => wout_ok bw ov (numsI 1 vs ++ p8) hov (by omega) w1 h1 h2
      generalize numsI 1 vs ++ p8 = B at *
      simp only [WL]
      repeat' (first | (apply R.is1; first | (apply R.isBin; first | (apply R.pure; exact rfl; first | (apply Ok1.add64; exact rfl; exact rfl; omega; omega) | (apply Ok1.lss_t; exact rfl; exact rfl; omega) | (apply Ok1.lss_f; exact rfl; exact rfl; omega)) | (apply R.lss rfl rfl rfl <;> intro)) | (apply R.isCall; first | (apply R.callE (vs := [.pointer (some ⟨bw, 0, none⟩)]); (iterate 3 exact rfl); exact Ext.none _; intro w1 hw1; exact hwo w1 (hw1.get _ _ (At.mem (by (focus ((repeat' (first | exact At.head | apply At.tail | apply At.right)); done))))) (rdown hov hw1 (Ext.mem (by (focus ((repeat' (first | exact Ext.none _ | exact Ext.one _ _ | exact Ext.here _ _ | exact Ext.all _ | apply Ext.cons | apply Ext.app | apply Ext.two)); done))))); rintro v Lo ⟨ov2, hov2, rfl, rfl⟩)) | (apply R.pure; exact rfl; first | (apply Ok1.move; exact rfl) | (apply Ok1.fieldAddr; (iterate 5 exact rfl)) | (apply Ok1.load; exact rfl; first | (apply Ld.own1; exact rfl; exact rfl; (focus ((repeat' (first | exact At.head | apply At.tail | apply At.right)); done)); exact rfl) | (apply Ld.ownk; exact rfl; exact rfl; (focus ((repeat' (first | exact At.head | apply At.tail | apply At.right)); done)); exact rfl) | (apply Ld.old1; exact rfl; exact rfl; assumption; (first | exact List.not_mem_nil | assumption)) | (apply Ld.blk1; exact rfl; exact rfl; assumption; (first | exact List.not_mem_nil | assumption); exact rfl) | (apply Ld.blkk; exact rfl; exact rfl; assumption; (first | exact List.not_mem_nil | assumption); exact rfl)) | (apply Ok1.assign; exact rfl) | (apply Ok1.extract; exact rfl; exact rfl) | (apply Ok1.not_t; exact rfl) | (apply Ok1.not_f; exact rfl) | (apply Ok1.not; exact rfl) | (apply Ok1.index1; (iterate 6 exact rfl); omega; omega; exact rfl) | (apply Ok1.indexk; (iterate 6 exact rfl); omega; omega; exact rfl) | (apply Ok1.convI64; (iterate 5 exact rfl); omega; omega) | (apply Ok1.convU64; (iterate 5 exact rfl); omega; omega) | (apply Ok1.convU32; (iterate 5 exact rfl); omega; omega) | (apply Ok1.convU8; (iterate 5 exact rfl); omega; omega) | (apply Ok1.conv; (iterate 5 exact rfl)) | (apply Ok1.neg; exact rfl) | (apply Ok1.slice0; (iterate 7 exact rfl); (refine ⟨?_, ?_, ?_⟩ <;> omega); (first | exact Or.inl rfl | exact Or.inr (fun e => by cases e))) | (apply Ok1.sliceTo; (iterate 6 exact rfl); omega; omega; omega; (first | exact Or.inl rfl | exact Or.inr (fun e => by cases e))) | (apply Ok1.sliceFrom; (iterate 7 exact rfl); omega; omega; omega; omega; omega; (first | exact Or.inl rfl | exact Or.inr (fun e => by cases e)))) | (apply R.box; (iterate 3 exact rfl); intro) | (apply R.alloc; (iterate 3 exact rfl); intro) | (apply R.buildSlice; (iterate 12 exact rfl); intro)) | (apply R.is0; first | fail) | (apply R.isG; first | (apply R.guard_run; exact rfl; exact rfl) | (apply R.guard_not; (iterate 3 exact rfl)) | (apply R.guard_not0; exact rfl; exact rfl) | (apply R.guard_un; (iterate 3 exact rfl)) | (apply R.guard_un0; exact rfl; exact rfl) | (apply R.guard rfl rfl ?_ (fun h => ⟨rfl, ?_⟩) <;> try intro)) | apply R.nil | (apply T.is; first | apply T.seq | apply T.region | apply T.block | apply T.scope | apply T.label | apply T.skip | apply T.exit | apply T.ret | (apply T.cond_t; exact rfl) | (apply T.cond_f; exact rfl) | (apply T.cond_h; exact rfl; assumption) | (apply T.cond_n; exact rfl; assumption) | (apply T.cond rfl <;> intro)) | apply Rnd.step)
      (apply RetOk.tt; exact rfl; exact rfl)
      exact ⟨_, by (focus ((repeat' (first | exact Keep.nil _ | exact Ext.one _ _ | exact Ext.here _ _ | exact Ext.all _ | apply Keep.cons | apply Keep.app | apply Keep.last | apply Ext.cons | apply Ext.app)); done)), ov2, hov2, rfl, rfl⟩
end Go.Proofs.YtplhnkmmhndkjaaGreat
set_option linter.unusedSimpArgs false
set_option linter.unusedVariables false
namespace Go.Proofs.YtplhnkmmhndkjaaGreat
open Go.RowKit Go.Shelf
set_option maxRecDepth 100000
theorem RdSl.ofOff {α : Type} {v : α → List Value} {rs : List α} {w0 w : World} {S : List Nat} {L : Lst} {b o : Nat} {e : TypeId} {fz : Nat × Nat} {cs pre junk : List Value} (hw : Hp w0 S L w) (hat : At L b (.cells ⟨cs⟩ e fz)) (hc : cs = pre ++ (fl v rs ++ junk)) (ho : pre.length = o) : RdSl w (some ⟨b, o, none⟩) v rs := by
  subst hc
  right
  refine ⟨b, o, rfl, fun k hk => ?_⟩
  have := hw.get b _ hat.mem
  simp only [World.cell?, this]
  subst ho
  show (Array.mk (pre ++ (fl v rs ++ junk)))[pre.length + k]? = _
  rw [List.getElem?_toArray, List.getElem?_append_right (by omega), Nat.add_sub_cancel_left, List.getElem?_append_left hk]
theorem rbytes9_ok (vs p8 : List Int) (hv : vs.length = 4) (hp : p8.length = 8) (hV : VR vs) (w : World) :
    CallM Tryz.prog 46 [.agg ⟨dgV vs p8⟩] [] w fun v L => ∃ ov, OvOk 1 ov (encG vs p8).length (u8s (encG vs p8)) ∧ v = slV ov (encG vs p8).length ∧ L = blkL 5 ov (u8s (encG vs p8)) := by
  have hcell : ∀ (i : Nat) (x : Int), vs[i]? = some x → (dgV vs p8)[0 + i * 1]? = some (.int .i64 x) := fun i x h => by
    rw [Nat.zero_add, dgV, List.getElem?_append_left (by rw [iis_len]; have := (List.getElem?_eq_some_iff.1 h).1; omega)]
    exact i_at h
  have hdr : dgV vs p8 = iis vs ++ (fl u8V p8 ++ []) := by rw [fl_u8, List.append_nil]; rfl
  have hil : (iis vs).length = 4 := by rw [iis_len, hv]
  have hlen : (dgV vs p8).length = 12 := dg_len hv hp
  refine enterK (tb := tb) Tryz.func46 rfl Tryz.ntmps46 rfl ?_
  generalize hD : dgV vs p8 = D at *
  repeat' (first | (apply R.is1; first | (apply R.isBin; first | (apply R.pure; exact rfl; first | (apply Ok1.add64; exact rfl; exact rfl; omega; omega) | (apply Ok1.lss_t; exact rfl; exact rfl; omega) | (apply Ok1.lss_f; exact rfl; exact rfl; omega)) | (apply R.lss rfl rfl rfl <;> intro)) | (apply R.pure; exact rfl; first | (apply Ok1.move; exact rfl) | (apply Ok1.fieldAddr; (iterate 5 exact rfl)) | (apply Ok1.load; exact rfl; first | (apply Ld.own1; exact rfl; exact rfl; (focus ((repeat' (first | exact At.head | apply At.tail | apply At.right)); done)); exact rfl) | (apply Ld.ownk; exact rfl; exact rfl; (focus ((repeat' (first | exact At.head | apply At.tail | apply At.right)); done)); exact rfl) | (apply Ld.old1; exact rfl; exact rfl; assumption; (first | exact List.not_mem_nil | assumption)) | (apply Ld.blk1; exact rfl; exact rfl; assumption; (first | exact List.not_mem_nil | assumption); exact rfl) | (apply Ld.blkk; exact rfl; exact rfl; assumption; (first | exact List.not_mem_nil | assumption); exact rfl)) | (apply Ok1.assign; exact rfl) | (apply Ok1.indexAddr; (iterate 5 exact rfl); omega; omega) | (apply Ok1.indexAddrA; (iterate 5 exact rfl); omega; omega) | (apply Ok1.build; (iterate 5 exact rfl)) | (apply Ok1.buildA; (iterate 6 exact rfl)) | (apply Ok1.slice0; (iterate 7 exact rfl); (refine ⟨?_, ?_, ?_⟩ <;> omega); (first | exact Or.inl rfl | exact Or.inr (fun e => by cases e))) | (apply Ok1.sliceTo; (iterate 6 exact rfl); omega; omega; omega; (first | exact Or.inl rfl | exact Or.inr (fun e => by cases e))) | (apply Ok1.sliceFrom; (iterate 7 exact rfl); omega; omega; omega; omega; omega; (first | exact Or.inl rfl | exact Or.inr (fun e => by cases e)))) | (apply R.box; (iterate 3 exact rfl); intro)) | (apply R.is0; first | fail) | (apply R.isG; first | (apply R.guard_run; exact rfl; exact rfl) | (apply R.guard_not; (iterate 3 exact rfl)) | (apply R.guard_not0; exact rfl; exact rfl) | (apply R.guard_un; (iterate 3 exact rfl)) | (apply R.guard_un0; exact rfl; exact rfl) | (apply R.guard rfl rfl ?_ (fun h => ⟨rfl, ?_⟩) <;> try intro)) | apply R.nil | (apply T.is; first | apply T.seq | apply T.region | apply T.block | apply T.scope | apply T.label | apply T.skip | apply T.exit | apply T.ret | (apply T.cond_t; exact rfl) | (apply T.cond_f; exact rfl) | (apply T.cond_h; exact rfl; assumption) | (apply T.cond_n; exact rfl; assumption) | (apply T.cond rfl <;> intro)) | apply Rnd.step)
  rename_i b1
  apply T.loopK (α := Nat × Ov) (I := fun y => y.1 ≤ 4 ∧ OvOk 1 y.2 (numsI 1 (vs.take y.1)).length (u8s (numsI 1 (vs.take y.1)))) (σi := fun y => [(1, .pointer (some ⟨b1, 0, none⟩)), (3, slV y.2 (numsI 1 (vs.take y.1)).length), (4, .int .i64 y.1)]) (Li := fun y => (b1, .cells ⟨D⟩ 25 (0, 0)) :: blkL 5 y.2 (u8s (numsI 1 (vs.take y.1)))) (μ := fun y => 4 - y.1) (i0 := (0, none))
  · exact ⟨Nat.zero_le _, OvOk.start 1⟩
  · exact ⟨rfl, rfl, rfl, trivial⟩
  · (focus ((repeat' (first | exact Keep.nil _ | exact Ext.one _ _ | exact Ext.here _ _ | exact Ext.all _ | apply Keep.cons | apply Keep.app | apply Keep.last | apply Ext.cons | apply Ext.app)); done))
  · rintro ⟨i, ov⟩ ⟨hi, hov⟩
    simp only at hi hov ⊢
    rcases Nat.lt_or_ge i 4 with hlt | hge
    · obtain ⟨x, hx⟩ : ∃ x, vs[i]? = some x := ⟨_, List.getElem?_eq_getElem (by omega)⟩
      have hxc := hcell i x hx
      have ha := fun w1 => dout_ok 1 x (vr_fits hV x (List.mem_of_getElem? hx)) w1
      have hla := num_len 1 x
      have htk := nums_take (s := 1) hx
      have hnl := nums1_len (vs.take i)
      have htl : (vs.take i).length = i := by rw [List.length_take]; omega
      have hbl : (numsI 1 (vs.take i)).length ≤ 8 := by omega
      generalize numsI 1 (vs.take i) = B0 at *
      generalize numI 1 x = N1 at *
      repeat' (first | (apply R.is1; first | (apply R.isBin; first | (apply R.pure; exact rfl; first | (apply Ok1.add64; exact rfl; exact rfl; omega; omega) | (apply Ok1.lss_t; exact rfl; exact rfl; omega) | (apply Ok1.lss_f; exact rfl; exact rfl; omega)) | (apply R.lss rfl rfl rfl <;> intro)) | (apply R.isCall; first | (apply R.callE (vs := [.agg ⟨fldV 1 x⟩]); (iterate 3 exact rfl); exact Ext.none _; intro w1 hw1; exact ha w1; rintro v Lo ⟨ova, hova, rfl, rfl⟩) | (apply R.appendSl (ov := ov) (n := B0.length) (old := u8s B0) (ov2 := ova) (m := N1.length) (news := u8s N1) (e3 := 5); (iterate 12 exact rfl); exact hov; exact hova; (focus ((repeat' (first | exact Ext.none _ | exact Ext.one _ _ | exact Ext.here _ _ | exact Ext.all _ | apply Ext.cons | apply Ext.app | apply Ext.two)); done)); exact Ext.mem (by (focus ((repeat' (first | exact Ext.none _ | exact Ext.one _ _ | exact Ext.here _ _ | exact Ext.all _ | apply Ext.cons | apply Ext.app | apply Ext.two)); done))); exact u8s_one _; omega; intro ov1 hov1; rw [← u8s_app, ← List.length_append]; rw [← u8s_app, ← List.length_append] at hov1)) | (apply R.pure; exact rfl; first | (apply Ok1.load; exact rfl; (apply Ld.own1; exact rfl; exact rfl; (focus ((repeat' (first | exact At.head | apply At.tail | apply At.right)); done)); exact hxc)) | (apply Ok1.move; exact rfl) | (apply Ok1.fieldAddr; (iterate 5 exact rfl)) | (apply Ok1.load; exact rfl; first | (apply Ld.own1; exact rfl; exact rfl; (focus ((repeat' (first | exact At.head | apply At.tail | apply At.right)); done)); exact rfl) | (apply Ld.ownk; exact rfl; exact rfl; (focus ((repeat' (first | exact At.head | apply At.tail | apply At.right)); done)); exact rfl) | (apply Ld.old1; exact rfl; exact rfl; assumption; (first | exact List.not_mem_nil | assumption)) | (apply Ld.blk1; exact rfl; exact rfl; assumption; (first | exact List.not_mem_nil | assumption); exact rfl) | (apply Ld.blkk; exact rfl; exact rfl; assumption; (first | exact List.not_mem_nil | assumption); exact rfl)) | (apply Ok1.assign; exact rfl) | (apply Ok1.indexAddr; (iterate 5 exact rfl); omega; omega) | (apply Ok1.indexAddrA; (iterate 5 exact rfl); omega; omega) | (apply Ok1.build; (iterate 5 exact rfl)) | (apply Ok1.buildA; (iterate 6 exact rfl)) | (apply Ok1.slice0; (iterate 7 exact rfl); (refine ⟨?_, ?_, ?_⟩ <;> omega); (first | exact Or.inl rfl | exact Or.inr (fun e => by cases e))) | (apply Ok1.sliceTo; (iterate 6 exact rfl); omega; omega; omega; (first | exact Or.inl rfl | exact Or.inr (fun e => by cases e))) | (apply Ok1.sliceFrom; (iterate 7 exact rfl); omega; omega; omega; omega; omega; (first | exact Or.inl rfl | exact Or.inr (fun e => by cases e)))) | (apply R.box; (iterate 3 exact rfl); intro)) | (apply R.is0; first | fail) | (apply R.isG; first | (apply R.guard_run; exact rfl; exact rfl) | (apply R.guard_not; (iterate 3 exact rfl)) | (apply R.guard_not0; exact rfl; exact rfl) | (apply R.guard_un; (iterate 3 exact rfl)) | (apply R.guard_un0; exact rfl; exact rfl) | (apply R.guard rfl rfl ?_ (fun h => ⟨rfl, ?_⟩) <;> try intro)) | apply R.nil | (apply T.is; first | apply T.seq | apply T.region | apply T.block | apply T.scope | apply T.label | apply T.skip | apply T.exit | apply T.ret | (apply T.cond_t; exact rfl) | (apply T.cond_f; exact rfl) | (apply T.cond_h; exact rfl; assumption) | (apply T.cond_n; exact rfl; assumption) | (apply T.cond rfl <;> intro)) | apply Rnd.step)
      rw [← htk] at hov1 ⊢
      exact ⟨(i + 1, ov1), ⟨by simp only; omega, hov1⟩, by simp only; omega, ⟨rfl, rfl, rfl, trivial⟩, by (focus ((repeat' (first | exact Keep.nil _ | exact Ext.one _ _ | exact Ext.here _ _ | exact Ext.all _ | apply Keep.cons | apply Keep.app | apply Keep.last | apply Ext.cons | apply Ext.app)); done))⟩
    · have hi4 : i = 4 := by omega
      subst hi4
      rw [show vs.take 4 = vs from List.take_of_length_le (by omega)] at hov ⊢
      have hnl := nums1_len vs
      unfold encG
      generalize numsI 1 vs = B at *
      repeat' (first | (apply R.is1; first | (apply R.isBin; first | (apply R.pure; exact rfl; first | (apply Ok1.add64; exact rfl; exact rfl; omega; omega) | (apply Ok1.lss_t; exact rfl; exact rfl; omega) | (apply Ok1.lss_f; exact rfl; exact rfl; omega)) | (apply R.lss rfl rfl rfl <;> intro)) | (apply R.isCall; first | (apply R.appendRd (xs := p8) (v := u8V) (sz := 1) (ov := ov) (n := B.length) (old := u8s B) (m := 8) (p := some ⟨b1, 4, none⟩); (iterate 12 exact rfl); exact hov; (focus ((repeat' (first | exact Ext.none _ | exact Ext.one _ _ | exact Ext.here _ _ | exact Ext.all _ | apply Ext.cons | apply Ext.app | apply Ext.two)); done)); exact hp.symm; exact u8V_len; exact rfl; (intro w1 hw1; exact RdSl.ofOff hw1 (by (focus ((repeat' (first | exact At.head | apply At.tail | apply At.right)); done))) hdr hil); (focus (rw [fl_u8]; exact u8s_one _)); omega; intro ov1 hov1 hsome; rw [fl_u8, ← u8s_app] at hov1; rw [fl_u8, ← u8s_app]; rw [show B.length + 8 = (B ++ p8).length by rw [List.length_append, hp]] at hov1; rw [show B.length + 8 = (B ++ p8).length by rw [List.length_append, hp]])) | (apply R.pure; exact rfl; first | (apply Ok1.sliceArr; (iterate 4 exact rfl)) | (apply Ok1.move; exact rfl) | (apply Ok1.fieldAddr; (iterate 5 exact rfl)) | (apply Ok1.load; exact rfl; first | (apply Ld.own1; exact rfl; exact rfl; (focus ((repeat' (first | exact At.head | apply At.tail | apply At.right)); done)); exact rfl) | (apply Ld.ownk; exact rfl; exact rfl; (focus ((repeat' (first | exact At.head | apply At.tail | apply At.right)); done)); exact rfl) | (apply Ld.old1; exact rfl; exact rfl; assumption; (first | exact List.not_mem_nil | assumption)) | (apply Ld.blk1; exact rfl; exact rfl; assumption; (first | exact List.not_mem_nil | assumption); exact rfl) | (apply Ld.blkk; exact rfl; exact rfl; assumption; (first | exact List.not_mem_nil | assumption); exact rfl)) | (apply Ok1.assign; exact rfl) | (apply Ok1.indexAddr; (iterate 5 exact rfl); omega; omega) | (apply Ok1.indexAddrA; (iterate 5 exact rfl); omega; omega) | (apply Ok1.build; (iterate 5 exact rfl)) | (apply Ok1.buildA; (iterate 6 exact rfl)) | (apply Ok1.slice0; (iterate 7 exact rfl); (refine ⟨?_, ?_, ?_⟩ <;> omega); (first | exact Or.inl rfl | exact Or.inr (fun e => by cases e))) | (apply Ok1.sliceTo; (iterate 6 exact rfl); omega; omega; omega; (first | exact Or.inl rfl | exact Or.inr (fun e => by cases e))) | (apply Ok1.sliceFrom; (iterate 7 exact rfl); omega; omega; omega; omega; omega; (first | exact Or.inl rfl | exact Or.inr (fun e => by cases e)))) | (apply R.box; (iterate 3 exact rfl); intro)) | (apply R.is0; first | fail) | (apply R.isG; first | (apply R.guard_run; exact rfl; exact rfl) | (apply R.guard_not; (iterate 3 exact rfl)) | (apply R.guard_not0; exact rfl; exact rfl) | (apply R.guard_un; (iterate 3 exact rfl)) | (apply R.guard_un0; exact rfl; exact rfl) | (apply R.guard rfl rfl ?_ (fun h => ⟨rfl, ?_⟩) <;> try intro)) | apply R.nil | (apply T.is; first | apply T.seq | apply T.region | apply T.block | apply T.scope | apply T.label | apply T.skip | apply T.exit | apply T.ret | (apply T.cond_t; exact rfl) | (apply T.cond_f; exact rfl) | (apply T.cond_h; exact rfl; assumption) | (apply T.cond_n; exact rfl; assumption) | (apply T.cond rfl <;> intro)) | apply Rnd.step)
      (apply RetOk.t; exact rfl)
      exact ⟨_, by (focus ((repeat' (first | exact Keep.nil _ | exact Ext.one _ _ | exact Ext.here _ _ | exact Ext.all _ | apply Keep.cons | apply Keep.app | apply Keep.last | apply Ext.cons | apply Ext.app)); done)), ov1, hov1, rfl, rfl⟩
theorem Rs.ok.fail {s : Rs} {br : Nat} {w : World} (h : s.ok br w) (e : Int) : (s.fail e).ok br w := by
  unfold Rs.fail
  split
  · exact ⟨.inl rfl, Nat.le_refl _, (fun h => absurd rfl h), (fun y hy => by cases hy), Nat.zero_le _⟩
  · exact h
theorem Rs.ok.drop {s : Rs} {br : Nat} {w : World} (h : s.ok br w) {k : Nat} (hk : k ≤ s.xs.length) : (s.drop k).ok br w := by
  refine ⟨h.rd.suf u8V_len hk h.cap, ?_, fun hne => ?_, fun y hy => h.byt y (List.mem_of_mem_drop hy), ?_⟩
  · have := h.cap; simp only [Rs.drop, List.length_drop]; omega
  · exact (h.off (by intro h0; apply hne; simp [Rs.drop, h0])).suf _ _ _
  · have := h.big; simp only [Rs.drop, List.length_drop]; omega
theorem Rs.ok.num {s : Rs} {br : Nat} {w : World} (h : s.ok br w) (k : Nat) : (s.num k).2.2.ok br w := by
  unfold Rs.num
  split
  · exact h.fail 4
  · rename_i hn
    have hk : k ≤ s.xs.length := Nat.le_of_not_lt fun h1 => hn (.inr h1)
    split
    · exact h.drop hk
    · exact (h.drop hk).fail 3
theorem Rs.ok.chg {s : Rs} {br : Nat} {w w1 : World} (h : s.ok br w) {S : List Nat} (hc : Chg S w w1) (hS : S = [br]) : s.ok br w1 := ⟨h.rd.chg' hc (fun h9 => hS ▸ h.off h9), h.cap, h.off, h.byt, h.big⟩
def Rs.nx (s : Rs) (w : Nat) : Nat → Rs
  | 0 => s
  | k + 1 => ((s.nx w k).num w).2.2
def Rs.nv (s : Rs) (w k : Nat) : List Int := (List.range k).map fun j => ((s.nx w j).num w).1
theorem Rs.nv_snoc (s : Rs) (w k : Nat) : s.nv w (k + 1) = s.nv w k ++ [((s.nx w k).num w).1] := by simp [Rs.nv, List.range_succ]
theorem Rs.nv_len (s : Rs) (w k : Nat) : (s.nv w k).length = k := by simp [Rs.nv]
theorem Rs.ok.nx {s : Rs} {br : Nat} {w : World} (h : s.ok br w) (z k : Nat) : (s.nx z k).ok br w := by
  induction k with
  | zero => exact h
  | succ k ih => exact ih.num z
/-- A digest read: the digest, the error, what is left. -/
def Rs.rdF (s : Rs) : Rs := (s.nx 2 4).nx 1 8
def rdD (s : Rs) : List Int × List Int × Int := if s.rdF.e ≠ 0 then ([0, 0, 0, 0], [0, 0, 0, 0, 0, 0, 0, 0], s.rdF.e) else if VR (s.nv 2 4) then (s.nv 2 4, (s.nx 2 4).nv 1 8, 0) else ([0, 0, 0, 0], [0, 0, 0, 0, 0, 0, 0, 0], 3)
theorem rL_blk (s : Rs) (br : Nat) : blks (s.L br) = [br] := rfl
theorem Rs.num1_range (s : Rs) (hb : Byt s.xs) : 0 ≤ (s.num 1).1 ∧ (s.num 1).1 ≤ 255 := by
  unfold Rs.num
  split
  · exact ⟨Int.le_refl _, by simp⟩
  · rename_i hn
    have hl : (s.xs.take 1).length = 1 := by rw [List.length_take]; have := Nat.le_of_not_lt fun h => hn (.inr h); omega
    have hr := be_range 1 (s.xs.take 1) hl fun y hy => hb y (List.mem_of_mem_take hy)
    split
    · exact ⟨hr.1, by have := hr.2; omega⟩
    · exact ⟨Int.le_refl _, by simp⟩
theorem Ext.memI9 {L s L1 : Lst} {x : Nat × Obj} (hm : x ∈ s) (h : Ext L s L1) : x ∈ L := h.mem x hm
theorem read9_ok (br : Nat) (s : Rs) (w : World) (hs : s.ok br w) : CallM Tryz.prog 54 [.pointer (some ⟨br, 0, none⟩)] (s.L br) w fun v L => v = .tuple #[.agg ⟨dgV (rdD s).1 (rdD s).2.1⟩, .int .i64 (rdD s).2.2] ∧ L = s.rdF.L br := by
  refine enterK (tb := tb) Tryz.func54 rfl Tryz.ntmps54 rfl ?_
  repeat' (first | (apply R.is1; first | (apply R.isBin; first | (apply R.pure; exact rfl; first | (apply Ok1.add64; exact rfl; exact rfl; omega; omega) | (apply Ok1.lss_t; exact rfl; exact rfl; omega) | (apply Ok1.lss_f; exact rfl; exact rfl; omega) | (apply Ok1.neq_t; exact rfl; exact rfl; omega) | (apply Ok1.neq_f; exact rfl; exact rfl; omega) | (apply Ok1.neqP; (iterate 5 exact rfl)) | (apply Ok1.neqM; (iterate 5 exact rfl)) | (apply Ok1.neqS; (iterate 5 exact rfl))) | (apply R.lss rfl rfl rfl <;> intro) | (apply R.neq rfl rfl rfl <;> intro) | (apply R.neqF; (iterate 8 exact rfl); all_goals intro)) | (apply R.pure; exact rfl; first | (apply Ok1.move; exact rfl) | (apply Ok1.fieldAddr; (iterate 5 exact rfl)) | (apply Ok1.load; exact rfl; first | (apply Ld.own1; exact rfl; exact rfl; (focus ((repeat' (first | exact At.head | apply At.tail | apply At.right)); done)); exact rfl) | (apply Ld.ownk; exact rfl; exact rfl; (focus ((repeat' (first | exact At.head | apply At.tail | apply At.right)); done)); exact rfl) | (apply Ld.old1; exact rfl; exact rfl; assumption; (first | exact List.not_mem_nil | assumption)) | (apply Ld.blk1; exact rfl; exact rfl; assumption; (first | exact List.not_mem_nil | assumption); exact rfl) | (apply Ld.blkk; exact rfl; exact rfl; assumption; (first | exact List.not_mem_nil | assumption); exact rfl)) | (apply Ok1.assign; exact rfl) | (apply Ok1.indexAddr; (iterate 5 exact rfl); omega; omega) | (apply Ok1.indexAddrA; (iterate 5 exact rfl); omega; omega) | (apply Ok1.build; (iterate 5 exact rfl)) | (apply Ok1.not_t; exact rfl) | (apply Ok1.not_f; exact rfl) | (apply Ok1.not; exact rfl) | (apply Ok1.buildA; (iterate 6 exact rfl)) | (apply Ok1.convI64; (iterate 5 exact rfl); omega; omega) | (apply Ok1.convU64; (iterate 5 exact rfl); omega; omega) | (apply Ok1.convU32; (iterate 5 exact rfl); omega; omega) | (apply Ok1.convU8; (iterate 5 exact rfl); omega; omega) | (apply Ok1.conv; (iterate 5 exact rfl)) | (apply Ok1.neg; exact rfl)) | (apply R.alloc; (iterate 3 exact rfl); intro)) | (apply R.is0; first | (apply R.store; (iterate 6 exact rfl); (focus ((repeat' (first | exact Upd.head | apply Upd.tail | apply Upd.right)); done)); exact rfl) | fail) | (apply R.isG; first | (apply R.guard_run; exact rfl; exact rfl) | (apply R.guard_not; (iterate 3 exact rfl)) | (apply R.guard_not0; exact rfl; exact rfl) | (apply R.guard_un; (iterate 3 exact rfl)) | (apply R.guard_un0; exact rfl; exact rfl) | (apply R.guard rfl rfl ?_ (fun h => ⟨rfl, ?_⟩) <;> try intro)) | apply R.nil | (apply T.is; first | apply T.seq | apply T.region | apply T.block | apply T.scope | apply T.label | apply T.skip | apply T.exit | apply T.ret | (apply T.cond_t; exact rfl) | (apply T.cond_f; exact rfl) | (apply T.cond_h; exact rfl; assumption) | (apply T.cond_n; exact rfl; assumption) | (apply T.cond rfl <;> intro)) | apply Rnd.step)
  rename_i b2 b4
  apply T.loopK (α := Nat) (I := fun i => i ≤ 4) (σi := fun i => [(0, .pointer (some ⟨br, 0, none⟩)), (2, .pointer (some ⟨b2, 0, none⟩)), (4, .pointer (some ⟨b4, 0, none⟩)), (8, .int .i64 i)]) (Li := fun i => (b2, .cells ⟨dgV [0, 0, 0, 0] [0, 0, 0, 0, 0, 0, 0, 0]⟩ 34 (0, 0)) :: (b4, .cells ⟨dgQ (s.nv 2 i) []⟩ 34 (0, 0)) :: (s.nx 2 i).L br) (μ := fun i => 4 - i) (i0 := 0)
  · exact Nat.zero_le _
  · exact ⟨rfl, rfl, rfl, rfl, trivial⟩
  · show Keep _ ((b2, _) :: (b4, .cells ⟨dgQ [] []⟩ 34 (0, 0)) :: s.L br)
    rw [dgQ0]
    (focus ((repeat' (first | exact Keep.nil _ | exact Ext.one _ _ | exact Ext.here _ _ | exact Ext.all _ | apply Keep.cons | apply Keep.app | apply Keep.last | apply Ext.cons | apply Ext.app)); done))
  · intro i hi
    rcases Nat.lt_or_ge i 4 with hlt | hge
    · have hn := fun w1 h1 => rnum_ok br (s.nx 2 i) 1 2 (by decide) u2 w1 h1
      have hok := hs.nx 2 i
      have hst := dgQ_v (ps := []) (s.nv_len 2 i) hlt ((s.nx 2 i).num 2).1
      rw [← Rs.nv_snoc] at hst
      have hnx : s.nx 2 (i + 1) = ((s.nx 2 i).num 2).2.2 := rfl
      have hbl := rL_blk (s.nx 2 i) br
      have hbl0 := rL_blk s br
      rw [← hnx] at hn
      generalize s.nx 2 i = r at *
      generalize hr' : s.nx 2 (i + 1) = r' at *
      generalize hL0 : r.L br = L0 at *
      generalize hL1 : r'.L br = L1 at *
      repeat' (first | (apply R.is1; first | (apply R.isBin; first | (apply R.pure; exact rfl; first | (apply Ok1.add64; exact rfl; exact rfl; omega; omega) | (apply Ok1.lss_t; exact rfl; exact rfl; omega) | (apply Ok1.lss_f; exact rfl; exact rfl; omega) | (apply Ok1.neq_t; exact rfl; exact rfl; omega) | (apply Ok1.neq_f; exact rfl; exact rfl; omega) | (apply Ok1.neqP; (iterate 5 exact rfl)) | (apply Ok1.neqM; (iterate 5 exact rfl)) | (apply Ok1.neqS; (iterate 5 exact rfl))) | (apply R.lss rfl rfl rfl <;> intro) | (apply R.neq rfl rfl rfl <;> intro) | (apply R.neqF; (iterate 8 exact rfl); all_goals intro)) | (apply R.isCall; first | (apply R.callE (Li := L0) (vs := [.pointer (some ⟨br, 0, none⟩), .int .i64 1]); (iterate 3 exact rfl); (focus ((repeat' (first | exact Ext.none _ | exact Ext.one _ _ | exact Ext.here _ _ | exact Ext.all _ | apply Ext.cons | apply Ext.app | apply Ext.two)); done)); intro w1 hw1; exact hn w1 (hok.chg hw1.chg hbl0); rintro v Lo ⟨rfl, hq⟩; rw [hq]; clear hq)) | (apply R.pure; exact rfl; first | (apply Ok1.move; exact rfl) | (apply Ok1.fieldAddr; (iterate 5 exact rfl)) | (apply Ok1.load; exact rfl; first | (apply Ld.own1; exact rfl; exact rfl; (focus ((repeat' (first | exact At.head | apply At.tail | apply At.right)); done)); exact rfl) | (apply Ld.ownk; exact rfl; exact rfl; (focus ((repeat' (first | exact At.head | apply At.tail | apply At.right)); done)); exact rfl) | (apply Ld.old1; exact rfl; exact rfl; assumption; (first | exact List.not_mem_nil | assumption)) | (apply Ld.blk1; exact rfl; exact rfl; assumption; (first | exact List.not_mem_nil | assumption); exact rfl) | (apply Ld.blkk; exact rfl; exact rfl; assumption; (first | exact List.not_mem_nil | assumption); exact rfl)) | (apply Ok1.assign; exact rfl) | (apply Ok1.indexAddr; (iterate 5 exact rfl); omega; omega) | (apply Ok1.indexAddrA; (iterate 5 exact rfl); omega; omega) | (apply Ok1.build; (iterate 5 exact rfl)) | (apply Ok1.not_t; exact rfl) | (apply Ok1.not_f; exact rfl) | (apply Ok1.not; exact rfl) | (apply Ok1.buildA; (iterate 6 exact rfl)) | (apply Ok1.convI64; (iterate 5 exact rfl); omega; omega) | (apply Ok1.convU64; (iterate 5 exact rfl); omega; omega) | (apply Ok1.convU32; (iterate 5 exact rfl); omega; omega) | (apply Ok1.convU8; (iterate 5 exact rfl); omega; omega) | (apply Ok1.conv; (iterate 5 exact rfl)) | (apply Ok1.neg; exact rfl)) | (apply R.alloc; (iterate 3 exact rfl); intro)) | (apply R.is0; first | (apply R.store; (iterate 6 exact rfl); (focus ((repeat' (first | exact Upd.head | apply Upd.tail | apply Upd.right)); done)); exact hst) | (apply R.store; (iterate 6 exact rfl); (focus ((repeat' (first | exact Upd.head | apply Upd.tail | apply Upd.right)); done)); exact rfl) | fail) | (apply R.isG; first | (apply R.guard_run; exact rfl; exact rfl) | (apply R.guard_not; (iterate 3 exact rfl)) | (apply R.guard_not0; exact rfl; exact rfl) | (apply R.guard_un; (iterate 3 exact rfl)) | (apply R.guard_un0; exact rfl; exact rfl) | (apply R.guard rfl rfl ?_ (fun h => ⟨rfl, ?_⟩) <;> try intro)) | apply R.nil | (apply T.is; first | apply T.seq | apply T.region | apply T.block | apply T.scope | apply T.label | apply T.skip | apply T.exit | apply T.ret | (apply T.cond_t; exact rfl) | (apply T.cond_f; exact rfl) | (apply T.cond_h; exact rfl; assumption) | (apply T.cond_n; exact rfl; assumption) | (apply T.cond rfl <;> intro)) | apply Rnd.step)
      exact ⟨i + 1, by omega, by omega, ⟨rfl, rfl, rfl, rfl, trivial⟩, by simp only [hr', hL1]; (focus ((repeat' (first | exact Keep.nil _ | exact Ext.one _ _ | exact Ext.here _ _ | exact Ext.all _ | apply Keep.cons | apply Keep.app | apply Keep.last | apply Ext.cons | apply Ext.app)); done))⟩
    · have hi4 : i = 4 := by omega
      subst hi4
      have hvl := s.nv_len 2 4
      have hok4 := hs.nx 2 4
      have hbl0 := rL_blk s br
      have hV4 := vright_ok (s.nv 2 4) hvl
      have hF : s.rdF = (s.nx 2 4).nx 1 8 := rfl
      have hD : rdD s = if s.rdF.e ≠ 0 then ([0, 0, 0, 0], [0, 0, 0, 0, 0, 0, 0, 0], s.rdF.e) else if VR (s.nv 2 4) then (s.nv 2 4, (s.nx 2 4).nv 1 8, 0) else ([0, 0, 0, 0], [0, 0, 0, 0, 0, 0, 0, 0], 3) := rfl
      generalize s.nv 2 4 = vs at *
      generalize hs4 : s.nx 2 4 = s4 at *
      generalize hL0 : s4.L br = L4 at *
      repeat' (first | (apply R.is1; first | (apply R.isBin; first | (apply R.pure; exact rfl; first | (apply Ok1.add64; exact rfl; exact rfl; omega; omega) | (apply Ok1.lss_t; exact rfl; exact rfl; omega) | (apply Ok1.lss_f; exact rfl; exact rfl; omega) | (apply Ok1.neq_t; exact rfl; exact rfl; omega) | (apply Ok1.neq_f; exact rfl; exact rfl; omega) | (apply Ok1.neqP; (iterate 5 exact rfl)) | (apply Ok1.neqM; (iterate 5 exact rfl)) | (apply Ok1.neqS; (iterate 5 exact rfl))) | (apply R.lss rfl rfl rfl <;> intro) | (apply R.neq rfl rfl rfl <;> intro) | (apply R.neqF; (iterate 8 exact rfl); all_goals intro)) | (apply R.pure; exact rfl; first | (apply Ok1.move; exact rfl) | (apply Ok1.fieldAddr; (iterate 5 exact rfl)) | (apply Ok1.load; exact rfl; first | (apply Ld.own1; exact rfl; exact rfl; (focus ((repeat' (first | exact At.head | apply At.tail | apply At.right)); done)); exact rfl) | (apply Ld.ownk; exact rfl; exact rfl; (focus ((repeat' (first | exact At.head | apply At.tail | apply At.right)); done)); exact rfl) | (apply Ld.old1; exact rfl; exact rfl; assumption; (first | exact List.not_mem_nil | assumption)) | (apply Ld.blk1; exact rfl; exact rfl; assumption; (first | exact List.not_mem_nil | assumption); exact rfl) | (apply Ld.blkk; exact rfl; exact rfl; assumption; (first | exact List.not_mem_nil | assumption); exact rfl)) | (apply Ok1.assign; exact rfl) | (apply Ok1.indexAddr; (iterate 5 exact rfl); omega; omega) | (apply Ok1.indexAddrA; (iterate 5 exact rfl); omega; omega) | (apply Ok1.build; (iterate 5 exact rfl)) | (apply Ok1.not_t; exact rfl) | (apply Ok1.not_f; exact rfl) | (apply Ok1.not; exact rfl) | (apply Ok1.buildA; (iterate 6 exact rfl)) | (apply Ok1.convI64; (iterate 5 exact rfl); omega; omega) | (apply Ok1.convU64; (iterate 5 exact rfl); omega; omega) | (apply Ok1.convU32; (iterate 5 exact rfl); omega; omega) | (apply Ok1.convU8; (iterate 5 exact rfl); omega; omega) | (apply Ok1.conv; (iterate 5 exact rfl)) | (apply Ok1.neg; exact rfl)) | (apply R.alloc; (iterate 3 exact rfl); intro)) | (apply R.is0; first | (apply R.store; (iterate 6 exact rfl); (focus ((repeat' (first | exact Upd.head | apply Upd.tail | apply Upd.right)); done)); exact rfl) | fail) | (apply R.isG; first | (apply R.guard_run; exact rfl; exact rfl) | (apply R.guard_not; (iterate 3 exact rfl)) | (apply R.guard_not0; exact rfl; exact rfl) | (apply R.guard_un; (iterate 3 exact rfl)) | (apply R.guard_un0; exact rfl; exact rfl) | (apply R.guard rfl rfl ?_ (fun h => ⟨rfl, ?_⟩) <;> try intro)) | apply R.nil | (apply T.is; first | apply T.seq | apply T.region | apply T.block | apply T.scope | apply T.label | apply T.skip | apply T.exit | apply T.ret | (apply T.cond_t; exact rfl) | (apply T.cond_f; exact rfl) | (apply T.cond_h; exact rfl; assumption) | (apply T.cond_n; exact rfl; assumption) | (apply T.cond rfl <;> intro)) | apply Rnd.step)
      apply T.loopK (α := Nat) (I := fun i => i ≤ 8) (σi := fun i => [(0, .pointer (some ⟨br, 0, none⟩)), (2, .pointer (some ⟨b2, 0, none⟩)), (4, .pointer (some ⟨b4, 0, none⟩)), (17, .int .i64 i)]) (Li := fun i => (b2, .cells ⟨dgV [0, 0, 0, 0] [0, 0, 0, 0, 0, 0, 0, 0]⟩ 34 (0, 0)) :: (b4, .cells ⟨dgQ vs (s4.nv 1 i)⟩ 34 (0, 0)) :: (s4.nx 1 i).L br) (μ := fun i => 8 - i) (i0 := 0)
      · exact Nat.zero_le _
      · exact ⟨rfl, rfl, rfl, rfl, trivial⟩
      · show Keep _ ((b2, _) :: (b4, .cells ⟨dgQ vs []⟩ 34 (0, 0)) :: s4.L br)
        rw [hL0]
        (focus ((repeat' (first | exact Keep.nil _ | exact Ext.one _ _ | exact Ext.here _ _ | exact Ext.all _ | apply Keep.cons | apply Keep.app | apply Keep.last | apply Ext.cons | apply Ext.app)); done))
      · intro i hi
        rcases Nat.lt_or_ge i 8 with hlt | hge
        · have hn := fun w1 h1 => rnum_ok br (s4.nx 1 i) 0 1 (by decide) rfl w1 h1
          have hok := hok4.nx 1 i
          have hnr := (s4.nx 1 i).num1_range hok.byt
          have hst := dgQ_p hvl (s4.nv_len 1 i) hlt ((s4.nx 1 i).num 1).1
          rw [← Rs.nv_snoc] at hst
          have hnx : s4.nx 1 (i + 1) = ((s4.nx 1 i).num 1).2.2 := rfl
          rw [← hnx] at hn
          generalize s4.nx 1 i = r at *
          generalize hr' : s4.nx 1 (i + 1) = r' at *
          generalize hL0 : r.L br = L0 at *
          generalize hL1 : r'.L br = L1 at *
          repeat' (first | (apply R.is1; first | (apply R.isBin; first | (apply R.pure; exact rfl; first | (apply Ok1.add64; exact rfl; exact rfl; omega; omega) | (apply Ok1.lss_t; exact rfl; exact rfl; omega) | (apply Ok1.lss_f; exact rfl; exact rfl; omega) | (apply Ok1.neq_t; exact rfl; exact rfl; omega) | (apply Ok1.neq_f; exact rfl; exact rfl; omega) | (apply Ok1.neqP; (iterate 5 exact rfl)) | (apply Ok1.neqM; (iterate 5 exact rfl)) | (apply Ok1.neqS; (iterate 5 exact rfl))) | (apply R.lss rfl rfl rfl <;> intro) | (apply R.neq rfl rfl rfl <;> intro) | (apply R.neqF; (iterate 8 exact rfl); all_goals intro)) | (apply R.isCall; first | (apply R.callE (Li := L0) (vs := [.pointer (some ⟨br, 0, none⟩), .int .i64 0]); (iterate 3 exact rfl); (focus ((repeat' (first | exact Ext.none _ | exact Ext.one _ _ | exact Ext.here _ _ | exact Ext.all _ | apply Ext.cons | apply Ext.app | apply Ext.two)); done)); intro w1 hw1; exact hn w1 (hok.chg hw1.chg hbl0); rintro v Lo ⟨rfl, hq⟩; rw [hq]; clear hq)) | (apply R.pure; exact rfl; first | (apply Ok1.move; exact rfl) | (apply Ok1.fieldAddr; (iterate 5 exact rfl)) | (apply Ok1.load; exact rfl; first | (apply Ld.own1; exact rfl; exact rfl; (focus ((repeat' (first | exact At.head | apply At.tail | apply At.right)); done)); exact rfl) | (apply Ld.ownk; exact rfl; exact rfl; (focus ((repeat' (first | exact At.head | apply At.tail | apply At.right)); done)); exact rfl) | (apply Ld.old1; exact rfl; exact rfl; assumption; (first | exact List.not_mem_nil | assumption)) | (apply Ld.blk1; exact rfl; exact rfl; assumption; (first | exact List.not_mem_nil | assumption); exact rfl) | (apply Ld.blkk; exact rfl; exact rfl; assumption; (first | exact List.not_mem_nil | assumption); exact rfl)) | (apply Ok1.assign; exact rfl) | (apply Ok1.indexAddr; (iterate 5 exact rfl); omega; omega) | (apply Ok1.indexAddrA; (iterate 5 exact rfl); omega; omega) | (apply Ok1.build; (iterate 5 exact rfl)) | (apply Ok1.not_t; exact rfl) | (apply Ok1.not_f; exact rfl) | (apply Ok1.not; exact rfl) | (apply Ok1.buildA; (iterate 6 exact rfl)) | (apply Ok1.convI64; (iterate 5 exact rfl); omega; omega) | (apply Ok1.convU64; (iterate 5 exact rfl); omega; omega) | (apply Ok1.convU32; (iterate 5 exact rfl); omega; omega) | (apply Ok1.convU8; (iterate 5 exact rfl); omega; omega) | (apply Ok1.conv; (iterate 5 exact rfl)) | (apply Ok1.neg; exact rfl)) | (apply R.alloc; (iterate 3 exact rfl); intro)) | (apply R.is0; first | (apply R.store; (iterate 6 exact rfl); (focus ((repeat' (first | exact Upd.head | apply Upd.tail | apply Upd.right)); done)); exact hst) | (apply R.store; (iterate 6 exact rfl); (focus ((repeat' (first | exact Upd.head | apply Upd.tail | apply Upd.right)); done)); exact rfl) | fail) | (apply R.isG; first | (apply R.guard_run; exact rfl; exact rfl) | (apply R.guard_not; (iterate 3 exact rfl)) | (apply R.guard_not0; exact rfl; exact rfl) | (apply R.guard_un; (iterate 3 exact rfl)) | (apply R.guard_un0; exact rfl; exact rfl) | (apply R.guard rfl rfl ?_ (fun h => ⟨rfl, ?_⟩) <;> try intro)) | apply R.nil | (apply T.is; first | apply T.seq | apply T.region | apply T.block | apply T.scope | apply T.label | apply T.skip | apply T.exit | apply T.ret | (apply T.cond_t; exact rfl) | (apply T.cond_f; exact rfl) | (apply T.cond_h; exact rfl; assumption) | (apply T.cond_n; exact rfl; assumption) | (apply T.cond rfl <;> intro)) | apply Rnd.step)
          exact ⟨i + 1, by omega, by omega, ⟨rfl, rfl, rfl, rfl, trivial⟩, by simp only [hr', hL1]; (focus ((repeat' (first | exact Keep.nil _ | exact Ext.one _ _ | exact Ext.here _ _ | exact Ext.all _ | apply Keep.cons | apply Keep.app | apply Keep.last | apply Ext.cons | apply Ext.app)); done))⟩
        · have hi8 : i = 8 := by omega
          subst hi8
          have hpl := s4.nv_len 1 8
          have hre := fun w1 h => rerr_ok br (s4.nx 1 8) w1 h
          rw [dgQ_all hvl hpl]
          rw [← hF] at hre ⊢
          generalize hps : s4.nv 1 8 = ps at *
          have hdl := dg_len hvl hpl
          have hdo := dg_one vs ps
          have hs4' : subE (dgV vs ps) 0 4 = some (iis vs) := subE_app _ _ (by rw [iis_len, hvl])
          generalize s.rdF = F at *
          have hm3 : (br, Obj.cells ⟨[.slice F.q F.xs.length F.cap, .int .i64 F.e]⟩ 173 (0, 0)) ∈ F.L br := by simp [Rs.L]
          generalize hLF : F.L br = LF at *
          by_cases he : F.e = 0
          · rw [if_neg (fun h => h he)] at hD
            rw [he] at hre hm3
            by_cases hV : VR vs
            · rw [decide_eq_true hV] at hV4
              rw [if_pos hV] at hD
              rw [hD]
              generalize dgV vs ps = D at *
              repeat' (first | (apply R.is1; first | (apply R.isBin; first | (apply R.pure; exact rfl; first | (apply Ok1.add64; exact rfl; exact rfl; omega; omega) | (apply Ok1.lss_t; exact rfl; exact rfl; omega) | (apply Ok1.lss_f; exact rfl; exact rfl; omega) | (apply Ok1.neq_t; exact rfl; exact rfl; omega) | (apply Ok1.neq_f; exact rfl; exact rfl; omega) | (apply Ok1.neqP; (iterate 5 exact rfl)) | (apply Ok1.neqM; (iterate 5 exact rfl)) | (apply Ok1.neqS; (iterate 5 exact rfl))) | (apply R.lss rfl rfl rfl <;> intro) | (apply R.neq rfl rfl rfl <;> intro) | (apply R.neqF; (iterate 8 exact rfl); all_goals intro)) | (apply R.isCall; first | apply R.callP rfl rfl rfl hV4 | (apply R.callV (vs := [.pointer (some ⟨br, 0, none⟩)]); (iterate 3 exact rfl); intro w1 hw1; (apply hre w1; apply hw1.get; apply Ext.memI9 hm3; (focus ((repeat' (first | exact Ext.none _ | exact Ext.one _ _ | exact Ext.here _ _ | exact Ext.all _ | apply Ext.cons | apply Ext.app | apply Ext.two)); done))))) | (apply R.pure; exact rfl; first | (apply Ok1.load; exact rfl; first | (apply Ld.ownk; exact rfl; exact rfl; (focus ((repeat' (first | exact At.head | apply At.tail | apply At.right)); done)); exact subE_all hdl) | (apply Ld.ownk; exact rfl; exact rfl; (focus ((repeat' (first | exact At.head | apply At.tail | apply At.right)); done)); exact hs4')) | (apply Ok1.move; exact rfl) | (apply Ok1.fieldAddr; (iterate 5 exact rfl)) | (apply Ok1.load; exact rfl; first | (apply Ld.own1; exact rfl; exact rfl; (focus ((repeat' (first | exact At.head | apply At.tail | apply At.right)); done)); exact rfl) | (apply Ld.ownk; exact rfl; exact rfl; (focus ((repeat' (first | exact At.head | apply At.tail | apply At.right)); done)); exact rfl) | (apply Ld.old1; exact rfl; exact rfl; assumption; (first | exact List.not_mem_nil | assumption)) | (apply Ld.blk1; exact rfl; exact rfl; assumption; (first | exact List.not_mem_nil | assumption); exact rfl) | (apply Ld.blkk; exact rfl; exact rfl; assumption; (first | exact List.not_mem_nil | assumption); exact rfl)) | (apply Ok1.assign; exact rfl) | (apply Ok1.indexAddr; (iterate 5 exact rfl); omega; omega) | (apply Ok1.indexAddrA; (iterate 5 exact rfl); omega; omega) | (apply Ok1.build; (iterate 5 exact rfl)) | (apply Ok1.not_t; exact rfl) | (apply Ok1.not_f; exact rfl) | (apply Ok1.not; exact rfl) | (apply Ok1.buildA; (iterate 6 exact rfl)) | (apply Ok1.convI64; (iterate 5 exact rfl); omega; omega) | (apply Ok1.convU64; (iterate 5 exact rfl); omega; omega) | (apply Ok1.convU32; (iterate 5 exact rfl); omega; omega) | (apply Ok1.convU8; (iterate 5 exact rfl); omega; omega) | (apply Ok1.conv; (iterate 5 exact rfl)) | (apply Ok1.neg; exact rfl)) | (apply R.alloc; (iterate 3 exact rfl); intro)) | (apply R.is0; first | (apply R.store; (iterate 4 exact rfl); exact hdl; exact hdo; (focus ((repeat' (first | exact Upd.head | apply Upd.tail | apply Upd.right)); done)); exact setE_all (by rw [hdl]; rfl)) | (apply R.store; (iterate 6 exact rfl); (focus ((repeat' (first | exact Upd.head | apply Upd.tail | apply Upd.right)); done)); exact rfl) | fail) | (apply R.isG; first | (apply R.guard_run; exact rfl; exact rfl) | (apply R.guard_not; (iterate 3 exact rfl)) | (apply R.guard_not0; exact rfl; exact rfl) | (apply R.guard_un; (iterate 3 exact rfl)) | (apply R.guard_un0; exact rfl; exact rfl) | (apply R.guard rfl rfl ?_ (fun h => ⟨rfl, ?_⟩) <;> try intro)) | apply R.nil | (apply T.is; first | apply T.seq | apply T.region | apply T.block | apply T.scope | apply T.label | apply T.skip | apply T.exit | apply T.ret | (apply T.cond_t; exact rfl) | (apply T.cond_f; exact rfl) | (apply T.cond_h; exact rfl; assumption) | (apply T.cond_n; exact rfl; assumption) | (apply T.cond rfl <;> intro)) | apply Rnd.step)
              (apply RetOk.ct; exact rfl; (apply Ld.ownk; exact rfl; exact rfl; (focus ((repeat' (first | exact At.head | apply At.tail | apply At.right)); done)); exact subE_all hdl); exact rfl)
              exact ⟨_, by (focus ((repeat' (first | exact Keep.nil _ | exact Ext.one _ _ | exact Ext.here _ _ | exact Ext.all _ | apply Keep.cons | apply Keep.app | apply Keep.last | apply Ext.cons | apply Ext.app)); done)), rfl, rfl⟩
            · rw [decide_eq_false hV] at hV4
              rw [if_neg hV] at hD
              rw [hD]
              generalize dgV vs ps = D at *
              repeat' (first | (apply R.is1; first | (apply R.isBin; first | (apply R.pure; exact rfl; first | (apply Ok1.add64; exact rfl; exact rfl; omega; omega) | (apply Ok1.lss_t; exact rfl; exact rfl; omega) | (apply Ok1.lss_f; exact rfl; exact rfl; omega) | (apply Ok1.neq_t; exact rfl; exact rfl; omega) | (apply Ok1.neq_f; exact rfl; exact rfl; omega) | (apply Ok1.neqP; (iterate 5 exact rfl)) | (apply Ok1.neqM; (iterate 5 exact rfl)) | (apply Ok1.neqS; (iterate 5 exact rfl))) | (apply R.lss rfl rfl rfl <;> intro) | (apply R.neq rfl rfl rfl <;> intro) | (apply R.neqF; (iterate 8 exact rfl); all_goals intro)) | (apply R.isCall; first | apply R.callP rfl rfl rfl hV4 | (apply R.callV (vs := [.pointer (some ⟨br, 0, none⟩)]); (iterate 3 exact rfl); intro w1 hw1; (apply hre w1; apply hw1.get; apply Ext.memI9 hm3; (focus ((repeat' (first | exact Ext.none _ | exact Ext.one _ _ | exact Ext.here _ _ | exact Ext.all _ | apply Ext.cons | apply Ext.app | apply Ext.two)); done))))) | (apply R.pure; exact rfl; first | (apply Ok1.load; exact rfl; first | (apply Ld.ownk; exact rfl; exact rfl; (focus ((repeat' (first | exact At.head | apply At.tail | apply At.right)); done)); exact hs4')) | (apply Ok1.move; exact rfl) | (apply Ok1.fieldAddr; (iterate 5 exact rfl)) | (apply Ok1.load; exact rfl; first | (apply Ld.own1; exact rfl; exact rfl; (focus ((repeat' (first | exact At.head | apply At.tail | apply At.right)); done)); exact rfl) | (apply Ld.ownk; exact rfl; exact rfl; (focus ((repeat' (first | exact At.head | apply At.tail | apply At.right)); done)); exact rfl) | (apply Ld.old1; exact rfl; exact rfl; assumption; (first | exact List.not_mem_nil | assumption)) | (apply Ld.blk1; exact rfl; exact rfl; assumption; (first | exact List.not_mem_nil | assumption); exact rfl) | (apply Ld.blkk; exact rfl; exact rfl; assumption; (first | exact List.not_mem_nil | assumption); exact rfl)) | (apply Ok1.assign; exact rfl) | (apply Ok1.indexAddr; (iterate 5 exact rfl); omega; omega) | (apply Ok1.indexAddrA; (iterate 5 exact rfl); omega; omega) | (apply Ok1.build; (iterate 5 exact rfl)) | (apply Ok1.not_t; exact rfl) | (apply Ok1.not_f; exact rfl) | (apply Ok1.not; exact rfl) | (apply Ok1.buildA; (iterate 6 exact rfl)) | (apply Ok1.convI64; (iterate 5 exact rfl); omega; omega) | (apply Ok1.convU64; (iterate 5 exact rfl); omega; omega) | (apply Ok1.convU32; (iterate 5 exact rfl); omega; omega) | (apply Ok1.convU8; (iterate 5 exact rfl); omega; omega) | (apply Ok1.conv; (iterate 5 exact rfl)) | (apply Ok1.neg; exact rfl)) | (apply R.alloc; (iterate 3 exact rfl); intro)) | (apply R.is0; first | (apply R.store; (iterate 6 exact rfl); (focus ((repeat' (first | exact Upd.head | apply Upd.tail | apply Upd.right)); done)); exact rfl) | fail) | (apply R.isG; first | (apply R.guard_run; exact rfl; exact rfl) | (apply R.guard_not; (iterate 3 exact rfl)) | (apply R.guard_not0; exact rfl; exact rfl) | (apply R.guard_un; (iterate 3 exact rfl)) | (apply R.guard_un0; exact rfl; exact rfl) | (apply R.guard rfl rfl ?_ (fun h => ⟨rfl, ?_⟩) <;> try intro)) | apply R.nil | (apply T.is; first | apply T.seq | apply T.region | apply T.block | apply T.scope | apply T.label | apply T.skip | apply T.exit | apply T.ret | (apply T.cond_t; exact rfl) | (apply T.cond_f; exact rfl) | (apply T.cond_h; exact rfl; assumption) | (apply T.cond_n; exact rfl; assumption) | (apply T.cond rfl <;> intro)) | apply Rnd.step)
              (apply RetOk.ct; exact rfl; (first | (apply Ld.ownk; exact rfl; exact rfl; (focus ((repeat' (first | exact At.head | apply At.tail | apply At.right)); done)); exact rfl) | (apply Ld.own1; exact rfl; exact rfl; (focus ((repeat' (first | exact At.head | apply At.tail | apply At.right)); done)); exact rfl)); exact rfl)
              exact ⟨_, by (focus ((repeat' (first | exact Keep.nil _ | exact Ext.one _ _ | exact Ext.here _ _ | exact Ext.all _ | apply Keep.cons | apply Keep.app | apply Keep.last | apply Ext.cons | apply Ext.app)); done)), rfl, rfl⟩
          · rw [if_pos he] at hD
            rw [hD]
            generalize dgV vs ps = D at *
            repeat' (first | (apply R.is1; first | (apply R.isBin; first | (apply R.pure; exact rfl; first | (apply Ok1.add64; exact rfl; exact rfl; omega; omega) | (apply Ok1.lss_t; exact rfl; exact rfl; omega) | (apply Ok1.lss_f; exact rfl; exact rfl; omega) | (apply Ok1.neq_t; exact rfl; exact rfl; omega) | (apply Ok1.neq_f; exact rfl; exact rfl; omega) | (apply Ok1.neqP; (iterate 5 exact rfl)) | (apply Ok1.neqM; (iterate 5 exact rfl)) | (apply Ok1.neqS; (iterate 5 exact rfl))) | (apply R.lss rfl rfl rfl <;> intro) | (apply R.neq rfl rfl rfl <;> intro) | (apply R.neqF; (iterate 8 exact rfl); all_goals intro)) | (apply R.isCall; first | (apply R.callV (vs := [.pointer (some ⟨br, 0, none⟩)]); (iterate 3 exact rfl); intro w1 hw1; (apply hre w1; apply hw1.get; apply Ext.memI9 hm3; (focus ((repeat' (first | exact Ext.none _ | exact Ext.one _ _ | exact Ext.here _ _ | exact Ext.all _ | apply Ext.cons | apply Ext.app | apply Ext.two)); done))))) | (apply R.pure; exact rfl; first | (apply Ok1.move; exact rfl) | (apply Ok1.fieldAddr; (iterate 5 exact rfl)) | (apply Ok1.load; exact rfl; first | (apply Ld.own1; exact rfl; exact rfl; (focus ((repeat' (first | exact At.head | apply At.tail | apply At.right)); done)); exact rfl) | (apply Ld.ownk; exact rfl; exact rfl; (focus ((repeat' (first | exact At.head | apply At.tail | apply At.right)); done)); exact rfl) | (apply Ld.old1; exact rfl; exact rfl; assumption; (first | exact List.not_mem_nil | assumption)) | (apply Ld.blk1; exact rfl; exact rfl; assumption; (first | exact List.not_mem_nil | assumption); exact rfl) | (apply Ld.blkk; exact rfl; exact rfl; assumption; (first | exact List.not_mem_nil | assumption); exact rfl)) | (apply Ok1.assign; exact rfl) | (apply Ok1.indexAddr; (iterate 5 exact rfl); omega; omega) | (apply Ok1.indexAddrA; (iterate 5 exact rfl); omega; omega) | (apply Ok1.build; (iterate 5 exact rfl)) | (apply Ok1.not_t; exact rfl) | (apply Ok1.not_f; exact rfl) | (apply Ok1.not; exact rfl) | (apply Ok1.buildA; (iterate 6 exact rfl)) | (apply Ok1.convI64; (iterate 5 exact rfl); omega; omega) | (apply Ok1.convU64; (iterate 5 exact rfl); omega; omega) | (apply Ok1.convU32; (iterate 5 exact rfl); omega; omega) | (apply Ok1.convU8; (iterate 5 exact rfl); omega; omega) | (apply Ok1.conv; (iterate 5 exact rfl)) | (apply Ok1.neg; exact rfl)) | (apply R.alloc; (iterate 3 exact rfl); intro)) | (apply R.is0; first | (apply R.store; (iterate 6 exact rfl); (focus ((repeat' (first | exact Upd.head | apply Upd.tail | apply Upd.right)); done)); exact rfl) | fail) | (apply R.isG; first | (apply R.guard_run; exact rfl; exact rfl) | (apply R.guard_not; (iterate 3 exact rfl)) | (apply R.guard_not0; exact rfl; exact rfl) | (apply R.guard_un; (iterate 3 exact rfl)) | (apply R.guard_un0; exact rfl; exact rfl) | (apply R.guard rfl rfl ?_ (fun h => ⟨rfl, ?_⟩) <;> try intro)) | apply R.nil | (apply T.is; first | apply T.seq | apply T.region | apply T.block | apply T.scope | apply T.label | apply T.skip | apply T.exit | apply T.ret | (apply T.cond_t; exact rfl) | (apply T.cond_f; exact rfl) | (apply T.cond_h; exact rfl; assumption) | (apply T.cond_n; exact rfl; assumption) | (apply T.cond rfl <;> intro)) | apply Rnd.step)
            (apply RetOk.ct; exact rfl; (first | (apply Ld.ownk; exact rfl; exact rfl; (focus ((repeat' (first | exact At.head | apply At.tail | apply At.right)); done)); exact rfl) | (apply Ld.own1; exact rfl; exact rfl; (focus ((repeat' (first | exact At.head | apply At.tail | apply At.right)); done)); exact rfl)); exact rfl)
            exact ⟨_, by (focus ((repeat' (first | exact Keep.nil _ | exact Ext.one _ _ | exact Ext.here _ _ | exact Ext.all _ | apply Keep.cons | apply Keep.app | apply Keep.last | apply Ext.cons | apply Ext.app)); done)), rfl, rfl⟩
end Go.Proofs.YtplhnkmmhndkjaaGreat
set_option linter.unusedSimpArgs false
set_option linter.unusedVariables false
namespace Go.Proofs.YtplhnkmmhndkjaaGreat
open Go.RowKit Go.Shelf
theorem encG_byt {vs p8 : List Int} (h : Byt p8) : Byt (encG vs p8) := fun y hy => by
  rcases List.mem_append.1 hy with h1 | h1
  · exact nums_byt _ _ y h1
  · exact h y h1
end Go.Proofs.YtplhnkmmhndkjaaGreat
set_option linter.unusedSimpArgs false
set_option linter.unusedVariables false
set_option linter.unusedSectionVars false
namespace Go.Proofs.YtplhnkmmhndkjaaGreat
open Go.RowKit Go.Shelf Go.Sort
section
variable {α : Type} [Inhabited α] {enc : α → List Value} {k : Nat}
theorem flatK_get (hk : ∀ x, (enc x).length = k) (d : Array α) {t : Nat} (ht : t < d.size * k) : (flatK enc k d)[t]? = (fl enc d.toList)[t]? := by
  have k0 : 0 < k := by rcases Nat.eq_zero_or_pos k with h | h; · subst h; simp at ht
                        · exact h
  have hdm := Nat.div_add_mod t k
  have hml := Nat.mod_lt t k0
  have hil : t / k < d.size := by rw [Nat.div_lt_iff_lt_mul k0]; exact ht
  have hg : d.toList[t / k]? = some d[t / k]! := by simp [hil]
  have h5 := fl_get hk hg hml
  rw [show t / k * k + t % k = t by rw [Nat.mul_comm]; exact hdm] at h5
  rw [h5]
  have h6 := get_flatK enc k d t ht
  rw [getElem!_pos _ t (by simpa using ht)] at h6
  rw [Array.getElem?_eq_getElem (by simpa using ht), h6, List.getElem?_eq_getElem (by rw [hk]; exact hml), getElem!_pos _ _ (by rw [hk]; exact hml)]
theorem putCells_own (hk : ∀ x, (enc x).length = k) (d : Array α) {old junk : List Value} (ho : old.length = d.size * k) :
    putCells id 0 (flatK enc k d) ⟨old ++ junk⟩ = ⟨fl enc d.toList ++ junk⟩ := by
  apply Array.ext_getElem?
  intro t
  have hl : (fl enc d.toList).length = d.size * k := by rw [fl_len hk]; simp
  simp only [putCells, Array.getElem?_mapIdx, Nat.zero_le, true_and, Nat.zero_add, Nat.sub_zero, size_flatK, id, List.getElem?_toArray]
  by_cases ht : t < d.size * k
  · rw [List.getElem?_append_left (by omega), List.getElem?_append_left (by omega), List.getElem?_eq_getElem (by omega), ← flatK_get hk d ht]
    simp [ht]
  · rw [List.getElem?_append_right (by omega), List.getElem?_append_right (by omega), ho, hl]
    cases junk[t - d.size * k]? with
    | none => rfl
    | some v => simp [ht]

theorem sortWorld_own (hk : ∀ x, (enc x).length = k) {w : World} {b m : Nat} {d : Array α} {os : Array Obj} {old junk : List Value} {e : TypeId} {fz : Nat × Nat} (hb : w.heap[b]? = some (.cells ⟨old ++ junk⟩ e fz)) (ho : old.length = d.size * k) :
    Chg [b] w (sortWorldK enc k w b 0 m d os) ∧ (sortWorldK enc k w b 0 m d os).heap[b]? = some (.cells ⟨fl enc d.toList ++ junk⟩ e fz) := by
  have hlt := (Array.getElem?_eq_some_iff.1 hb).1
  refine ⟨⟨rfl, rfl, rfl, ?_, ?_, ?_⟩, ?_⟩
  · simp [sortWorldK, grow, putRowK, putRow, mapBlock, Sort.ahead]
  · simp [sortWorldK, grow, putRowK, putRow, mapBlock, Sort.ahead]
  · intro i hi hs
    have hne : b ≠ i := fun h => hs (by simp [h])
    simp [sortWorldK, grow, putRowK, putRow, mapBlock, Sort.ahead, Array.getElem?_append, hi, Array.getElem_modify, hne]
  · simp only [sortWorldK, grow, putRowK, putRow, mapBlock, Sort.ahead]
    rw [Array.getElem?_append_left (by simpa using hlt), Array.getElem?_modify, if_pos rfl, hb]
    simp only [Option.map_some, onCells, putCells_own hk d ho]

/-- Ascending: no later one is less than an earlier one. -/
def Asc (cf : α → α → Int) (rs : List α) : Prop := rs.Pairwise fun a b => ¬ cf b a < 0

/-- What the program's slices.SortFunc does to an own slice of rows. -/
theorem sort_ok {P : Program} {ρ : Ren} (L : SlLaysF0.n6 P ρ) (aE : ∀ w, (isAgg (ρ.t 24)).run P w = .ok true w) (zE : ∀ w, (Go.sizeOf (ρ.t 24)).run P w = .ok k w) (hk : ∀ x, (enc x).length = k) (h1 : ∀ x, ∀ v ∈ enc x, v.oneCell' = true) (cf : α → α → Int) (hO : SWO (ltOf cf)) (g : Nat) (cb : List Value) {f : FuncId} (hf : ρ.f 6 = f)
    (b cap : Nat) (rs : List α) (junk : List Value) (e : TypeId) (w : World) (he : Enters P g) (hsz : rs.length ≤ 1000000)
    (hcmp : ∀ W, Chg [b] w W → ∀ x y, CallW P g ([.agg ⟨enc x⟩, .agg ⟨enc y⟩] ++ cb) W fun v _ => v = .int .i64 (cf x y)) :
    CallM P f [.slice (some ⟨b, 0, none⟩) rs.length cap, .func (.func g) #[] cb.toArray] [(b, .cells ⟨fl enc rs ++ junk⟩ e (0, 0))] w fun v L' => v = .tuple #[] ∧ ∃ rs' : List α, rs'.Perm rs ∧ Asc cf rs' ∧ L' = [(b, .cells ⟨fl enc rs' ++ junk⟩ e (0, 0))] :=
  ⟨fun hw => by
    subst hf
    have hb := hw.get b _ List.mem_cons_self
    have hlt := (Array.getElem?_eq_some_iff.1 hb).1
    have hfl : (fl enc rs).length = rs.length * k := fl_len hk rs
    have hH : HoldsK enc k w b 0 rs.toArray := by
      intro j hj
      have hj' : j < rs.length * k := by simpa using hj
      have h2 := flatK_get hk rs.toArray (t := j) (by simpa using hj')
      refine ⟨?_, ?_⟩
      · simp only [World.cell?, hb, Nat.zero_add]
        rw [getElem!_pos _ j hj]
        rw [Array.getElem?_eq_getElem hj] at h2
        simp only [id, h2]
        simp [List.getElem?_append_left, hfl, hj']
      · simp [World.frozen?, hb]
    have hcm : CmpLays P g cb.toArray enc k cf b 0 rs.toArray.size w := by
      intro m os dk hs x y
      have hc := (sortWorld_own hk (m := m) (d := dk) (os := os) hb (by rw [hfl, hs]; simp)).1
      have := (hcmp _ hc x y).run
      have e1 : (#[Value.agg (enc x).toArray, Value.agg (enc y).toArray] ++ cb.toArray : Array Value) = ([Value.agg ⟨enc x⟩, Value.agg ⟨enc y⟩] ++ cb).toArray := by simp
      rw [e1]
      refine Calls.mono this ?_
      rintro e w' ⟨v, h3, h4, h5⟩
      exact ⟨by rw [h3, h4], h5.grow⟩
    have := AnyQ.slices_SortFunc L k aE zE enc hk h1 cf hO g cb.toArray b 0 cap rs.toArray w he hcm hH hlt (by simp; omega)
    have e0 : rs.toArray.size = rs.length := by simp
    rw [e0] at this
    refine Calls.mono this ?_
    rintro e' w' ⟨h3, d', n, os, hp, hs, hw'⟩
    have hds : d'.size = rs.length := by simpa using hp.1
    obtain ⟨g1, g2⟩ := sortWorld_own hk (m := n) (d := d') (os := os) hb (by rw [hfl, hds])
    refine ⟨.tuple #[], [(b, .cells ⟨fl enc d'.toList ++ junk⟩ e (0, 0))], h3, ⟨rfl, d'.toList, ?_, ?_, rfl⟩, ?_⟩
    · have h4 := hp.2.2
      have e1 : d'.extract 0 rs.length = d' := by rw [← hds]; simp
      have e2 : rs.toArray.extract 0 rs.length = rs.toArray := by rw [← e0]; simp
      rw [e1, e2] at h4
      exact h4
    · refine List.pairwise_iff_getElem.2 fun i j hi hj hij => ?_
      have h4 := hs i j (Nat.zero_le _) hij (by simp at hj ⊢; omega)
      simp only [ltOf, decide_eq_false_iff_not] at h4
      simp only [Array.length_toList] at hi hj
      rw [getElem!_pos d' i (by omega), getElem!_pos d' j (by omega)] at h4
      exact h4
    · rw [hw']
      exact hw.upd .head g1 g2⟩
end
end Go.Proofs.YtplhnkmmhndkjaaGreat
set_option linter.unusedSimpArgs false
set_option linter.unusedVariables false
namespace Go.Proofs.YtplhnkmmhndkjaaGreat
open Go.RowKit Go.Shelf Go.Sort
set_option maxRecDepth 100000
theorem insC_nil (p : Option Addr) (cap : Nat) (f : Value) : CallP Tryz.prog 152 [.slice p 0 cap, .int .i64 0, .int .i64 0, f] (.tuple #[]) := by
  refine enterP (tb := tb) Tryz.func152 rfl Tryz.ntmps152 rfl fun w => ?_
  repeat' (first | (apply R.is1; first | (apply R.isBin; first | (apply R.pure; exact rfl; first | (apply Ok1.add64; exact rfl; exact rfl; omega; omega) | (apply Ok1.sub64; exact rfl; exact rfl; omega; omega) | (apply Ok1.lss_t; exact rfl; exact rfl; omega) | (apply Ok1.lss_f; exact rfl; exact rfl; omega) | (apply Ok1.gtr_t; exact rfl; exact rfl; omega) | (apply Ok1.gtr_f; exact rfl; exact rfl; omega)) | (apply R.lss rfl rfl rfl <;> intro) | (apply R.gtr rfl rfl rfl <;> intro)) | (apply R.pure; exact rfl; first | (apply Ok1.move; exact rfl) | (apply Ok1.load; exact rfl; first | (apply Ld.own1; exact rfl; exact rfl; (focus ((repeat' (first | exact At.head | apply At.tail | apply At.right)); done)); exact rfl) | (apply Ld.ownk; exact rfl; exact rfl; (focus ((repeat' (first | exact At.head | apply At.tail | apply At.right)); done)); exact rfl) | (apply Ld.old1; exact rfl; exact rfl; assumption; (first | exact List.not_mem_nil | assumption)) | (apply Ld.blk1; exact rfl; exact rfl; assumption; (first | exact List.not_mem_nil | assumption); exact rfl) | (apply Ld.blkk; exact rfl; exact rfl; assumption; (first | exact List.not_mem_nil | assumption); exact rfl)) | (apply Ok1.assign; exact rfl) | (apply Ok1.indexAddr; (iterate 5 exact rfl); omega; omega) | (apply Ok1.indexAddrA; (iterate 5 exact rfl); omega; omega) | (apply Ok1.pick_t; exact rfl; exact rfl) | (apply Ok1.pick_f; exact rfl; exact rfl) | (apply Ok1.pick_h; exact rfl; assumption; exact rfl) | (apply Ok1.pick_n; exact rfl; assumption; exact rfl))) | (apply R.is0; first | (apply R.store; (iterate 6 exact rfl); (focus ((repeat' (first | exact Upd.head | apply Upd.tail | apply Upd.right)); done)); exact rfl) | fail) | (apply R.isG; first | (apply R.guard_run; exact rfl; exact rfl) | (apply R.guard_not; (iterate 3 exact rfl)) | (apply R.guard_not0; exact rfl; exact rfl) | (apply R.guard_un; (iterate 3 exact rfl)) | (apply R.guard_un0; exact rfl; exact rfl) | (apply R.guard rfl rfl ?_ (fun h => ⟨rfl, ?_⟩) <;> try intro)) | apply R.nil | (apply T.is; first | apply T.rounds 2 | apply T.seq | apply T.region | apply T.block | apply T.scope | apply T.label | apply T.skip | apply T.exit | apply T.ret | (apply T.cond_t; exact rfl) | (apply T.cond_f; exact rfl) | (apply T.cond_h; exact rfl; assumption) | (apply T.cond_n; exact rfl; assumption) | (apply T.cond rfl <;> intro)) | apply Rnd.step)
  all_goals (apply RetOk.n)
  all_goals rfl
theorem pdqC_nil (p : Option Addr) (cap : Nat) (l : Int) (f : Value) : CallP Tryz.prog 146 [.slice p 0 cap, .int .i64 0, .int .i64 0, .int .i64 l, f] (.tuple #[]) := by
  refine enterP (tb := tb) Tryz.func146 rfl Tryz.ntmps146 rfl fun w => ?_
  repeat' (first | (apply R.is1; first | (apply R.isBin; first | (apply R.pure; exact rfl; first | (apply Ok1.add64; exact rfl; exact rfl; omega; omega) | (apply Ok1.sub64; exact rfl; exact rfl; omega; omega) | (apply Ok1.lss_t; exact rfl; exact rfl; omega) | (apply Ok1.lss_f; exact rfl; exact rfl; omega) | (apply Ok1.leq_t; exact rfl; exact rfl; omega) | (apply Ok1.leq_f; exact rfl; exact rfl; omega) | (apply Ok1.gtr_t; exact rfl; exact rfl; omega) | (apply Ok1.gtr_f; exact rfl; exact rfl; omega) | (apply Ok1.geq_t; exact rfl; exact rfl; omega) | (apply Ok1.geq_f; exact rfl; exact rfl; omega) | (apply Ok1.eql_t; exact rfl; exact rfl; omega) | (apply Ok1.eql_f; exact rfl; exact rfl; omega) | (apply Ok1.quo64; exact rfl; exact rfl; omega; omega; omega) | (apply Ok1.eqlP; (iterate 5 exact rfl)) | (apply Ok1.eqlM; (iterate 5 exact rfl)) | (apply Ok1.eqlS; (iterate 5 exact rfl))) | (apply R.lss rfl rfl rfl <;> intro) | (apply R.leq rfl rfl rfl <;> intro) | (apply R.gtr rfl rfl rfl <;> intro) | (apply R.geq rfl rfl rfl <;> intro) | (apply R.eql rfl rfl rfl <;> intro) | (apply R.eqlF; (iterate 8 exact rfl); all_goals intro)) | (apply R.isCall; first | apply R.callP rfl rfl rfl (insC_nil _ _ _)) | (apply R.pure; exact rfl; first | (apply Ok1.move; exact rfl) | (apply Ok1.load; exact rfl; first | (apply Ld.own1; exact rfl; exact rfl; (focus ((repeat' (first | exact At.head | apply At.tail | apply At.right)); done)); exact rfl) | (apply Ld.ownk; exact rfl; exact rfl; (focus ((repeat' (first | exact At.head | apply At.tail | apply At.right)); done)); exact rfl) | (apply Ld.old1; exact rfl; exact rfl; assumption; (first | exact List.not_mem_nil | assumption)) | (apply Ld.blk1; exact rfl; exact rfl; assumption; (first | exact List.not_mem_nil | assumption); exact rfl) | (apply Ld.blkk; exact rfl; exact rfl; assumption; (first | exact List.not_mem_nil | assumption); exact rfl)) | (apply Ok1.assign; exact rfl) | (apply Ok1.indexAddr; (iterate 5 exact rfl); omega; omega) | (apply Ok1.indexAddrA; (iterate 5 exact rfl); omega; omega) | (apply Ok1.extract; exact rfl; exact rfl) | (apply Ok1.pick_t; exact rfl; exact rfl) | (apply Ok1.pick_f; exact rfl; exact rfl) | (apply Ok1.pick_h; exact rfl; assumption; exact rfl) | (apply Ok1.pick_n; exact rfl; assumption; exact rfl) | (apply Ok1.not_t; exact rfl) | (apply Ok1.not_f; exact rfl) | (apply Ok1.not; exact rfl) | (apply Ok1.neg; exact rfl))) | (apply R.is0; first | fail) | (apply R.isG; first | (apply R.guard_run; exact rfl; exact rfl) | (apply R.guard_not; (iterate 3 exact rfl)) | (apply R.guard_not0; exact rfl; exact rfl) | (apply R.guard_un; (iterate 3 exact rfl)) | (apply R.guard_un0; exact rfl; exact rfl) | (apply R.guard rfl rfl ?_ (fun h => ⟨rfl, ?_⟩) <;> try intro)) | apply R.nil | (apply T.is; first | apply T.rounds 2 | apply T.seq | apply T.region | apply T.block | apply T.scope | apply T.label | apply T.skip | apply T.exit | apply T.ret | (apply T.cond_t; exact rfl) | (apply T.cond_f; exact rfl) | (apply T.cond_h; exact rfl; assumption) | (apply T.cond_n; exact rfl; assumption) | (apply T.cond rfl <;> intro)) | apply Rnd.step)
  all_goals (apply RetOk.n)
  all_goals rfl
theorem sortC_nil (p : Option Addr) (cap : Nat) (f : Value) : CallP Tryz.prog 126 [.slice p 0 cap, f] (.tuple #[]) := by
  refine enterP (tb := tb) Tryz.func126 rfl Tryz.ntmps126 rfl fun w => ?_
  repeat' (first | (apply R.is1; first | (apply R.isCall; first | apply R.callP rfl rfl rfl (len_ok _ (by omega) (by omega)) | apply R.callP rfl rfl rfl (pdqC_nil _ _ _ _) | (apply R.pure; exact rfl; first | (apply Ok1.lenS; (iterate 3 exact rfl)) | (apply Ok1.lenStr; (iterate 3 exact rfl)) | (apply Ok1.lenMm; (iterate 3 exact rfl); (focus ((repeat' (first | exact At.head | apply At.tail | apply At.right)); done))) | (apply Ok1.lenM_nil; (iterate 3 exact rfl)))) | (apply R.pure; exact rfl; first | (apply Ok1.move; exact rfl) | (apply Ok1.assign; exact rfl) | (apply Ok1.convI64; (iterate 5 exact rfl); omega; omega) | (apply Ok1.convU64; (iterate 5 exact rfl); omega; omega) | (apply Ok1.convU32; (iterate 5 exact rfl); omega; omega) | (apply Ok1.convU8; (iterate 5 exact rfl); omega; omega) | (apply Ok1.conv; (iterate 5 exact rfl)))) | (apply R.is0; first | fail) | (apply R.isG; first | (apply R.guard_run; exact rfl; exact rfl) | (apply R.guard_not; (iterate 3 exact rfl)) | (apply R.guard_not0; exact rfl; exact rfl) | (apply R.guard_un; (iterate 3 exact rfl)) | (apply R.guard_un0; exact rfl; exact rfl) | (apply R.guard rfl rfl ?_ (fun h => ⟨rfl, ?_⟩) <;> try intro)) | apply R.nil | (apply T.is; first | apply T.seq | apply T.region | apply T.block | apply T.scope | apply T.label | apply T.skip | apply T.exit | apply T.ret | (apply T.cond_t; exact rfl) | (apply T.cond_f; exact rfl) | (apply T.cond_h; exact rfl; assumption) | (apply T.cond_n; exact rfl; assumption) | (apply T.cond rfl <;> intro)) | apply Rnd.step)
  all_goals (apply RetOk.n)
  all_goals rfl

theorem Cl.v_len (c : Cl) : c.v.length = 4 := rfl
theorem swoC : SWO (ltOf cmpCl) where
  irrefl := fun x => by simp only [ltOf, decide_eq_false_iff_not, cmpCl_neg, ltC]; omega
  trans := fun x y z => by simp only [ltOf, decide_eq_true_eq, cmpCl_neg, ltC]; omega
  ntrans := fun x y z => by simp only [ltOf, decide_eq_false_iff_not, cmpCl_neg, ltC]; omega
theorem sortC_ok (rs : List Cl) (hlen : rs.length ≤ 1000) (ov : Ov) (hov : OvOk 4 ov rs.length (fl Cl.v rs)) (w : World) :
    CallM Tryz.prog 126 [slV ov rs.length, .func (.func 80) #[] #[]] (blkL 71 ov (fl Cl.v rs)) w fun v L => v = .tuple #[] ∧ ∃ rs', rs'.Perm rs ∧ Asc cmpCl rs' ∧ L = blkL 71 ov (fl Cl.v rs') := by
  cases ov with
  | none =>
    have h0 : rs.length = 0 := hov.2
    have : rs = [] := by cases rs; rfl; simp at h0
    subst this
    exact ⟨fun hw => ((sortC_nil none 0 _).run w).mono fun e' w' ⟨h1, h2⟩ => ⟨_, _, h1, ⟨rfl, [], .refl _, .nil, rfl⟩, hw.step h2⟩⟩
  | some x =>
    obtain ⟨b, j, junk⟩ := x
    exact sort_ok Tryz.sortC (fun w => (tb.get (t := 71) rfl).agg rfl w) (tb.get (t := 71) rfl).size Cl.v_len (fun x v hv => by
      simp only [Cl.v, List.mem_cons, List.not_mem_nil, or_false] at hv
      rcases hv with rfl | rfl | rfl | rfl <;> rfl) _ swoC 80 [] rfl b _ rs junk _ w (tb.ent rfl) (by omega)
      (fun W hW x y => (compare_ok x y).at W)
end Go.Proofs.YtplhnkmmhndkjaaGreat
set_option linter.unusedSimpArgs false
set_option linter.unusedVariables false
namespace Go.Proofs.YtplhnkmmhndkjaaGreat
open Go.RowKit Go.Shelf
set_option maxRecDepth 100000
theorem clBytes_bad (c : Cl) (hr : ¬ c.right) : CallP Tryz.prog 78 [kvC c] (.tuple #[.slice none 0 0, .int .i64 10]) := by
  have hck := check_ok c.id c.roles c.exp c.ser
  rw [if_neg hr] at hck
  refine enterP (tb := tb) Tryz.func78 rfl Tryz.ntmps78 rfl fun w0 => ?_
  simp only [kvC]
  repeat' (first | (apply R.is1; first | (apply R.isBin; first | (apply R.pure; exact rfl; first | (apply Ok1.neq_t; exact rfl; exact rfl; omega) | (apply Ok1.neq_f; exact rfl; exact rfl; omega) | (apply Ok1.neqP; (iterate 5 exact rfl)) | (apply Ok1.neqM; (iterate 5 exact rfl)) | (apply Ok1.neqS; (iterate 5 exact rfl))) | (apply R.neq rfl rfl rfl <;> intro) | (apply R.neqF; (iterate 8 exact rfl); all_goals intro)) | (apply R.isCall; first | apply R.callP rfl rfl rfl hck) | (apply R.pure; exact rfl; first | (apply Ok1.move; exact rfl) | (apply Ok1.fieldAddr; (iterate 5 exact rfl)) | (apply Ok1.load; exact rfl; first | (apply Ld.own1; exact rfl; exact rfl; (focus ((repeat' (first | exact At.head | apply At.tail | apply At.right)); done)); exact rfl) | (apply Ld.ownk; exact rfl; exact rfl; (focus ((repeat' (first | exact At.head | apply At.tail | apply At.right)); done)); exact rfl) | (apply Ld.old1; exact rfl; exact rfl; assumption; (first | exact List.not_mem_nil | assumption)) | (apply Ld.blk1; exact rfl; exact rfl; assumption; (first | exact List.not_mem_nil | assumption); exact rfl) | (apply Ld.blkk; exact rfl; exact rfl; assumption; (first | exact List.not_mem_nil | assumption); exact rfl)) | (apply Ok1.assign; exact rfl) | (apply Ok1.extract; exact rfl; exact rfl)) | (apply R.box; (iterate 3 exact rfl); intro) | (apply R.alloc; (iterate 3 exact rfl); intro) | (apply R.buildSlice; (iterate 12 exact rfl); intro)) | (apply R.is0; first | fail) | (apply R.isG; first | (apply R.guard_run; exact rfl; exact rfl) | (apply R.guard_not; (iterate 3 exact rfl)) | (apply R.guard_not0; exact rfl; exact rfl) | (apply R.guard_un; (iterate 3 exact rfl)) | (apply R.guard_un0; exact rfl; exact rfl) | (apply R.guard rfl rfl ?_ (fun h => ⟨rfl, ?_⟩) <;> try intro)) | apply R.nil | (apply T.is; first | apply T.seq | apply T.region | apply T.block | apply T.scope | apply T.label | apply T.skip | apply T.exit | apply T.ret | (apply T.cond_t; exact rfl) | (apply T.cond_f; exact rfl) | (apply T.cond_h; exact rfl; assumption) | (apply T.cond_n; exact rfl; assumption) | (apply T.cond rfl <;> intro)) | apply Rnd.step)
  all_goals (apply RetOk.tt; exact rfl; exact rfl)
  all_goals rfl
theorem RdSl.mid {w0 w : World} {S : List Nat} {L : Lst} {b : Nat} {e : TypeId} {fz : Nat × Nat} {pre junk : List Value} {xs : List Int} (hw : Hp w0 S L w) (hat : At L b (.cells ⟨pre ++ u8s xs ++ junk⟩ e fz)) {o : Nat} (ho : o = pre.length) : RdSl w (some ⟨b, o, none⟩) u8V xs := by
  subst ho
  right
  refine ⟨b, pre.length, rfl, fun k hk => ?_⟩
  have h1 := hw.get b _ hat.mem
  rw [fl_u8] at hk ⊢
  simp only [World.cell?, h1]
  simp only [List.append_assoc, List.getElem?_toArray]
  rw [List.getElem?_append_right (by omega), List.getElem?_append_left (by omega), Nat.add_sub_cancel_left]
  rfl
end Go.Proofs.YtplhnkmmhndkjaaGreat
set_option linter.unusedSimpArgs false
set_option linter.unusedVariables false
namespace Go.Proofs.YtplhnkmmhndkjaaGreat
open Go.ChangeShapes Go.WideShapes Go.ChangeAt Go.RowKit
theorem Tryz.own : ownKnob Tryz.prog.godebug = none := by kernel_rfl
section
variable {H : Type} {enc : TypeId × Value → H} {P : Program} {w : World} {base : Nat} {spare : Nat → Bool} {held : Bool}
theorem Opens.arr (tb : Tb P) {t e n : Nat} {r re : TRow} {Q : List Value → Prop} (ht : tb.row t = some r) (hk : r.k = .arr n e) (he : tb.row e = some re) (hQ : Opens enc P w base spare held e Q) :
    Opens enc P w base spare held t fun cs => cs.length = r.size ∧ ∀ i, i < n → Q ((cs.drop (i * re.size)).take re.size) := by
  intro fuel cs x hx
  have his := (tb.get ht).is
  rw [hk] at his
  obtain ⟨xs, m, rfl, _, hcl, hxl, hf⟩ := DataW.trod_array his hx
  refine ⟨by rw [hcl, cells_of w (tb.get ht).size], fun i hi => ?_⟩
  have h4 := hf i hi
  rw [cells_of w (tb.get he).size, List.getElem?_eq_getElem (by omega)] at h4
  exact hQ _ _ _ h4
end
section
variable {H : Type} {enc : TypeId × Value → H} {w : World} {base : Nat} {spare : Nat → Bool} {held : Bool}
end
open Go.ChangeShapes Go.WideShapes Go.ChangeAt Go.RowKit
section
variable {H : Type} {enc : TypeId × Value → H} {P : Program} {w : World} {base : Nat} {spare : Nat → Bool} {held : Bool}
end
end Go.Proofs.YtplhnkmmhndkjaaGreat
set_option linter.unusedSimpArgs false
set_option linter.unusedVariables false
namespace Go.Proofs.YtplhnkmmhndkjaaGreat
open Go.RowKit Go.Shelf
open Go.ChangeShapes Go.WideShapes Go.ChangeAt
def digKs : List TK := [.int .i64, .int .i64, .int .i64, .int .i64, .int .u8, .int .u8, .int .u8, .int .u8, .int .u8, .int .u8, .int .u8, .int .u8]
/-- A digest's cells. -/
def DigC (cs : List Value) : Prop := ∃ xv xp : List Int, cs = dgV xv xp ∧ xv.length = 4 ∧ xp.length = 8 ∧ Byt xp
theorem allW_int {k : IntKind} {ks : List TK} {cs : List Value} (h : allW (.int k :: ks) cs) : ∃ a rest, cs = .int k a :: rest ∧ (k.min ≤ a ∧ a ≤ k.max) ∧ allW ks rest := by
  match cs, h with
  | .int k1 a :: r, h =>
    obtain ⟨⟨rfl, h1⟩, h2⟩ := h
    exact ⟨a, r, rfl, h1, h2⟩
theorem allW_nil {cs : List Value} (h : allW [] cs) : cs = [] := by
  match cs, h with
  | [], _ => rfl
theorem dig_dec {cs : List Value} (h : allW digKs cs) : DigC cs := by
  simp only [digKs] at h
  obtain ⟨a, _, rfl, _, h⟩ := allW_int h
  obtain ⟨b, _, rfl, _, h⟩ := allW_int h
  obtain ⟨c, _, rfl, _, h⟩ := allW_int h
  obtain ⟨d, _, rfl, _, h⟩ := allW_int h
  obtain ⟨e, _, rfl, h1, h⟩ := allW_int h
  obtain ⟨f, _, rfl, h2, h⟩ := allW_int h
  obtain ⟨g, _, rfl, h3, h⟩ := allW_int h
  obtain ⟨i, _, rfl, h4, h⟩ := allW_int h
  obtain ⟨j, _, rfl, h5, h⟩ := allW_int h
  obtain ⟨k, _, rfl, h6, h⟩ := allW_int h
  obtain ⟨l, _, rfl, h7, h⟩ := allW_int h
  obtain ⟨m, _, rfl, h8, h⟩ := allW_int h
  have hn := allW_nil h
  subst hn
  refine ⟨[a, b, c, d], [e, f, g, i, j, k, l, m], rfl, rfl, rfl, fun y hy => ?_⟩
  have e0 : IntKind.u8.min = 0 := rfl
  have e1 : IntKind.u8.max = 255 := rfl
  rw [e0, e1] at h1 h2 h3 h4 h5 h6 h7 h8
  simp only [List.mem_cons, List.not_mem_nil, or_false] at hy
  rcases hy with rfl | rfl | rfl | rfl | rfl | rfl | rfl | rfl <;> assumption
theorem dig_opens {H : Type} {enc : TypeId × Value → H} {w : World} {base : Nat} {spare : Nat → Bool} {held : Bool} : Opens enc Tryz.prog w base spare held 25 DigC := (Opens.flat (ks := digKs) tb rfl rfl rfl).mono fun cs h => dig_dec h
end Go.Proofs.YtplhnkmmhndkjaaGreat
set_option linter.unusedSimpArgs false
set_option linter.unusedVariables false
namespace Go.Proofs.YtplhnkmmhndkjaaGreat
open Go.RowKit Go.Shelf
/-- On the way from n rumours and k claims to what there is room for: a and b are left. -/
def FitI (room : Int) (n k a b : Nat) : Prop := a ≤ n ∧ b ≤ k ∧ (a < n → b = 0 ∧ room < 18 + 14 * ((a : Int) + 1)) ∧ (b < k → room < 18 + 14 * (n : Int) + 9 * ((b : Int) + 1))
theorem FitI.start (room : Int) (n k : Nat) : FitI room n k n k := ⟨Nat.le_refl _, Nat.le_refl _, fun h => by omega, fun h => by omega⟩
end Go.Proofs.YtplhnkmmhndkjaaGreat
set_option linter.unusedSimpArgs false
set_option linter.unusedVariables false
namespace Go.Proofs.YtplhnkmmhndkjaaGreat
open Go.RowKit Go.Shelf
set_option maxRecDepth 100000
theorem Cl.v_len4 (c : Cl) : c.v.length = 4 := rfl
theorem people_ok (p : Option Addr) (cap : Nat) (rs : List Cl) (w : World) (hp : RdSl w p Cl.v rs) : CallM Tryz.prog 30 [.slice p rs.length cap] [] w fun v L => ∃ ov, OvOk 4 ov (min rs.length 18) (fl Cl.v (rs.take 18)) ∧ v = slV ov (min rs.length 18) ∧ L = blkL 71 ov (fl Cl.v (rs.take 18)) := by
  refine enterK (tb := tb) Tryz.func30 rfl Tryz.ntmps30 rfl ?_
  repeat' (first | (apply R.is1; first | (apply R.isBin; first | (apply R.pure; exact rfl; first | (apply Ok1.add64; exact rfl; exact rfl; omega; omega) | (apply Ok1.lss_t; exact rfl; exact rfl; omega) | (apply Ok1.lss_f; exact rfl; exact rfl; omega)) | (apply R.lss rfl rfl rfl <;> intro)) | (apply R.isCall; first | (apply R.pure; exact rfl; first | (apply Ok1.lenS; (iterate 3 exact rfl)) | (apply Ok1.lenStr; (iterate 3 exact rfl)) | (apply Ok1.lenMm; (iterate 3 exact rfl); (focus ((repeat' (first | exact At.head | apply At.tail | apply At.right)); done))) | (apply Ok1.lenM_nil; (iterate 3 exact rfl)))) | (apply R.pure; exact rfl; first | (apply Ok1.move; exact rfl) | (apply Ok1.load; exact rfl; first | (apply Ld.own1; exact rfl; exact rfl; (focus ((repeat' (first | exact At.head | apply At.tail | apply At.right)); done)); exact rfl) | (apply Ld.ownk; exact rfl; exact rfl; (focus ((repeat' (first | exact At.head | apply At.tail | apply At.right)); done)); exact rfl) | (apply Ld.old1; exact rfl; exact rfl; assumption; (first | exact List.not_mem_nil | assumption)) | (apply Ld.blk1; exact rfl; exact rfl; assumption; (first | exact List.not_mem_nil | assumption); exact rfl) | (apply Ld.blkk; exact rfl; exact rfl; assumption; (first | exact List.not_mem_nil | assumption); exact rfl)) | (apply Ok1.assign; exact rfl) | (apply Ok1.indexAddr; (iterate 5 exact rfl); omega; omega) | (apply Ok1.indexAddrA; (iterate 5 exact rfl); omega; omega) | (apply Ok1.pick_t; exact rfl; exact rfl) | (apply Ok1.pick_f; exact rfl; exact rfl) | (apply Ok1.pick_h; exact rfl; assumption; exact rfl) | (apply Ok1.pick_n; exact rfl; assumption; exact rfl)) | (apply R.buildSlice; (iterate 12 exact rfl); intro)) | (apply R.is0; first | fail) | (apply R.isG; first | (apply R.guard_run; exact rfl; exact rfl) | (apply R.guard_not; (iterate 3 exact rfl)) | (apply R.guard_not0; exact rfl; exact rfl) | (apply R.guard_un; (iterate 3 exact rfl)) | (apply R.guard_un0; exact rfl; exact rfl) | (apply R.guard rfl rfl ?_ (fun h => ⟨rfl, ?_⟩) <;> try intro)) | apply R.nil | (apply T.is; first | apply T.seq | apply T.region | apply T.block | apply T.scope | apply T.label | apply T.skip | apply T.exit | apply T.ret | (apply T.cond_t; exact rfl) | (apply T.cond_f; exact rfl) | (apply T.cond_h; exact rfl; assumption) | (apply T.cond_n; exact rfl; assumption) | (apply T.cond rfl <;> intro)) | apply Rnd.step)
  apply T.loopK (α := Nat × Ov) (I := fun q => q.1 ≤ min rs.length 18 ∧ OvOk 4 q.2 q.1 (fl Cl.v (rs.take q.1))) (σi := fun q => [(0, .slice p rs.length cap), (3, slV q.2 q.1), (4, .int .i64 q.1)]) (Li := fun q => blkL 71 q.2 (fl Cl.v (rs.take q.1))) (μ := fun q => 18 - q.1) (i0 := (0, none))
  · exact ⟨by omega, OvOk.start 4⟩
  · exact ⟨rfl, rfl, rfl, trivial⟩
  · exact Keep.nil _
  · rintro ⟨i, ov⟩ ⟨hi, hov⟩
    simp only at hi hov ⊢
    rcases Nat.lt_or_ge i (min rs.length 18) with hlt | hge
    · obtain ⟨r, hr⟩ : ∃ r, rs[i]? = some r := ⟨_, List.getElem?_eq_getElem (by omega)⟩
      obtain ⟨b, o, hpe, H⟩ := hp.at hr
      replace H := H 4 Cl.v_len4
      repeat' (first | (apply R.is1; first | (apply R.isBin; first | (apply R.pure; exact rfl; first | (apply Ok1.add64; exact rfl; exact rfl; omega; omega) | (apply Ok1.lss_t; exact rfl; exact rfl; omega) | (apply Ok1.lss_f; exact rfl; exact rfl; omega)) | (apply R.lss rfl rfl rfl <;> intro)) | (apply R.isCall; first | apply R.callP rfl rfl rfl (to5_ok _ _ _ _) | (apply R.append1; (iterate 12 exact rfl); (focus ((repeat' (first | exact OwnAt.mid hov | exact OwnAt.base hov | exact OwnAt.nil _ | apply OwnAt.tail | apply OwnAt.right)); done)); (focus ((repeat' (first | exact At.head | apply At.tail | apply At.right)); done)); exact rfl; exact rfl; omega; omega; intro b2 j2 k2 hj2) | (apply R.pure; exact rfl; first | (apply Ok1.lenS; (iterate 3 exact rfl)) | (apply Ok1.lenStr; (iterate 3 exact rfl)) | (apply Ok1.lenMm; (iterate 3 exact rfl); (focus ((repeat' (first | exact At.head | apply At.tail | apply At.right)); done))) | (apply Ok1.lenM_nil; (iterate 3 exact rfl)))) | (apply R.pure; exact rfl; first | (apply Ok1.indexAddrP; (iterate 4 exact rfl); exact hpe; exact rfl; omega; omega) | (apply Ok1.load; exact rfl; first | (apply Ld.rowk0 H; exact rfl; exact List.not_mem_nil; (iterate 3 exact rfl)) | (apply Ld.rowk H; exact rfl; exact List.not_mem_nil; (iterate 3 exact rfl))) | (apply Ok1.move; exact rfl) | (apply Ok1.load; exact rfl; first | (apply Ld.own1; exact rfl; exact rfl; (focus ((repeat' (first | exact At.head | apply At.tail | apply At.right)); done)); exact rfl) | (apply Ld.ownk; exact rfl; exact rfl; (focus ((repeat' (first | exact At.head | apply At.tail | apply At.right)); done)); exact rfl) | (apply Ld.old1; exact rfl; exact rfl; assumption; (first | exact List.not_mem_nil | assumption)) | (apply Ld.blk1; exact rfl; exact rfl; assumption; (first | exact List.not_mem_nil | assumption); exact rfl) | (apply Ld.blkk; exact rfl; exact rfl; assumption; (first | exact List.not_mem_nil | assumption); exact rfl)) | (apply Ok1.assign; exact rfl) | (apply Ok1.indexAddr; (iterate 5 exact rfl); omega; omega) | (apply Ok1.indexAddrA; (iterate 5 exact rfl); omega; omega) | (apply Ok1.pick_t; exact rfl; exact rfl) | (apply Ok1.pick_f; exact rfl; exact rfl) | (apply Ok1.pick_h; exact rfl; assumption; exact rfl) | (apply Ok1.pick_n; exact rfl; assumption; exact rfl)) | (apply R.buildSlice; (iterate 12 exact rfl); intro)) | (apply R.is0; first | fail) | (apply R.isG; first | (apply R.guard_run; exact rfl; exact rfl) | (apply R.guard_not; (iterate 3 exact rfl)) | (apply R.guard_not0; exact rfl; exact rfl) | (apply R.guard_un; (iterate 3 exact rfl)) | (apply R.guard_un0; exact rfl; exact rfl) | (apply R.guard rfl rfl ?_ (fun h => ⟨rfl, ?_⟩) <;> try intro)) | apply R.nil | (apply T.is; first | apply T.seq | apply T.region | apply T.block | apply T.scope | apply T.label | apply T.skip | apply T.exit | apply T.ret | (apply T.cond_t; exact rfl) | (apply T.cond_f; exact rfl) | (apply T.cond_h; exact rfl; assumption) | (apply T.cond_n; exact rfl; assumption) | (apply T.cond rfl <;> intro)) | apply Rnd.step)
      refine ⟨(i + 1, some (b2, j2, k2)), ⟨by simp only; omega, ?_⟩, by simp only; omega, ⟨rfl, rfl, rfl, trivial⟩, ?_⟩
      · simp only [fl_take hr]; exact hov.some rfl hj2
      · simp only [fl_take hr]; exact Keep.last (.one _ _)
    · repeat' (first | (apply R.is1; first | (apply R.isBin; first | (apply R.pure; exact rfl; first | (apply Ok1.add64; exact rfl; exact rfl; omega; omega) | (apply Ok1.lss_t; exact rfl; exact rfl; omega) | (apply Ok1.lss_f; exact rfl; exact rfl; omega)) | (apply R.lss rfl rfl rfl <;> intro)) | (apply R.isCall; first | (apply R.pure; exact rfl; first | (apply Ok1.lenS; (iterate 3 exact rfl)) | (apply Ok1.lenStr; (iterate 3 exact rfl)) | (apply Ok1.lenMm; (iterate 3 exact rfl); (focus ((repeat' (first | exact At.head | apply At.tail | apply At.right)); done))) | (apply Ok1.lenM_nil; (iterate 3 exact rfl)))) | (apply R.pure; exact rfl; first | (apply Ok1.move; exact rfl) | (apply Ok1.load; exact rfl; first | (apply Ld.own1; exact rfl; exact rfl; (focus ((repeat' (first | exact At.head | apply At.tail | apply At.right)); done)); exact rfl) | (apply Ld.ownk; exact rfl; exact rfl; (focus ((repeat' (first | exact At.head | apply At.tail | apply At.right)); done)); exact rfl) | (apply Ld.old1; exact rfl; exact rfl; assumption; (first | exact List.not_mem_nil | assumption)) | (apply Ld.blk1; exact rfl; exact rfl; assumption; (first | exact List.not_mem_nil | assumption); exact rfl) | (apply Ld.blkk; exact rfl; exact rfl; assumption; (first | exact List.not_mem_nil | assumption); exact rfl)) | (apply Ok1.assign; exact rfl) | (apply Ok1.indexAddr; (iterate 5 exact rfl); omega; omega) | (apply Ok1.indexAddrA; (iterate 5 exact rfl); omega; omega) | (apply Ok1.pick_t; exact rfl; exact rfl) | (apply Ok1.pick_f; exact rfl; exact rfl) | (apply Ok1.pick_h; exact rfl; assumption; exact rfl) | (apply Ok1.pick_n; exact rfl; assumption; exact rfl)) | (apply R.buildSlice; (iterate 12 exact rfl); intro)) | (apply R.is0; first | fail) | (apply R.isG; first | (apply R.guard_run; exact rfl; exact rfl) | (apply R.guard_not; (iterate 3 exact rfl)) | (apply R.guard_not0; exact rfl; exact rfl) | (apply R.guard_un; (iterate 3 exact rfl)) | (apply R.guard_un0; exact rfl; exact rfl) | (apply R.guard rfl rfl ?_ (fun h => ⟨rfl, ?_⟩) <;> try intro)) | apply R.nil | (apply T.is; first | apply T.seq | apply T.region | apply T.block | apply T.scope | apply T.label | apply T.skip | apply T.exit | apply T.ret | (apply T.cond_t; exact rfl) | (apply T.cond_f; exact rfl) | (apply T.cond_h; exact rfl; assumption) | (apply T.cond_n; exact rfl; assumption) | (apply T.cond rfl <;> intro)) | apply Rnd.step)
      all_goals (apply RetOk.t; exact rfl)
      all_goals have hm : i = min rs.length 18 := by omega
      all_goals have ht : rs.take i = rs.take 18 := by rw [hm, List.take_eq_take_iff]; omega
      all_goals rw [ht] at hov ⊢
      all_goals exact ⟨_, by (focus ((repeat' (first | exact Keep.nil _ | exact Ext.one _ _ | exact Ext.here _ _ | exact Ext.all _ | apply Keep.cons | apply Keep.app | apply Keep.last | apply Ext.cons | apply Ext.app)); done)), ov, hm ▸ hov, by rw [hm], rfl⟩
end Go.Proofs.YtplhnkmmhndkjaaGreat
set_option linter.unusedSimpArgs false
set_option linter.unusedVariables false
namespace Go.Proofs.YtplhnkmmhndkjaaGreat
open Go.RowKit Go.Shelf
set_option maxRecDepth 100000
theorem CallM.to9 {P : Program} {f : FuncId} {vs : List Value} {L : Lst} {w : World} {R R' : Value → Lst → Prop} (h : CallM P f vs L w R) (hr : ∀ v L, R v L → R' v L) : CallM P f vs L w R' :=
  ⟨fun hw => (h.run hw).mono fun e w' ⟨v, L', h1, h2, h3⟩ => ⟨v, L', h1, hr _ _ h2, h3⟩⟩
theorem cvalues_ok (p : Option Addr) (n cap : Nat) (w : World) : CallM Tryz.prog 111 [.slice p n cap] [] w fun v L => ∃ cb, v = .func (.func 127) #[] #[.pointer (some ⟨cb, 0, none⟩)] ∧ L = [(cb, .cells ⟨[.slice p n cap]⟩ 36 (0, 0))] := by
  refine enterK (tb := tb) Tryz.func111 rfl Tryz.ntmps111 rfl ?_
  repeat' (first | (apply R.is1; first | (apply R.pure; exact rfl; first | (apply Ok1.assign; exact rfl) | (apply Ok1.makeFunc; exact rfl; exact rfl)) | (apply R.box; (iterate 3 exact rfl); intro)) | (apply R.is0; first | fail) | (apply R.isG; first | (apply R.guard_run; exact rfl; exact rfl) | (apply R.guard_not; (iterate 3 exact rfl)) | (apply R.guard_not0; exact rfl; exact rfl) | (apply R.guard_un; (iterate 3 exact rfl)) | (apply R.guard_un0; exact rfl; exact rfl) | (apply R.guard rfl rfl ?_ (fun h => ⟨rfl, ?_⟩) <;> try intro)) | apply R.nil | (apply T.is; first | apply T.seq | apply T.region | apply T.block | apply T.scope | apply T.label | apply T.skip | apply T.exit | apply T.ret | (apply T.cond_t; exact rfl) | (apply T.cond_f; exact rfl) | (apply T.cond_h; exact rfl; assumption) | (apply T.cond_n; exact rfl; assumption) | (apply T.cond rfl <;> intro)) | apply Rnd.step)
  (apply RetOk.t; exact rfl)
  exact ⟨_, by (focus ((repeat' (first | exact Keep.nil _ | exact Ext.one _ _ | exact Ext.here _ _ | exact Ext.all _ | apply Keep.cons | apply Keep.app | apply Keep.last | apply Ext.cons | apply Ext.app)); done)), _, rfl, rfl⟩
theorem cvalues1_ok {β : Type} (I : Nat → β → Prop) (Li : Nat → β → Lst) (l : Nat) (o : Obj) (cb : Nat) (p : Option Addr) (n cap : Nat) (xs : List Cl) (hn : n = xs.length) (hbig : n ≤ 1000000000) (y0 : β) (h0 : I 0 y0)
    (hY : ∀ i y x w, I i y → xs[i]? = some x → YieldM Tryz.prog l [kvC x] ((l, o) :: Li i y) w fun v L => v = .bool true ∧ ∃ L5, (∃ y', I (i + 1) y' ∧ L5 = Li (i + 1) y') ∧ L = (l, o) :: L5) (w : World) (hp : RdSl w p Cl.v xs) (hoff : xs ≠ [] → Off p (blks ((l, o) :: (cb, .cells ⟨[.slice p n cap]⟩ 36 (0, 0)) :: Li 0 y0))) :
    CallM Tryz.prog 127 [.func (.yield l) #[] #[], .pointer (some ⟨cb, 0, none⟩)] ((l, o) :: (cb, .cells ⟨[.slice p n cap]⟩ 36 (0, 0)) :: Li 0 y0) w fun v L => ∃ y, I n y ∧ L = (l, o) :: (cb, .cells ⟨[.slice p n cap]⟩ 36 (0, 0)) :: Li n y := by
  subst hn
  refine enterK (tb := tb) Tryz.func127 rfl Tryz.ntmps127 rfl ?_
  repeat' (first | (apply R.is1; first | (apply R.isBin; first | (apply R.pure; exact rfl; first | (apply Ok1.add64; exact rfl; exact rfl; omega; omega) | (apply Ok1.lss_t; exact rfl; exact rfl; omega) | (apply Ok1.lss_f; exact rfl; exact rfl; omega)) | (apply R.lss rfl rfl rfl <;> intro)) | (apply R.isCall; first | (apply R.pure; exact rfl; first | (apply Ok1.lenS; (iterate 3 exact rfl)) | (apply Ok1.lenStr; (iterate 3 exact rfl)) | (apply Ok1.lenMm; (iterate 3 exact rfl); (focus ((repeat' (first | exact At.head | apply At.tail | apply At.right)); done))) | (apply Ok1.lenM_nil; (iterate 3 exact rfl)))) | (apply R.pure; exact rfl; first | (apply Ok1.move; exact rfl) | (apply Ok1.load; exact rfl; first | (apply Ld.own1; exact rfl; exact rfl; (focus ((repeat' (first | exact At.head | apply At.tail | apply At.right)); done)); exact rfl) | (apply Ld.ownk; exact rfl; exact rfl; (focus ((repeat' (first | exact At.head | apply At.tail | apply At.right)); done)); exact rfl) | (apply Ld.old1; exact rfl; exact rfl; assumption; (first | exact List.not_mem_nil | assumption)) | (apply Ld.blk1; exact rfl; exact rfl; assumption; (first | exact List.not_mem_nil | assumption); exact rfl) | (apply Ld.blkk; exact rfl; exact rfl; assumption; (first | exact List.not_mem_nil | assumption); exact rfl)) | (apply Ok1.indexAddr; (iterate 5 exact rfl); omega; omega) | (apply Ok1.indexAddrA; (iterate 5 exact rfl); omega; omega) | (apply Ok1.not_t; exact rfl) | (apply Ok1.not_f; exact rfl) | (apply Ok1.not; exact rfl) | (apply Ok1.neg; exact rfl)) | (apply R.alloc; (iterate 3 exact rfl); intro)) | (apply R.is0; first | (apply R.store; (iterate 6 exact rfl); (focus ((repeat' (first | exact Upd.head | apply Upd.tail | apply Upd.right)); done)); exact rfl) | fail) | (apply R.isG; first | (apply R.guard_run; exact rfl; exact rfl) | (apply R.guard_not; (iterate 3 exact rfl)) | (apply R.guard_not0; exact rfl; exact rfl) | (apply R.guard_un; (iterate 3 exact rfl)) | (apply R.guard_un0; exact rfl; exact rfl) | (apply R.guard rfl rfl ?_ (fun h => ⟨rfl, ?_⟩) <;> try intro)) | apply R.nil | (apply T.is; first | apply T.seq | apply T.region | apply T.block | apply T.scope | apply T.label | apply T.skip | apply T.exit | apply T.ret | (apply T.cond_t; exact rfl) | (apply T.cond_f; exact rfl) | (apply T.cond_h; exact rfl; assumption) | (apply T.cond_n; exact rfl; assumption) | (apply T.cond rfl <;> intro)) | apply Rnd.step)
  apply T.loopK (α := Nat × β) (I := fun x => x.1 ≤ xs.length ∧ I x.1 x.2) (σi := fun x => [(0, .func (.yield l) #[] #[]), (5, .slice p xs.length cap), (6, .int .i64 xs.length), (7, .int .i64 x.1)])
    (Li := fun x => (l, o) :: (cb, .cells ⟨[.slice p xs.length cap]⟩ 36 (0, 0)) :: (Li x.1 x.2 ++ [])) (μ := fun x => xs.length - x.1) (i0 := (0, y0))
  · exact ⟨Nat.zero_le _, h0⟩
  · exact ⟨rfl, rfl, rfl, rfl, trivial⟩
  · simp only [List.append_nil]
    (focus ((repeat' (first | exact Keep.nil _ | exact Ext.one _ _ | exact Ext.here _ _ | exact Ext.all _ | apply Keep.cons | apply Keep.app | apply Keep.last | apply Ext.cons | apply Ext.app)); done))
  · rintro ⟨i, y⟩ ⟨hi, hI⟩
    simp only at hi hI ⊢
    rcases Nat.lt_or_ge i xs.length with hlt | hge
    · obtain ⟨x, hx⟩ : ∃ x, xs[i]? = some x := ⟨_, List.getElem?_eq_getElem (by omega)⟩
      have hne : xs ≠ [] := by intro e; rw [e] at hlt; simp at hlt
      obtain ⟨b, ob, hpe, H⟩ := hp.at hx
      replace H := H 4 Cl.v_len4
      have hnb : b ∉ blks ((l, o) :: (cb, .cells ⟨[.slice p xs.length cap]⟩ 36 (0, 0)) :: Li 0 y0) := by
        have := hoff hne
        rw [hpe] at this
        exact this _ rfl
      repeat' (first | (apply RI.yield; (iterate 3 exact rfl); (focus (exact Ext.two _ (Ext.cons _ (Ext.one _ _)) (Ext.cons _ (Ext.cons _ (Ext.here _ _))))); intro w1 hw1; exact hY i y x w1 hI hx; rintro v Lo ⟨rfl, L5, ⟨y', hI', rfl⟩, rfl⟩) | (apply R.is1; first | (apply R.isBin; first | (apply R.pure; exact rfl; first | (apply Ok1.add64; exact rfl; exact rfl; omega; omega) | (apply Ok1.lss_t; exact rfl; exact rfl; omega) | (apply Ok1.lss_f; exact rfl; exact rfl; omega)) | (apply R.lss rfl rfl rfl <;> intro)) | (apply R.isCall; first | (apply R.pure; exact rfl; first | (apply Ok1.lenS; (iterate 3 exact rfl)) | (apply Ok1.lenStr; (iterate 3 exact rfl)) | (apply Ok1.lenMm; (iterate 3 exact rfl); (focus ((repeat' (first | exact At.head | apply At.tail | apply At.right)); done))) | (apply Ok1.lenM_nil; (iterate 3 exact rfl)))) | (apply R.pure; exact rfl; first | (apply Ok1.indexAddrP; (iterate 4 exact rfl); exact hpe; exact rfl; omega; omega) | (apply Ok1.load; exact rfl; apply Ld.rowk0 H; exact rfl; exact hnb; (iterate 3 exact rfl)) | (apply Ok1.move; exact rfl) | (apply Ok1.load; exact rfl; first | (apply Ld.own1; exact rfl; exact rfl; (focus ((repeat' (first | exact At.head | apply At.tail | apply At.right)); done)); exact rfl) | (apply Ld.ownk; exact rfl; exact rfl; (focus ((repeat' (first | exact At.head | apply At.tail | apply At.right)); done)); exact rfl) | (apply Ld.old1; exact rfl; exact rfl; assumption; (first | exact List.not_mem_nil | assumption)) | (apply Ld.blk1; exact rfl; exact rfl; assumption; (first | exact List.not_mem_nil | assumption); exact rfl) | (apply Ld.blkk; exact rfl; exact rfl; assumption; (first | exact List.not_mem_nil | assumption); exact rfl)) | (apply Ok1.indexAddr; (iterate 5 exact rfl); omega; omega) | (apply Ok1.indexAddrA; (iterate 5 exact rfl); omega; omega) | (apply Ok1.not_t; exact rfl) | (apply Ok1.not_f; exact rfl) | (apply Ok1.not; exact rfl) | (apply Ok1.neg; exact rfl)) | (apply R.alloc; (iterate 3 exact rfl); intro)) | (apply R.is0; first | (apply R.store; (iterate 6 exact rfl); (focus ((repeat' (first | exact Upd.head | apply Upd.tail | apply Upd.right)); done)); exact rfl) | fail) | (apply R.isG; first | (apply R.guard_run; exact rfl; exact rfl) | (apply R.guard_not; (iterate 3 exact rfl)) | (apply R.guard_not0; exact rfl; exact rfl) | (apply R.guard_un; (iterate 3 exact rfl)) | (apply R.guard_un0; exact rfl; exact rfl) | (apply R.guard rfl rfl ?_ (fun h => ⟨rfl, ?_⟩) <;> try intro)) | apply R.nil | (apply T.is; first | apply T.regionIn (id := 3) | apply T.seq | apply T.region | apply T.block | apply T.scope | apply T.label | apply T.skip | apply T.exit | apply T.ret | (apply T.cond_t; exact rfl) | (apply T.cond_f; exact rfl) | (apply T.cond_h; exact rfl; assumption) | (apply T.cond_n; exact rfl; assumption) | (apply T.cond rfl <;> intro)) | apply Rnd.step | (apply RI.step; exact rfl) | apply RI.nil)
      refine ⟨(i + 1, y'), ⟨by simp only; omega, hI'⟩, by simp only; omega, ⟨rfl, rfl, rfl, rfl, trivial⟩, ?_⟩
      simp only [List.append_nil, List.cons_append]
      (focus ((repeat' (first | exact Keep.nil _ | exact Ext.one _ _ | exact Ext.here _ _ | exact Ext.all _ | apply Keep.cons | apply Keep.app | apply Keep.last | apply Ext.cons | apply Ext.app)); done))
    · have him : i = xs.length := by omega
      subst him
      repeat' (first | (apply R.is1; first | (apply R.isBin; first | (apply R.pure; exact rfl; first | (apply Ok1.add64; exact rfl; exact rfl; omega; omega) | (apply Ok1.lss_t; exact rfl; exact rfl; omega) | (apply Ok1.lss_f; exact rfl; exact rfl; omega)) | (apply R.lss rfl rfl rfl <;> intro)) | (apply R.isCall; first | (apply R.pure; exact rfl; first | (apply Ok1.lenS; (iterate 3 exact rfl)) | (apply Ok1.lenStr; (iterate 3 exact rfl)) | (apply Ok1.lenMm; (iterate 3 exact rfl); (focus ((repeat' (first | exact At.head | apply At.tail | apply At.right)); done))) | (apply Ok1.lenM_nil; (iterate 3 exact rfl)))) | (apply R.pure; exact rfl; first | (apply Ok1.move; exact rfl) | (apply Ok1.load; exact rfl; first | (apply Ld.own1; exact rfl; exact rfl; (focus ((repeat' (first | exact At.head | apply At.tail | apply At.right)); done)); exact rfl) | (apply Ld.ownk; exact rfl; exact rfl; (focus ((repeat' (first | exact At.head | apply At.tail | apply At.right)); done)); exact rfl) | (apply Ld.old1; exact rfl; exact rfl; assumption; (first | exact List.not_mem_nil | assumption)) | (apply Ld.blk1; exact rfl; exact rfl; assumption; (first | exact List.not_mem_nil | assumption); exact rfl) | (apply Ld.blkk; exact rfl; exact rfl; assumption; (first | exact List.not_mem_nil | assumption); exact rfl)) | (apply Ok1.indexAddr; (iterate 5 exact rfl); omega; omega) | (apply Ok1.indexAddrA; (iterate 5 exact rfl); omega; omega) | (apply Ok1.not_t; exact rfl) | (apply Ok1.not_f; exact rfl) | (apply Ok1.not; exact rfl) | (apply Ok1.neg; exact rfl)) | (apply R.alloc; (iterate 3 exact rfl); intro)) | (apply R.is0; first | (apply R.store; (iterate 6 exact rfl); (focus ((repeat' (first | exact Upd.head | apply Upd.tail | apply Upd.right)); done)); exact rfl) | fail) | (apply R.isG; first | (apply R.guard_run; exact rfl; exact rfl) | (apply R.guard_not; (iterate 3 exact rfl)) | (apply R.guard_not0; exact rfl; exact rfl) | (apply R.guard_un; (iterate 3 exact rfl)) | (apply R.guard_un0; exact rfl; exact rfl) | (apply R.guard rfl rfl ?_ (fun h => ⟨rfl, ?_⟩) <;> try intro)) | apply R.nil | (apply T.is; first | apply T.seq | apply T.region | apply T.block | apply T.scope | apply T.label | apply T.skip | apply T.exit | apply T.ret | (apply T.cond_t; exact rfl) | (apply T.cond_f; exact rfl) | (apply T.cond_h; exact rfl; assumption) | (apply T.cond_n; exact rfl; assumption) | (apply T.cond rfl <;> intro)) | apply Rnd.step)
      (apply RetOk.n)
      exact ⟨_, by simp only [List.append_nil]; (focus ((repeat' (first | exact Keep.nil _ | exact Ext.one _ _ | exact Ext.here _ _ | exact Ext.all _ | apply Keep.cons | apply Keep.app | apply Keep.last | apply Ext.cons | apply Ext.app)); done)), y, hI, rfl⟩
theorem cappendSeq_ok (cb : Nat) (p : Option Addr) (n cap : Nat) (xs : List Cl) (hn : n = xs.length) (hbig : n ≤ 1000000) (w : World) (hp : RdSl w p Cl.v xs) (hoff : xs ≠ [] → Off p [cb]) :
    CallM Tryz.prog 145 [.slice none 0 0, .func (.func 127) #[] #[.pointer (some ⟨cb, 0, none⟩)]] [(cb, .cells ⟨[.slice p n cap]⟩ 36 (0, 0))] w fun v L => ∃ ov, OvOk 4 ov n (fl Cl.v xs) ∧ v = slV ov n ∧ L = (cb, .cells ⟨[.slice p n cap]⟩ 36 (0, 0)) :: blkL 71 ov (fl Cl.v xs) := by
  subst hn
  refine enterF (tb := tb) Tryz.func145 rfl Tryz.ntmps145 rfl ?_
  repeat' (first | (apply TF.range (gf := 127); exact rfl; exact rfl) | apply TF.seq | (apply R.is1; first | (apply R.pure; exact rfl; first | (apply Ok1.move; exact rfl) | (apply Ok1.load; exact rfl; first | (apply Ld.own1; exact rfl; exact rfl; (focus ((repeat' (first | exact At.head | apply At.tail | apply At.right)); done)); exact rfl) | (apply Ld.ownk; exact rfl; exact rfl; (focus ((repeat' (first | exact At.head | apply At.tail | apply At.right)); done)); exact rfl) | (apply Ld.old1; exact rfl; exact rfl; assumption; (first | exact List.not_mem_nil | assumption)) | (apply Ld.blk1; exact rfl; exact rfl; assumption; (first | exact List.not_mem_nil | assumption); exact rfl) | (apply Ld.blkk; exact rfl; exact rfl; assumption; (first | exact List.not_mem_nil | assumption); exact rfl)) | (apply Ok1.assign; exact rfl)) | (apply R.box; (iterate 3 exact rfl); intro) | (apply R.alloc; (iterate 3 exact rfl); intro) | (apply R.buildSlice; (iterate 12 exact rfl); intro)) | (apply R.is0; first | (apply R.store; (iterate 6 exact rfl); (focus ((repeat' (first | exact Upd.head | apply Upd.tail | apply Upd.right)); done)); exact rfl) | fail) | (apply R.isG; first | (apply R.guard_run; exact rfl; exact rfl) | (apply R.guard_not; (iterate 3 exact rfl)) | (apply R.guard_not0; exact rfl; exact rfl) | (apply R.guard_un; (iterate 3 exact rfl)) | (apply R.guard_un0; exact rfl; exact rfl) | (apply R.guard rfl rfl ?_ (fun h => ⟨rfl, ?_⟩) <;> try intro)) | apply R.nil | (apply T.is; first | apply T.seq | apply T.region | apply T.block | apply T.scope | apply T.label | apply T.skip | apply T.exit | apply T.ret | (apply T.cond_t; exact rfl) | (apply T.cond_f; exact rfl) | (apply T.cond_h; exact rfl; assumption) | (apply T.cond_n; exact rfl; assumption) | (apply T.cond rfl <;> intro)) | apply Rnd.step | (apply RI.step; exact rfl) | apply RI.nil)
  rename_i out
  obtain ⟨Li, hLi⟩ : ∃ Li : Nat → Ov → Lst, Li = fun i ov => (out, .cells ⟨[slV ov i]⟩ 36 (0, 0)) :: blkL 71 ov (fl Cl.v (xs.take i)) := ⟨_, rfl⟩
  refine ⟨⟨_, (cb, .cells ⟨[.slice p xs.length cap]⟩ 36 (0, 0)) :: Li 0 none, [], fun Lb => ∃ ov, OvOk 4 ov xs.length (fl Cl.v xs) ∧ Lb = (cb, .cells ⟨[.slice p xs.length cap]⟩ 36 (0, 0)) :: Li xs.length ov, ?_, rfl, ?_, ?_⟩⟩
  · subst hLi
    rw [List.append_nil]
    change Keep _ [_, _]
    (focus ((repeat' (first | exact Keep.nil _ | exact Ext.one _ _ | exact Ext.here _ _ | exact Ext.all _ | apply Keep.cons | apply Keep.app | apply Keep.last | apply Ext.cons | apply Ext.app)); done))
  · rintro l rec w1 hok ⟨L2, hw1⟩
    have hrd := hp.chg' hw1.chg hoff
    have hof2 := RdSl.old Cl.v_len4 (by decide) hp hoff hw1 (Ext.here _ _)
    refine (cvalues1_ok (fun i ov => i ≤ xs.length ∧ OvOk 4 ov i (fl Cl.v (xs.take i))) Li l _ cb p xs.length cap xs rfl (by omega) none ⟨Nat.zero_le _, OvOk.start 4⟩ ?_ w1 hrd hof2).to9 ?_
    · intro i ov x w2 ⟨hi, hI⟩ hx
      have hlt : i < xs.length := (List.getElem?_eq_some_iff.1 hx).1
      subst hLi
      apply YieldM.of (tb := tb) hok.mod hok.params (blt_lt rfl) hok.assign hok.body hok.state hok.pending
      repeat' (first | fail | (apply R.is1; first | (apply R.pure; exact rfl; first | (apply Ok1.move; exact rfl) | (apply Ok1.load; exact rfl; first | (apply Ld.own1; exact rfl; exact rfl; (focus ((repeat' (first | exact At.head | apply At.tail | apply At.right)); done)); exact rfl) | (apply Ld.ownk; exact rfl; exact rfl; (focus ((repeat' (first | exact At.head | apply At.tail | apply At.right)); done)); exact rfl) | (apply Ld.old1; exact rfl; exact rfl; assumption; (first | exact List.not_mem_nil | assumption)) | (apply Ld.blk1; exact rfl; exact rfl; assumption; (first | exact List.not_mem_nil | assumption); exact rfl) | (apply Ld.blkk; exact rfl; exact rfl; assumption; (first | exact List.not_mem_nil | assumption); exact rfl)) | (apply Ok1.assign; exact rfl)) | (apply R.box; (iterate 3 exact rfl); intro) | (apply R.alloc; (iterate 3 exact rfl); intro) | (apply R.buildSlice; (iterate 12 exact rfl); intro)) | (apply R.is0; first | (apply R.store; (iterate 6 exact rfl); (focus ((repeat' (first | exact Upd.head | apply Upd.tail | apply Upd.right)); done)); exact rfl) | fail) | (apply R.isG; first | (apply R.guard_run; exact rfl; exact rfl) | (apply R.guard_not; (iterate 3 exact rfl)) | (apply R.guard_not0; exact rfl; exact rfl) | (apply R.guard_un; (iterate 3 exact rfl)) | (apply R.guard_un0; exact rfl; exact rfl) | (apply R.guard rfl rfl ?_ (fun h => ⟨rfl, ?_⟩) <;> try intro)) | apply R.nil | (apply T.is; first | apply T.seq | apply T.region | apply T.block | apply T.scope | apply T.label | apply T.skip | apply T.exit | apply T.ret | (apply T.cond_t; exact rfl) | (apply T.cond_f; exact rfl) | (apply T.cond_h; exact rfl; assumption) | (apply T.cond_n; exact rfl; assumption) | (apply T.cond rfl <;> intro)) | apply Rnd.step | (apply RI.step; exact rfl) | apply RI.nil)
      refine ⟨_, .cons (Ext.cons _ (Ext.one _ _)) (.last (.all _)), ?_⟩
      repeat' (first | fail | (apply R.is1; first | (apply R.isCall; first | (apply R.append1; (iterate 12 exact rfl); (focus ((repeat' (first | exact OwnAt.mid hI | exact OwnAt.base hI | exact OwnAt.nil _ | apply OwnAt.tail | apply OwnAt.right)); done)); (focus ((repeat' (first | exact At.head | apply At.tail | apply At.right)); done)); exact rfl; exact rfl; omega; omega; intro b2 j2 k2 hj2)) | (apply R.pure; exact rfl; first | (apply Ok1.move; exact rfl) | (apply Ok1.load; exact rfl; first | (apply Ld.own1; exact rfl; exact rfl; (focus ((repeat' (first | exact At.head | apply At.tail | apply At.right)); done)); exact rfl) | (apply Ld.ownk; exact rfl; exact rfl; (focus ((repeat' (first | exact At.head | apply At.tail | apply At.right)); done)); exact rfl) | (apply Ld.old1; exact rfl; exact rfl; assumption; (first | exact List.not_mem_nil | assumption)) | (apply Ld.blk1; exact rfl; exact rfl; assumption; (first | exact List.not_mem_nil | assumption); exact rfl) | (apply Ld.blkk; exact rfl; exact rfl; assumption; (first | exact List.not_mem_nil | assumption); exact rfl)) | (apply Ok1.assign; exact rfl)) | (apply R.box; (iterate 3 exact rfl); intro) | (apply R.alloc; (iterate 3 exact rfl); intro) | (apply R.buildSlice; (iterate 12 exact rfl); intro)) | (apply R.is0; first | (apply R.store; (iterate 6 exact rfl); (focus ((repeat' (first | exact Upd.head | apply Upd.tail | apply Upd.right)); done)); exact rfl) | fail) | (apply R.isG; first | (apply R.guard_run; exact rfl; exact rfl) | (apply R.guard_not; (iterate 3 exact rfl)) | (apply R.guard_not0; exact rfl; exact rfl) | (apply R.guard_un; (iterate 3 exact rfl)) | (apply R.guard_un0; exact rfl; exact rfl) | (apply R.guard rfl rfl ?_ (fun h => ⟨rfl, ?_⟩) <;> try intro)) | apply R.nil | (apply T.is; first | apply T.seq | apply T.region | apply T.block | apply T.scope | apply T.label | apply T.skip | apply T.exit | apply T.ret | (apply T.cond_t; exact rfl) | (apply T.cond_f; exact rfl) | (apply T.cond_h; exact rfl; assumption) | (apply T.cond_n; exact rfl; assumption) | (apply T.cond rfl <;> intro)) | apply Rnd.step | (apply RI.step; exact rfl) | apply RI.nil)
      have hs : fl Cl.v (xs.take (i + 1)) = fl Cl.v (xs.take i) ++ x.v := fl_take hx
      refine ⟨(out, .cells ⟨[slV (some (b2, j2, k2)) (i + 1)]⟩ 36 (0, 0)) :: blkL 71 (some (b2, j2, k2)) (fl Cl.v (xs.take (i + 1))), ?_, some (b2, j2, k2), ⟨by omega, ?_⟩, rfl⟩
      · rw [hs]
        (focus ((repeat' (first | exact Keep.nil _ | exact Ext.one _ _ | exact Ext.here _ _ | exact Ext.all _ | apply Keep.cons | apply Keep.app | apply Keep.last | apply Ext.cons | apply Ext.app)); done))
      · rw [hs]
        exact hI.some (b := b2) (ys := x.v) (m := 1) rfl hj2
    · rintro v L ⟨ov, ⟨_, h2⟩, rfl⟩
      rw [List.take_length] at h2
      exact ⟨_, ⟨ov, h2, rfl⟩, rfl⟩
  · rintro D Lb ⟨ov, h2, rfl⟩
    subst hLi
    simp only [List.cons_append, List.append_nil, List.take_length]
    repeat' (first | apply TD.seq | apply TD.region | apply TD.ret | (apply R.is1; first | (apply R.pure; exact rfl; first | (apply Ok1.move; exact rfl) | (apply Ok1.load; exact rfl; first | (apply Ld.own1; exact rfl; exact rfl; (focus ((repeat' (first | exact At.head | apply At.tail | apply At.right)); done)); exact rfl) | (apply Ld.ownk; exact rfl; exact rfl; (focus ((repeat' (first | exact At.head | apply At.tail | apply At.right)); done)); exact rfl) | (apply Ld.old1; exact rfl; exact rfl; assumption; (first | exact List.not_mem_nil | assumption)) | (apply Ld.blk1; exact rfl; exact rfl; assumption; (first | exact List.not_mem_nil | assumption); exact rfl) | (apply Ld.blkk; exact rfl; exact rfl; assumption; (first | exact List.not_mem_nil | assumption); exact rfl)) | (apply Ok1.assign; exact rfl)) | (apply R.box; (iterate 3 exact rfl); intro) | (apply R.alloc; (iterate 3 exact rfl); intro) | (apply R.buildSlice; (iterate 12 exact rfl); intro)) | (apply R.is0; first | (apply R.store; (iterate 6 exact rfl); (focus ((repeat' (first | exact Upd.head | apply Upd.tail | apply Upd.right)); done)); exact rfl) | fail) | (apply R.isG; first | (apply R.guard_run; exact rfl; exact rfl) | (apply R.guard_not; (iterate 3 exact rfl)) | (apply R.guard_not0; exact rfl; exact rfl) | (apply R.guard_un; (iterate 3 exact rfl)) | (apply R.guard_un0; exact rfl; exact rfl) | (apply R.guard rfl rfl ?_ (fun h => ⟨rfl, ?_⟩) <;> try intro)) | apply R.nil | (apply T.is; first | apply T.seq | apply T.region | apply T.block | apply T.scope | apply T.label | apply T.skip | apply T.exit | apply T.ret | (apply T.cond_t; exact rfl) | (apply T.cond_f; exact rfl) | (apply T.cond_h; exact rfl; assumption) | (apply T.cond_n; exact rfl; assumption) | (apply T.cond rfl <;> intro)) | apply Rnd.step | (apply RI.step; exact rfl) | apply RI.nil)
    refine ⟨rfl, _, _, rfl, ?_, ov, h2, rfl, rfl⟩
    (focus ((repeat' (first | exact Keep.nil _ | exact Ext.one _ _ | exact Ext.here _ _ | exact Ext.all _ | apply Keep.cons | apply Keep.app | apply Keep.last | apply Ext.cons | apply Ext.app)); done))
theorem ccollect_ok (cb : Nat) (p : Option Addr) (n cap : Nat) (xs : List Cl) (hn : n = xs.length) (hbig : n ≤ 1000000) (w : World) (hp : RdSl w p Cl.v xs) (hoff : xs ≠ [] → Off p [cb]) :
    CallM Tryz.prog 125 [.func (.func 127) #[] #[.pointer (some ⟨cb, 0, none⟩)]] [(cb, .cells ⟨[.slice p n cap]⟩ 36 (0, 0))] w fun v L => ∃ ov, OvOk 4 ov n (fl Cl.v xs) ∧ v = slV ov n ∧ L = (cb, .cells ⟨[.slice p n cap]⟩ 36 (0, 0)) :: blkL 71 ov (fl Cl.v xs) := by
  have h := fun w1 (hc : Chg [cb] w w1) => cappendSeq_ok cb p n cap xs hn hbig w1 (hp.chg' hc hoff) hoff
  refine enterK (tb := tb) Tryz.func125 rfl Tryz.ntmps125 rfl ?_
  repeat' (first | (apply R.is1; first | (apply R.isCall; first | (apply R.callE (vs := [.slice none 0 0, .func (.func 127) #[] #[.pointer (some ⟨cb, 0, none⟩)]]); (iterate 3 exact rfl); exact Ext.all _; intro w1 hw1; exact h w1 hw1.chg; rintro v Lo ⟨ov, hov, rfl, rfl⟩)) | (apply R.pure; exact rfl; first | (apply Ok1.move; exact rfl) | (apply Ok1.assign; exact rfl))) | (apply R.is0; first | fail) | (apply R.isG; first | (apply R.guard_run; exact rfl; exact rfl) | (apply R.guard_not; (iterate 3 exact rfl)) | (apply R.guard_not0; exact rfl; exact rfl) | (apply R.guard_un; (iterate 3 exact rfl)) | (apply R.guard_un0; exact rfl; exact rfl) | (apply R.guard rfl rfl ?_ (fun h => ⟨rfl, ?_⟩) <;> try intro)) | apply R.nil | (apply T.is; first | apply T.seq | apply T.region | apply T.block | apply T.scope | apply T.label | apply T.skip | apply T.exit | apply T.ret | (apply T.cond_t; exact rfl) | (apply T.cond_f; exact rfl) | (apply T.cond_h; exact rfl; assumption) | (apply T.cond_n; exact rfl; assumption) | (apply T.cond rfl <;> intro)) | apply Rnd.step)
  (apply RetOk.t; exact rfl)
  exact ⟨_, by (focus ((repeat' (first | exact Keep.nil _ | exact Ext.one _ _ | exact Ext.here _ _ | exact Ext.all _ | apply Keep.cons | apply Keep.app | apply Keep.last | apply Ext.cons | apply Ext.app)); done)), ov, hov, rfl, rfl⟩
end Go.Proofs.YtplhnkmmhndkjaaGreat
set_option linter.unusedSimpArgs false
set_option linter.unusedVariables false
namespace Go.Proofs.YtplhnkmmhndkjaaGreat
open Go.RowKit Go.Shelf Go.Sort
def adj : List Cl → Bool
  | a :: b :: l => decide (a = b) || adj (b :: l)
  | _ => false
theorem cmpCl_tri {a b : Cl} (h1 : ¬ cmpCl a b < 0) (h2 : ¬ cmpCl b a < 0) : a = b := by
  rw [cmpCl_neg] at h1 h2
  unfold ltC at h1 h2
  cases a; cases b
  simp only [Cl.mk.injEq] at *
  omega
theorem adj_nodup : ∀ {l : List Cl}, (l.Pairwise fun x y => ¬ cmpCl y x < 0) → (adj l = false ↔ l.Nodup)
  | [], _ => by simp [adj]
  | [a], _ => by simp [adj]
  | a :: b :: l, h => by
    obtain ⟨h1, h2⟩ := List.pairwise_cons.1 h
    have ih := adj_nodup (l := b :: l) h2
    obtain ⟨h3, h4⟩ := List.pairwise_cons.1 h2
    simp only [adj, Bool.or_eq_false_iff, decide_eq_false_iff_not]
    rw [ih, List.nodup_cons (a := a)]
    refine ⟨fun ⟨hne, hnd⟩ => ⟨fun hm => ?_, hnd⟩, fun ⟨hm, hnd⟩ => ⟨fun e => hm (e ▸ List.mem_cons_self), hnd⟩⟩
    rcases List.mem_cons.1 hm with e | hm
    · exact hne e
    · exact hne (cmpCl_tri (h3 a hm) (h1 b List.mem_cons_self))
/-- Position by position. -/
theorem adj_iff : ∀ {l : List Cl}, adj l = false ↔ ∀ i, i + 1 < l.length → l[i]? ≠ l[i + 1]?
  | [] => by simp [adj]
  | [a] => by simp [adj]
  | a :: b :: l => by
    have ih := adj_iff (l := b :: l)
    simp only [adj, Bool.or_eq_false_iff, decide_eq_false_iff_not]
    rw [ih]
    constructor
    · rintro ⟨hne, h⟩ i hi
      cases i with
      | zero => simpa using hne
      | succ i => exact h i (by simpa using hi)
    · intro h
      refine ⟨fun e => h 0 (by simp) (by simp [e]), fun i hi => ?_⟩
      have := h (i + 1) (by simpa using hi)
      simpa using this
end Go.Proofs.YtplhnkmmhndkjaaGreat
set_option linter.unusedSimpArgs false
set_option linter.unusedVariables false
namespace Go.Proofs.YtplhnkmmhndkjaaGreat
open Go.RowKit Go.Shelf Go.Sort
set_option maxRecDepth 100000
theorem csorted_ok (cb : Nat) (p : Option Addr) (n cap : Nat) (xs : List Cl) (hn : n = xs.length) (hbig : n ≤ 1000) (w : World) (hp : RdSl w p Cl.v xs) (hoff : xs ≠ [] → Off p [cb]) :
    CallM Tryz.prog 110 [.func (.func 127) #[] #[.pointer (some ⟨cb, 0, none⟩)], .func (.func 80) #[] #[]] [(cb, .cells ⟨[.slice p n cap]⟩ 36 (0, 0))] w fun v L => ∃ ov ys, ys.Perm xs ∧ Asc cmpCl ys ∧ OvOk 4 ov n (fl Cl.v ys) ∧ v = slV ov n ∧ L = (cb, .cells ⟨[.slice p n cap]⟩ 36 (0, 0)) :: blkL 71 ov (fl Cl.v ys) := by
  subst hn
  have h := fun w1 (hc : Chg [cb] w w1) => ccollect_ok cb p xs.length cap xs rfl (by omega) w1 (hp.chg' hc hoff) hoff
  have hs := fun ov hov w1 => sortC_ok xs hbig ov hov w1
  refine enterK (tb := tb) Tryz.func110 rfl Tryz.ntmps110 rfl ?_
  repeat' (first | (apply R.is1; first | (apply R.isCall; first | (apply R.callE (vs := [.func (.func 127) #[] #[.pointer (some ⟨cb, 0, none⟩)]]); (iterate 3 exact rfl); exact Ext.all _; intro w1 hw1; exact h w1 hw1.chg; rintro v Lo ⟨ov, hov, rfl, rfl⟩) | (apply R.callE (vs := [slV ov xs.length, .func (.func 80) #[] #[]]); (iterate 3 exact rfl); exact Ext.cons _ (Ext.here _ _); intro w1 hw1; exact hs ov hov w1; rintro v Lo ⟨rfl, ys, hpm, hasc, rfl⟩)) | (apply R.pure; exact rfl; first | (apply Ok1.move; exact rfl) | (apply Ok1.assign; exact rfl))) | (apply R.is0; first | fail) | (apply R.isG; first | (apply R.guard_run; exact rfl; exact rfl) | (apply R.guard_not; (iterate 3 exact rfl)) | (apply R.guard_not0; exact rfl; exact rfl) | (apply R.guard_un; (iterate 3 exact rfl)) | (apply R.guard_un0; exact rfl; exact rfl) | (apply R.guard rfl rfl ?_ (fun h => ⟨rfl, ?_⟩) <;> try intro)) | apply R.nil | (apply T.is; first | apply T.seq | apply T.region | apply T.block | apply T.scope | apply T.label | apply T.skip | apply T.exit | apply T.ret | (apply T.cond_t; exact rfl) | (apply T.cond_f; exact rfl) | (apply T.cond_h; exact rfl; assumption) | (apply T.cond_n; exact rfl; assumption) | (apply T.cond rfl <;> intro)) | apply Rnd.step)
  (apply RetOk.t; exact rfl)
  have hl : (fl Cl.v ys).length = (fl Cl.v xs).length := by rw [fl_len Cl.v_len4, fl_len Cl.v_len4, hpm.length_eq]
  refine ⟨_, ?_, ov, ys, hpm, hasc, ⟨by rw [hl]; exact hov.1, hov.2⟩, rfl, rfl⟩
  (focus ((repeat' (first | exact Keep.nil _ | exact Ext.one _ _ | exact Ext.here _ _ | exact Ext.all _ | apply Keep.cons | apply Keep.app | apply Keep.last | apply Ext.cons | apply Ext.app)); done))
end Go.Proofs.YtplhnkmmhndkjaaGreat
set_option linter.unusedSimpArgs false
set_option linter.unusedVariables false
namespace Go.Proofs.YtplhnkmmhndkjaaGreat
open Go.RowKit Go.Shelf Go.Sort
set_option maxRecDepth 100000
theorem adj_short {ys : List Cl} (h : ys.length < 2) : adj ys = false := by
  match ys, h with
  | [], _ => rfl
  | [a], _ => rfl
theorem clv_inj9 {a b : Cl} : ([.int .i64 a.id, .int .i64 a.roles, .int .i64 a.exp, .int .i64 a.ser] : List Value) = [.int .i64 b.id, .int .i64 b.roles, .int .i64 b.exp, .int .i64 b.ser] ↔ a = b := by
  simp only [List.cons.injEq, Value.int.injEq, true_and, and_true]
  constructor
  · rintro ⟨h1, h2, h3, h4⟩
    cases a; cases b; simp_all
  · rintro h; simp [h]
theorem ccompact_ok (ys : List Cl) (hlen : ys.length ≤ 1000) (ov : Ov) (hov : OvOk 4 ov ys.length (fl Cl.v ys)) (w : World) :
    CallM Tryz.prog 109 [slV ov ys.length] (blkL 71 ov (fl Cl.v ys)) w fun v L => ∃ p m c, v = .slice p m c ∧ (m = ys.length ↔ adj ys = false) := by
  refine enterK (tb := tb) Tryz.func109 rfl Tryz.ntmps109 rfl ?_
  rw [slV_eq hov]
  rcases Nat.lt_or_ge ys.length 2 with h2 | h2
  · repeat' (first | (apply R.is1; first | (apply R.isBin; (apply R.pure; exact rfl; (apply Ok1.lss_t; exact rfl; exact rfl; omega))) | (apply R.isCall; (apply R.pure; exact rfl; (apply Ok1.lenS; (iterate 3 exact rfl)))) | (apply R.pure; exact rfl; first | (apply Ok1.move; exact rfl) | (apply Ok1.assign; exact rfl))) | apply R.nil | (apply T.is; first | apply T.seq | apply T.region | apply T.ret | (apply T.cond_t; exact rfl)))
    all_goals (apply RetOk.t; exact rfl)
    all_goals exact ⟨_, Keep.nil _, _, _, _, rfl, ⟨fun _ => adj_short h2, fun _ => rfl⟩⟩
  · obtain ⟨b, j, junk, rfl⟩ : ∃ b j junk, ov = some (b, j, junk) := by
      cases ov with
      | none => have := hov.2; omega
      | some x => exact ⟨_, _, _, rfl⟩
    repeat' (first | (apply R.is1; first | (apply R.isBin; (apply R.pure; exact rfl; (apply Ok1.lss_f; exact rfl; exact rfl; omega))) | (apply R.isCall; (apply R.pure; exact rfl; (apply Ok1.lenS; (iterate 3 exact rfl)))) | (apply R.pure; exact rfl; first | (apply Ok1.move; exact rfl) | (apply Ok1.assign; exact rfl))) | apply R.nil | (apply T.is; first | apply T.seq | apply T.region | apply T.block | apply T.skip | (apply T.cond_f; exact rfl)))
    apply T.loopK (α := Nat) (I := fun k => 1 ≤ k ∧ k ≤ ys.length ∧ ∀ i, i + 1 < k → ys[i]? ≠ ys[i + 1]?) (σi := fun k => [(0, .slice (some ⟨b, 0, none⟩) ys.length (ys.length + j)), (3, .int .i64 k)]) (Li := fun k => [(b, .cells ⟨fl Cl.v ys ++ junk⟩ 71 (0, 0))]) (μ := fun k => ys.length - k) (i0 := 1)
    · exact ⟨Nat.le_refl _, by omega, fun i hi => by omega⟩
    · exact ⟨rfl, rfl, trivial⟩
    · (focus ((repeat' (first | exact Keep.nil _ | exact Ext.one _ _ | apply Keep.cons)); done))
    · rintro k ⟨h1, hk, hne⟩
      rcases Nat.lt_or_ge k ys.length with hlt | hge
      · obtain ⟨r, hr⟩ : ∃ r, ys[k]? = some r := ⟨_, List.getElem?_eq_getElem (by omega)⟩
        obtain ⟨s, hs⟩ : ∃ s, ys[k - 1]? = some s := ⟨_, List.getElem?_eq_getElem (by omega)⟩
        have hk1 : (k : Int) - 1 = ((k - 1 : Nat) : Int) := by omega
        repeat' (first | (apply R.is1; first | (apply R.isBin; (apply R.pure; exact rfl; first | (apply Ok1.add64; exact rfl; exact rfl; omega; omega) | (apply Ok1.lss_t; exact rfl; exact rfl; omega))) | (apply R.isCall; (apply R.pure; exact rfl; (apply Ok1.lenS; (iterate 3 exact rfl)))) | (apply R.pure; exact rfl; first | (apply Ok1.move; exact rfl) | (apply Ok1.assign; exact rfl) | (apply Ok1.sliceFrom; (iterate 7 exact rfl); omega; omega; omega; omega; omega; (exact Or.inl rfl)))) | apply R.nil | (apply T.is; first | (apply T.drawC (id := 6) [0] (by decide); ((apply A.take 0; exact rfl; exact rfl; kernel_rfl; kernel_rfl; kernel_rfl; (apply Ok1.move; exact rfl)) <;> (apply A.take 1; exact rfl; exact rfl; kernel_rfl; kernel_rfl; kernel_rfl; (apply Ok1.move; exact rfl)) <;> (apply A.take 2; exact rfl; exact rfl; kernel_rfl; kernel_rfl; kernel_rfl; (apply Ok1.indexAddr; (iterate 5 exact rfl); omega; omega)) <;> (apply A.take 3; exact rfl; exact rfl; kernel_rfl; kernel_rfl; kernel_rfl; (apply Ok1.load; exact rfl; (apply Ld.ownrowk (f := 0); exact At.head; exact Cl.v_len4; exact hr; (focus ((simp; done))); (iterate 3 exact rfl)))) <;> (apply A.take 4; exact rfl; exact rfl; kernel_rfl; kernel_rfl; kernel_rfl; (apply Ok1.move; exact rfl)) <;> (apply A.take 5; exact rfl; exact rfl; kernel_rfl; kernel_rfl; kernel_rfl; (apply Ok1.move; exact rfl)) <;> (apply A.take 6; exact rfl; exact rfl; kernel_rfl; kernel_rfl; kernel_rfl; (apply Ok1.sub64; exact rfl; exact rfl; omega; omega)) <;> (apply A.take 7; exact rfl; exact rfl; kernel_rfl; kernel_rfl; kernel_rfl; (apply Ok1.indexAddr; (iterate 5 exact rfl); omega; omega)) <;> (apply A.take 8; exact rfl; exact rfl; kernel_rfl; kernel_rfl; kernel_rfl; (apply Ok1.load; exact rfl; (apply Ld.ownrowk (f := 0); exact At.head; exact Cl.v_len4; exact hs; (focus ((simp; done))); (iterate 3 exact rfl)))) <;> ((apply A.take 9; exact rfl; exact rfl; kernel_rfl; kernel_rfl; kernel_rfl; ((apply Ok1.eqlF; (iterate 7 exact rfl))); apply A.dec (t := 25); exact rfl; all_goals intro)) <;> (apply A.done; kernel_rfl))) | apply T.seq | apply T.region | apply T.block | apply T.skip | (apply T.cond_t; exact rfl) | (apply T.cond_f; exact rfl)))
        all_goals rename_i heq
        rotate_left
        · have hrs : ¬ r = s := fun e => heq (clv_inj9.2 e)
          refine ⟨k + 1, ⟨by omega, by omega, fun i hi => ?_⟩, by omega, ⟨rfl, rfl, trivial⟩, by (focus ((repeat' (first | exact Keep.nil _ | exact Ext.one _ _ | apply Keep.cons)); done))⟩
          rcases Nat.lt_or_ge (i + 1) k with h | h
          · exact hne i h
          · have hik : i = k - 1 := by omega
            have hik1 : i + 1 = k := by omega
            rw [hik1, hr, hik, hs]
            exact fun e => hrs (Option.some.inj e).symm
        · apply T.loopK (α := Nat × Nat × List Cl) (I := fun y => k ≤ y.1 ∧ y.1 ≤ k + y.2.1 - 1 ∧ 1 ≤ y.2.1 ∧ y.2.1 ≤ ys.length - k ∧ y.2.2.length = ys.length) (σi := fun y => [(0, .slice (some ⟨b, 0, none⟩) ys.length (ys.length + j)), (3, .int .i64 y.1), (4, .slice (some ⟨b, 0 + k * 4, none⟩) (ys.length - k) (ys.length + j - k)), (5, .int .i64 y.2.1)]) (Li := fun y => [(b, .cells ⟨fl Cl.v y.2.2 ++ junk⟩ 71 (0, 0))]) (μ := fun y => ys.length - k - y.2.1) (i0 := (k, 1, ys))
          · exact ⟨Nat.le_refl _, by simp only; omega, Nat.le_refl _, by simp only; omega, rfl⟩
          · exact ⟨rfl, rfl, rfl, rfl, trivial⟩
          · (focus ((repeat' (first | exact Keep.nil _ | exact Ext.one _ _ | apply Keep.cons)); done))
          · rintro ⟨k', k2, zs⟩ ⟨g1, g2, g3, g4, gz⟩
            simp only at g1 g2 g3 g4 gz ⊢
            rcases Nat.lt_or_ge k2 (ys.length - k) with glt | gge
            · obtain ⟨r2, hr2⟩ : ∃ r, zs[k + k2]? = some r := ⟨_, List.getElem?_eq_getElem (by omega)⟩
              obtain ⟨s2, hs2⟩ : ∃ r, zs[k + (k2 - 1)]? = some r := ⟨_, List.getElem?_eq_getElem (by omega)⟩
              repeat' (first | (apply R.is1; first | (apply R.isBin; (apply R.pure; exact rfl; first | (apply Ok1.add64; exact rfl; exact rfl; omega; omega) | (apply Ok1.lss_t; exact rfl; exact rfl; omega))) | (apply R.isCall; (apply R.pure; exact rfl; (apply Ok1.lenS; (iterate 3 exact rfl)))) | (apply R.pure; exact rfl; first | (apply Ok1.indexAddr; (iterate 5 exact rfl); omega; omega) | (apply Ok1.load; exact rfl; (apply Ld.ownrowk (f := 0); exact At.head; exact Cl.v_len4; exact hr2; (focus ((simp; omega))); (iterate 3 exact rfl))) | (apply Ok1.move; exact rfl) | (apply Ok1.assign; exact rfl))) | (apply R.is0; (apply R.store; (iterate 6 exact rfl); exact Upd.head; exact setE_row Cl.v_len4 (by omega) r2 junk)) | apply R.nil | (apply T.is; first | (apply T.drawC (id := 11) [0] (by decide); ((apply A.take 0; exact rfl; exact rfl; kernel_rfl; kernel_rfl; kernel_rfl; (apply Ok1.move; exact rfl)) <;> (apply A.take 1; exact rfl; exact rfl; kernel_rfl; kernel_rfl; kernel_rfl; (apply Ok1.move; exact rfl)) <;> (apply A.take 2; exact rfl; exact rfl; kernel_rfl; kernel_rfl; kernel_rfl; (apply Ok1.indexAddr; (iterate 5 exact rfl); omega; omega)) <;> (apply A.take 3; exact rfl; exact rfl; kernel_rfl; kernel_rfl; kernel_rfl; (apply Ok1.load; exact rfl; (apply Ld.ownrowk (f := 0); exact At.head; exact Cl.v_len4; exact hr2; (focus ((simp; omega))); (iterate 3 exact rfl)))) <;> (apply A.take 4; exact rfl; exact rfl; kernel_rfl; kernel_rfl; kernel_rfl; (apply Ok1.move; exact rfl)) <;> (apply A.take 5; exact rfl; exact rfl; kernel_rfl; kernel_rfl; kernel_rfl; (apply Ok1.move; exact rfl)) <;> (apply A.take 6; exact rfl; exact rfl; kernel_rfl; kernel_rfl; kernel_rfl; (apply Ok1.sub64; exact rfl; exact rfl; omega; omega)) <;> (apply A.take 7; exact rfl; exact rfl; kernel_rfl; kernel_rfl; kernel_rfl; (apply Ok1.indexAddr; (iterate 5 exact rfl); omega; omega)) <;> (apply A.take 8; exact rfl; exact rfl; kernel_rfl; kernel_rfl; kernel_rfl; (apply Ok1.load; exact rfl; (apply Ld.ownrowk (f := 0); exact At.head; exact Cl.v_len4; exact hs2; (focus ((simp; omega))); (iterate 3 exact rfl)))) <;> ((apply A.take 9; exact rfl; exact rfl; kernel_rfl; kernel_rfl; kernel_rfl; ((apply Ok1.neqF; (iterate 7 exact rfl))); apply A.dec (t := 44); exact rfl; all_goals intro)) <;> (apply A.done; kernel_rfl))) | apply T.seq | apply T.region | apply T.block | apply T.skip | (apply T.cond_t; exact rfl) | (apply T.cond_f; exact rfl)))
              · exact ⟨(k' + 1, k2 + 1, zs.set k' r2), ⟨by simp only; omega, by simp only; omega, by simp only; omega, by simp only; omega, by simp only [List.length_set]; exact gz⟩, by simp only; omega, ⟨rfl, rfl, rfl, rfl, trivial⟩, by (focus ((repeat' (first | exact Keep.nil _ | exact Ext.one _ _ | apply Keep.cons)); done))⟩
              · exact ⟨(k', k2 + 1, zs), ⟨g1, by simp only; omega, by simp only; omega, by simp only; omega, gz⟩, by simp only; omega, ⟨rfl, rfl, rfl, rfl, trivial⟩, by (focus ((repeat' (first | exact Keep.nil _ | exact Ext.one _ _ | apply Keep.cons)); done))⟩
            · obtain ⟨cs9, hcl⟩ : ∃ cs9, setE (fl Cl.v zs ++ junk) (0 + k' * 4) (List.replicate ((ys.length - k') * 4) (Value.int .i64 0)) = some cs9 := by
                have e : fl Cl.v zs ++ junk = fl Cl.v (zs.take k') ++ (fl Cl.v (zs.drop k') ++ junk) := by
                  unfold fl
                  rw [← List.append_assoc, ← List.flatten_append, ← List.map_append, List.take_append_drop]
                have hl : (fl Cl.v (zs.take k')).length = 0 + k' * 4 := by rw [fl_len Cl.v_len4, List.length_take]; omega
                exact ⟨_, by rw [e, ← hl]; exact setE_mid _ (by rw [List.length_replicate, List.length_append, fl_len Cl.v_len4, List.length_drop, gz]; omega)⟩
              have hrs : r = s := clv_inj9.1 heq
              have hadj : adj ys ≠ false := fun e => adj_iff.1 e (k - 1) (by omega) (by rw [hs, show k - 1 + 1 = k by omega, hr, hrs])
              repeat' (first | (apply R.is1; first | (apply R.isBin; (apply R.pure; exact rfl; (apply Ok1.lss_f; exact rfl; exact rfl; omega))) | (apply R.isCall; (apply R.pure; exact rfl; (apply Ok1.lenS; (iterate 3 exact rfl)))) | (apply R.pure; exact rfl; first | (apply Ok1.move; exact rfl) | (apply Ok1.assign; exact rfl) | (apply Ok1.sliceTo; (iterate 6 exact rfl); omega; omega; omega; (exact Or.inl rfl)) | (apply Ok1.sliceFrom; (iterate 7 exact rfl); omega; omega; omega; omega; omega; (exact Or.inl rfl)))) | (apply R.is0; (apply R.clearU (k := 4) (z0 := Value.int .i64 0); (iterate 4 exact rfl); decide; exact rfl; exact rfl; omega; exact Upd.head; exact hcl)) | apply R.nil | (apply T.is; first | apply T.seq | apply T.region | apply T.exit | apply T.ret | (apply T.cond_f; exact rfl)))
              (apply RetOk.t; exact rfl)
              exact ⟨_, Keep.nil _, _, _, _, rfl, ⟨fun e => by omega, fun e => absurd e hadj⟩⟩
      · have hm : k = ys.length := by omega
        subst hm
        repeat' (first | (apply R.is1; first | (apply R.isBin; (apply R.pure; exact rfl; (apply Ok1.lss_f; exact rfl; exact rfl; omega))) | (apply R.isCall; (apply R.pure; exact rfl; (apply Ok1.lenS; (iterate 3 exact rfl)))) | (apply R.pure; exact rfl; first | (apply Ok1.move; exact rfl) | (apply Ok1.assign; exact rfl))) | apply R.nil | (apply T.is; first | apply T.seq | apply T.region | apply T.exit | apply T.ret | (apply T.cond_f; exact rfl)))
        (apply RetOk.t; exact rfl)
        exact ⟨_, Keep.nil _, _, _, _, rfl, ⟨fun _ => adj_iff.2 hne, fun _ => rfl⟩⟩
end Go.Proofs.YtplhnkmmhndkjaaGreat
set_option linter.unusedSimpArgs false
set_option linter.unusedVariables false
namespace Go.Proofs.YtplhnkmmhndkjaaGreat
open Go.RowKit Go.Shelf Go.Sort
set_option maxRecDepth 100000
theorem jtwice_ok (p : Option Addr) (cap : Nat) (xs : List Cl) (hbig : xs.length ≤ 1000) (w : World) (hp : RdSl w p Cl.v xs) :
    CallM Tryz.prog 79 [.slice p xs.length cap, .func (.func 80) #[] #[]] [] w fun v L => v = .bool (decide (¬ xs.Nodup)) ∧ L = [] := by
  have hss := fun cb w1 hr ho => csorted_ok cb p xs.length cap xs rfl hbig w1 hr ho
  refine enterK (tb := tb) Tryz.func79 rfl Tryz.ntmps79 rfl ?_
  repeat' (first | (apply R.is1; first | (apply R.isBin; first | (apply R.pure; exact rfl; first | (apply Ok1.neq_t; exact rfl; exact rfl; omega) | (apply Ok1.neq_f; exact rfl; exact rfl; omega) | (apply Ok1.neqP; (iterate 5 exact rfl)) | (apply Ok1.neqM; (iterate 5 exact rfl)) | (apply Ok1.neqS; (iterate 5 exact rfl))) | (apply R.neq rfl rfl rfl <;> intro) | (apply R.neqF; (iterate 8 exact rfl); all_goals intro)) | (apply R.isCall; first | (apply R.callE (vs := [.slice p xs.length cap]); (iterate 3 exact rfl); exact Ext.none _; intro w1 hw1; exact cvalues_ok p xs.length cap w1; rintro v Lo ⟨cb, rfl, rfl⟩) | (apply R.callE (vs := [.func (.func 127) #[] #[.pointer (some ⟨cb, 0, none⟩)], .func (.func 80) #[] #[]]); (iterate 3 exact rfl); exact Ext.here _ _; intro w1 hw1; exact hss cb w1 (hp.chg' hw1.chg (fun _ => Off.nil _)) (RdSl.old Cl.v_len4 (by decide) hp (fun _ => Off.nil _) hw1 (Li := [(cb, .cells ⟨[.slice p xs.length cap]⟩ 36 (0, 0))]) (by (focus ((repeat' (first | exact Ext.none _ | exact Ext.one _ _ | exact Ext.here _ _ | exact Ext.all _ | apply Ext.cons | apply Ext.app | apply Ext.two)); done)))); rintro v Lo ⟨ov, ys, hpm, hasc, hov, rfl, rfl⟩; rw [← hpm.length_eq] at hov; have hcm := fun w1 => ccompact_ok ys (hpm.length_eq ▸ hbig) ov hov w1; rw [hpm.length_eq] at hcm) | (apply R.callE (vs := [slV ov xs.length]); (iterate 3 exact rfl); exact Ext.cons _ (Ext.here _ _); intro w1 hw1; exact hcm w1; rintro v Lo ⟨q, m, c, rfl, hm⟩; rw [adj_nodup hasc, hpm.nodup_iff] at hm; by_cases hmn : m = xs.length) | (apply R.pure; exact rfl; first | (apply Ok1.lenS; (iterate 3 exact rfl)) | (apply Ok1.lenStr; (iterate 3 exact rfl)) | (apply Ok1.lenMm; (iterate 3 exact rfl); (focus ((repeat' (first | exact At.head | apply At.tail | apply At.right)); done))) | (apply Ok1.lenM_nil; (iterate 3 exact rfl)))) | (apply R.pure; exact rfl; first | (apply Ok1.move; exact rfl) | (apply Ok1.assign; exact rfl))) | (apply R.is0; first | fail) | (apply R.isG; first | (apply R.guard_run; exact rfl; exact rfl) | (apply R.guard_not; (iterate 3 exact rfl)) | (apply R.guard_not0; exact rfl; exact rfl) | (apply R.guard_un; (iterate 3 exact rfl)) | (apply R.guard_un0; exact rfl; exact rfl) | (apply R.guard rfl rfl ?_ (fun h => ⟨rfl, ?_⟩) <;> try intro)) | apply R.nil | (apply T.is; first | apply T.seq | apply T.region | apply T.block | apply T.scope | apply T.label | apply T.skip | apply T.exit | apply T.ret | (apply T.cond_t; exact rfl) | (apply T.cond_f; exact rfl) | (apply T.cond_h; exact rfl; assumption) | (apply T.cond_n; exact rfl; assumption) | (apply T.cond rfl <;> intro)) | apply Rnd.step)
  all_goals (apply RetOk.t; exact rfl)
  all_goals refine ⟨_, Keep.nil _, ?_, rfl⟩
  · rw [decide_eq_false (p := ¬ xs.Nodup) (fun h => h (hm.1 hmn))]
  · rw [decide_eq_true (p := ¬ xs.Nodup) (fun h => hmn (hm.2 h))]
end Go.Proofs.YtplhnkmmhndkjaaGreat
set_option linter.unusedSimpArgs false
set_option linter.unusedVariables false
namespace Go.Proofs.YtplhnkmmhndkjaaGreat
open Go.RowKit Go.Shelf
set_option maxRecDepth 100000
/-- Gossip's cells. -/
def goC (D : List Value) (R P : Value) : List Value := D ++ [R, P]
theorem goC_len {D : List Value} (hD : D.length = 12) (R P : Value) : (goC D R P).length = 14 := by simp [goC, hD]
theorem goC_D {D : List Value} (hD : D.length = 12) (R P : Value) : subE (goC D R P) 0 12 = some D := subE_app _ _ hD
theorem goC_R {D : List Value} (hD : D.length = 12) (R P : Value) : (goC D R P)[12]? = some R := by
  rw [goC, List.getElem?_append_right (by omega), hD]; rfl
theorem goC_P {D : List Value} (hD : D.length = 12) (R P : Value) : (goC D R P)[13]? = some P := by
  rw [goC, List.getElem?_append_right (by omega), hD]; rfl
theorem goC_setP {D : List Value} (hD : D.length = 12) (R P P2 : Value) : setE (goC D R P) 13 [P2] = some (goC D R P2) := by
  have e : ∀ z, goC D R z = (D ++ [R]) ++ ([z] ++ []) := fun z => by simp [goC]
  have hl : (D ++ [R]).length = 13 := by simp [hD]
  rw [e, e, ← hl, setE_mid _ (by simp)]
  simp
theorem build12 {Φ : List Value → Prop} {D : List Value} (hD : D.length = 12) (h : ∀ a b c d e f g i j k l m, Φ [a, b, c, d, e, f, g, i, j, k, l, m]) : Φ D := by
  match D, hD with
  | [a, b, c, d, e, f, g, i, j, k, l, m], _ => exact h a b c d e f g i j k l m
theorem goC_one {D : List Value} (hD1 : D.all Value.oneCell' = true) (p q : Option Addr) (a b c d : Nat) : (goC D (.slice p a b) (.slice q c d)).all Value.oneCell' = true := by
  rw [goC, List.all_append, hD1]
  rfl
end Go.Proofs.YtplhnkmmhndkjaaGreat
set_option linter.unusedSimpArgs false
set_option linter.unusedVariables false
namespace Go.Proofs.YtplhnkmmhndkjaaGreat
open Go.RowKit Go.Shelf
set_option maxRecDepth 100000
theorem gto_ok (xv xp : List Int) (hxv : xv.length = 4) (hxp : xp.length = 8) (pR pP : Option Addr) (cR cP : Nat) (rs : List Rm) (cs : List Cl) (w : World) (hR : RdSl w pR Rm.v rs) (hP : RdSl w pP Cl.v cs) :
    CallM Tryz.prog 5 [.agg ⟨goC (dgV xv xp) (.slice pR rs.length cR) (.slice pP cs.length cP)⟩] [] w fun v L => ∃ ov1 ov2, OvOk 6 ov1 (min rs.length 22) (fl Rm.v (rs.take 22)) ∧ OvOk 4 ov2 (min cs.length 18) (fl Cl.v (cs.take 18)) ∧ v = .agg ⟨goC (dgV xv xp) (.slice (ovp ov1) (min rs.length 22) (ovc ov1 (min rs.length 22))) (.slice (ovp ov2) (min cs.length 18) (ovc ov2 (min cs.length 18)))⟩ ∧ L = blkL 111 ov1 (fl Rm.v (rs.take 22)) ++ blkL 71 ov2 (fl Cl.v (cs.take 18)) := by
  have hD := dg_len hxv hxp
  have hD1 := dg_one xv xp
  have h9 := to9_ok xv xp hxv hxp
  have hto := fun w1 (hc : Chg [] w w1) => to_ok pR cR rs w1 (hR.chg' hc (fun _ => Off.nil _))
  have hpe := fun w1 (hc : Chg [] w w1) => people_ok pP cP cs w1 (hP.chg' hc (fun _ => Off.nil _))
  generalize dgV xv xp = D at *
  have hlen := fun R P => goC_len hD R P
  refine enterK (tb := tb) Tryz.func5 rfl Tryz.ntmps5 rfl ?_
  repeat' (first | (apply R.is1; first | (apply R.box; (iterate 3 exact rfl); intro) | (apply R.alloc; (iterate 3 exact rfl); intro)) | apply R.nil | (apply T.is; first | (apply T.drawC (id := 1) [1] (by decide); ((apply A.take 0; exact rfl; exact rfl; kernel_rfl; kernel_rfl; kernel_rfl; (apply Ok1.fieldAddr; (iterate 5 exact rfl))) <;> (apply A.take 1; exact rfl; exact rfl; kernel_rfl; kernel_rfl; kernel_rfl; (apply Ok1.load; exact rfl; (apply Ld.ownk; exact rfl; exact rfl; exact At.head; exact goC_D hD _ _))) <;> (apply A.take 3; exact rfl; exact rfl; kernel_rfl; kernel_rfl; kernel_rfl; (apply Ok1.fieldAddr; (iterate 5 exact rfl))) <;> (apply A.take 4; exact rfl; exact rfl; kernel_rfl; kernel_rfl; kernel_rfl; (apply Ok1.load; exact rfl; (apply Ld.own1; exact rfl; exact rfl; exact At.head; exact goC_R hD _ _))) <;> (apply A.take 6; exact rfl; exact rfl; kernel_rfl; kernel_rfl; kernel_rfl; (apply Ok1.fieldAddr; (iterate 5 exact rfl))) <;> (apply A.take 7; exact rfl; exact rfl; kernel_rfl; kernel_rfl; kernel_rfl; (apply Ok1.load; exact rfl; (apply Ld.own1; exact rfl; exact rfl; exact At.head; exact goC_P hD _ _))) <;> (apply A.one 2; kernel_rfl; exact rfl; ((apply R.callP rfl rfl rfl h9)); apply R.nil; refine ⟨?_, ?_⟩; (focus ((repeat' (first | exact trivial | (refine ⟨?_, ?_⟩; (focus ((repeat' (first | exact At.head | apply At.tail)); done)))))))) <;> (apply A.one 5; kernel_rfl; exact rfl; (((apply R.callE (vs := [.slice pR rs.length cR]); (iterate 3 exact rfl); exact Ext.none _; intro w1 hw1; exact hto w1 hw1.chg; rintro v Lo ⟨ov1, hov1, rfl, rfl⟩; rw [slV_eq hov1]))); apply R.nil; refine ⟨?_, ?_⟩; (focus ((repeat' (first | exact trivial | (refine ⟨?_, ?_⟩; (focus ((repeat' (first | exact At.head | apply At.tail | apply At.right)); done)))))))) <;> (apply A.one 8; kernel_rfl; exact rfl; (((apply R.callE (vs := [.slice pP cs.length cP]); (iterate 3 exact rfl); exact Ext.none _; intro w1 hw1; exact hpe w1 hw1.chg; rintro v Lo ⟨ov2, hov2, rfl, rfl⟩; rw [slV_eq hov2]))); apply R.nil; refine ⟨?_, ?_⟩; (focus ((repeat' (first | exact trivial | (refine ⟨?_, ?_⟩; (focus ((repeat' (first | exact At.head | apply At.tail | apply At.right)); done)))))))) <;> (apply A.take 9; exact rfl; exact rfl; kernel_rfl; kernel_rfl; kernel_rfl; (apply Ok1.build; (iterate 4 exact rfl); exact build12 (Φ := fun D => fillE _ _ [(0, .agg ⟨D⟩), (1, .slice (ovp ov1) (min rs.length 22) (ovc ov1 (min rs.length 22))), (2, .slice (ovp ov2) (min cs.length 18) (ovc ov2 (min cs.length 18)))] = some (goC D (.slice (ovp ov1) (min rs.length 22) (ovc ov1 (min rs.length 22))) (.slice (ovp ov2) (min cs.length 18) (ovc ov2 (min cs.length 18))))) hD (fun _ _ _ _ _ _ _ _ _ _ _ _ => rfl))) <;> (apply A.one 10; kernel_rfl; exact rfl; (((apply R.store; (iterate 4 exact rfl); exact hlen _ _; exact goC_one hD1 _ _ _ _ _ _; (focus ((repeat' (first | exact Upd.head | apply Upd.right)); done)); exact setE_all (by rw [hlen]; rfl)))); apply R.nil; refine ⟨?_, ?_⟩; (focus ((repeat' (first | exact trivial | (refine ⟨?_, ?_⟩; (focus ((repeat' (first | exact At.head | apply At.tail | apply At.right)); done)))))))) <;> (apply A.done; kernel_rfl))) | apply T.seq | apply T.region | apply T.ret))
  (apply RetOk.c; exact rfl; (apply Ld.ownk; exact rfl; exact rfl; (focus ((repeat' (first | exact At.head | apply At.right)); done)); exact subE_all (hlen _ _)))
  exact ⟨_, by (focus ((repeat' (first | exact Ext.here _ _ | apply Keep.app | apply Keep.last | apply Ext.app)); done)), ov1, ov2, hov1, hov2, rfl, rfl⟩
theorem gof_ok (xv xp : List Int) (hxv : xv.length = 4) (hxp : xp.length = 8) (pR pP : Option Addr) (cR cP : Nat) (rs : List Rm) (cs : List Cl) (hrl : rs.length ≤ 1000) (hcl : cs.length ≤ 1000) (w : World) (hR : RdSl w pR Rm.v rs) (hP : RdSl w pP Cl.v cs) :
    CallM Tryz.prog 6 [.agg ⟨goC (dgV xv xp) (.slice pR rs.length cR) (.slice pP cs.length cP)⟩] [] w fun v L => ∃ ov1 ov2, OvOk 6 ov1 rs.length (fl Rm.v rs) ∧ OvOk 4 ov2 cs.length (fl Cl.v cs) ∧ v = .agg ⟨goC (dgV xv xp) (.slice (ovp ov1) rs.length (ovc ov1 rs.length)) (.slice (ovp ov2) cs.length (ovc ov2 cs.length))⟩ ∧ L = blkL 149 ov1 (fl Rm.v rs) ++ blkL 65 ov2 (fl Cl.v cs) := by
  have hD := dg_len hxv hxp
  have hD1 := dg_one xv xp
  have h9 := of9_ok xv xp hxv hxp
  have hof := fun w1 (hc : Chg [] w w1) => of_ok pR cR rs (by omega) w1 (hR.chg' hc (fun _ => Off.nil _))
  generalize dgV xv xp = D at *
  have hlen := fun R P => goC_len hD R P
  refine enterK (tb := tb) Tryz.func6 rfl Tryz.ntmps6 rfl ?_
  repeat' (first | (apply R.is1; first | (apply R.pure; exact rfl; (apply Ok1.assign; exact rfl)) | (apply R.box; (iterate 3 exact rfl); intro) | (apply R.alloc; (iterate 3 exact rfl); intro)) | apply R.nil | (apply T.is; first | (apply T.drawC (id := 1) [1] (by decide); ((apply A.take 0; exact rfl; exact rfl; kernel_rfl; kernel_rfl; kernel_rfl; (apply Ok1.fieldAddr; (iterate 5 exact rfl))) <;> (apply A.take 1; exact rfl; exact rfl; kernel_rfl; kernel_rfl; kernel_rfl; (apply Ok1.load; exact rfl; (apply Ld.ownk; exact rfl; exact rfl; exact At.head; exact goC_D hD _ _))) <;> (apply A.take 3; exact rfl; exact rfl; kernel_rfl; kernel_rfl; kernel_rfl; (apply Ok1.fieldAddr; (iterate 5 exact rfl))) <;> (apply A.take 4; exact rfl; exact rfl; kernel_rfl; kernel_rfl; kernel_rfl; (apply Ok1.load; exact rfl; (apply Ld.own1; exact rfl; exact rfl; exact At.head; exact goC_R hD _ _))) <;> (apply A.two 2 7; kernel_rfl; exact rfl; exact rfl; rotate_left 1; (focus (((((apply R.alloc; (iterate 3 exact rfl); intro))); apply R.nil; refine ⟨?_, ?_⟩; (focus ((repeat' (first | exact trivial | (refine ⟨?_, ?_⟩; (focus ((repeat' (first | exact At.head | apply At.tail)); done)))))))) <;> (apply A.one 2; kernel_rfl; exact rfl; ((apply R.callP rfl rfl rfl h9)); apply R.nil; refine ⟨?_, ?_⟩; (focus ((repeat' (first | exact trivial | (refine ⟨?_, ?_⟩; (focus ((repeat' (first | exact At.head | apply At.tail)); done)))))))) <;> (apply A.one 5; kernel_rfl; exact rfl; (((apply R.callE (vs := [.slice pR rs.length cR]); (iterate 3 exact rfl); exact Ext.none _; intro w1 hw1; exact hof w1 hw1.chg; rintro v Lo ⟨ov1, hov1, rfl, rfl⟩; rw [slV_eq hov1]))); apply R.nil; refine ⟨?_, ?_⟩; (focus ((repeat' (first | exact trivial | (refine ⟨?_, ?_⟩; (focus ((repeat' (first | exact At.head | apply At.tail | apply At.right)); done)))))))) <;> (apply A.take 6; exact rfl; exact rfl; kernel_rfl; kernel_rfl; kernel_rfl; (apply Ok1.build; (iterate 4 exact rfl); exact build12 (Φ := fun D => fillE _ _ [(0, .agg ⟨D⟩), (1, .slice (ovp ov1) rs.length (ovc ov1 rs.length))] = some (goC D (.slice (ovp ov1) rs.length (ovc ov1 rs.length)) (.slice none 0 0))) hD (fun _ _ _ _ _ _ _ _ _ _ _ _ => rfl))) <;> (apply A.one 8; kernel_rfl; exact rfl; (((apply R.store; (iterate 4 exact rfl); exact hlen _ _; exact goC_one hD1 _ _ _ _ _ _; (focus ((repeat' (first | exact Upd.head | apply Upd.right)); done)); exact setE_all (by rw [hlen]; rfl)))); apply R.nil; refine ⟨?_, ?_⟩; (focus ((repeat' (first | exact trivial | (refine ⟨?_, ?_⟩; (focus ((repeat' (first | exact At.head | apply At.tail | apply At.right)); done)))))))) <;> (apply A.done; kernel_rfl))); rotate_right 1; (focus ((((apply R.callP rfl rfl rfl h9)); apply R.nil; refine ⟨?_, ?_⟩; (focus ((repeat' (first | exact trivial | (refine ⟨?_, ?_⟩; (focus ((repeat' (first | exact At.head | apply At.tail)); done)))))))) <;> (apply A.two 5 7; kernel_rfl; exact rfl; exact rfl; rotate_left 1; (focus (((((apply R.alloc; (iterate 3 exact rfl); intro))); apply R.nil; refine ⟨?_, ?_⟩; (focus ((repeat' (first | exact trivial | (refine ⟨?_, ?_⟩; (focus ((repeat' (first | exact At.head | apply At.tail)); done)))))))) <;> (apply A.one 5; kernel_rfl; exact rfl; (((apply R.callE (vs := [.slice pR rs.length cR]); (iterate 3 exact rfl); exact Ext.none _; intro w1 hw1; exact hof w1 hw1.chg; rintro v Lo ⟨ov1, hov1, rfl, rfl⟩; rw [slV_eq hov1]))); apply R.nil; refine ⟨?_, ?_⟩; (focus ((repeat' (first | exact trivial | (refine ⟨?_, ?_⟩; (focus ((repeat' (first | exact At.head | apply At.tail | apply At.right)); done)))))))) <;> (apply A.take 6; exact rfl; exact rfl; kernel_rfl; kernel_rfl; kernel_rfl; (apply Ok1.build; (iterate 4 exact rfl); exact build12 (Φ := fun D => fillE _ _ [(0, .agg ⟨D⟩), (1, .slice (ovp ov1) rs.length (ovc ov1 rs.length))] = some (goC D (.slice (ovp ov1) rs.length (ovc ov1 rs.length)) (.slice none 0 0))) hD (fun _ _ _ _ _ _ _ _ _ _ _ _ => rfl))) <;> (apply A.one 8; kernel_rfl; exact rfl; (((apply R.store; (iterate 4 exact rfl); exact hlen _ _; exact goC_one hD1 _ _ _ _ _ _; (focus ((repeat' (first | exact Upd.head | apply Upd.right)); done)); exact setE_all (by rw [hlen]; rfl)))); apply R.nil; refine ⟨?_, ?_⟩; (focus ((repeat' (first | exact trivial | (refine ⟨?_, ?_⟩; (focus ((repeat' (first | exact At.head | apply At.tail | apply At.right)); done)))))))) <;> (apply A.done; kernel_rfl))); rotate_right 1; (focus (((((apply R.callE (vs := [.slice pR rs.length cR]); (iterate 3 exact rfl); exact Ext.none _; intro w1 hw1; exact hof w1 hw1.chg; rintro v Lo ⟨ov1, hov1, rfl, rfl⟩; rw [slV_eq hov1]))); apply R.nil; refine ⟨?_, ?_⟩; (focus ((repeat' (first | exact trivial | (refine ⟨?_, ?_⟩; (focus ((repeat' (first | exact At.head | apply At.tail | apply At.right)); done)))))))) <;> (apply A.take 6; exact rfl; exact rfl; kernel_rfl; kernel_rfl; kernel_rfl; (apply Ok1.build; (iterate 4 exact rfl); exact build12 (Φ := fun D => fillE _ _ [(0, .agg ⟨D⟩), (1, .slice (ovp ov1) rs.length (ovc ov1 rs.length))] = some (goC D (.slice (ovp ov1) rs.length (ovc ov1 rs.length)) (.slice none 0 0))) hD (fun _ _ _ _ _ _ _ _ _ _ _ _ => rfl))) <;> (apply A.one 7; kernel_rfl; exact rfl; (((apply R.alloc; (iterate 3 exact rfl); intro))); apply R.nil; refine ⟨?_, ?_⟩; (focus ((repeat' (first | exact trivial | (refine ⟨?_, ?_⟩; (focus ((repeat' (first | exact At.head | apply At.tail | apply At.right)); done)))))))) <;> (apply A.one 8; kernel_rfl; exact rfl; (((apply R.store; (iterate 4 exact rfl); exact hlen _ _; exact goC_one hD1 _ _ _ _ _ _; exact Upd.head; exact setE_all (by rw [hlen]; rfl)))); apply R.nil; refine ⟨?_, ?_⟩; (focus ((repeat' (first | exact trivial | (refine ⟨?_, ?_⟩; (focus ((repeat' (first | exact At.head | apply At.tail | apply At.right)); done)))))))) <;> (apply A.done; kernel_rfl))))))))) | apply T.seq | apply T.region | apply T.block))
  all_goals
    rename_i bA bB bC
    generalize hM : blkL 149 ov1 (fl Rm.v rs) = M at *
    apply T.loopK (α := Nat × Ov) (I := fun y => y.1 ≤ cs.length ∧ OvOk 4 y.2 y.1 (fl Cl.v (cs.take y.1))) (σi := fun y => [(1, .pointer (some ⟨bA, 0, none⟩)), (2, .pointer (some ⟨bB, 0, none⟩)), (3, .pointer (some ⟨bC, 0, none⟩)), (4, .int .i64 y.1)]) (Li := fun y => (bA, .cells ⟨goC D (.slice pR rs.length cR) (.slice pP cs.length cP)⟩ 38 (0, 0)) :: (bC, .cells ⟨goC D (.slice (ovp ov1) rs.length (ovc ov1 rs.length)) (.slice (ovp y.2) y.1 (ovc y.2 y.1))⟩ 29 (0, 0)) :: (bB, .cells ⟨goC (dgV [0, 0, 0, 0] [0, 0, 0, 0, 0, 0, 0, 0]) (.slice none 0 0) (.slice none 0 0)⟩ 29 (0, 0)) :: (M ++ blkL 65 y.2 (fl Cl.v (cs.take y.1)))) (μ := fun y => cs.length - y.1) (i0 := (0, none))
    · exact ⟨Nat.zero_le _, OvOk.start 4⟩
    · exact ⟨rfl, rfl, rfl, rfl, trivial⟩
    · (focus ((repeat' (first | exact Keep.nil _ | exact Ext.one _ _ | exact Ext.here _ _ | apply Keep.cons | apply Keep.app | apply Ext.cons | apply Ext.app)); done))
    · rintro ⟨i, ov⟩ ⟨hi, hov⟩
      simp only at hi hov ⊢
      rcases Nat.lt_or_ge i cs.length with hlt | hge
      · obtain ⟨r, hr⟩ : ∃ r, cs[i]? = some r := ⟨_, List.getElem?_eq_getElem (by omega)⟩
        obtain ⟨b, o, hpe, H⟩ := hP.at hr
        replace H := H 4 Cl.v_len4
        have hgP := goC_P hD (.slice (ovp ov1) rs.length (ovc ov1 rs.length)) (.slice (ovp ov) i (ovc ov i))
        rw [← slV_eq hov] at hgP ⊢
        repeat' (first | (apply R.is1; first | (apply R.isBin; (apply R.pure; exact rfl; first | (apply Ok1.add64; exact rfl; exact rfl; omega; omega) | (apply Ok1.lss_t; exact rfl; exact rfl; omega))) | (apply R.isCall; (apply R.pure; exact rfl; (apply Ok1.lenS; (iterate 3 exact rfl)))) | (apply R.pure; exact rfl; first | (apply Ok1.load; exact rfl; (apply Ld.own1; exact rfl; exact rfl; exact At.head; exact goC_P hD _ _)) | (apply Ok1.move; exact rfl) | (apply Ok1.fieldAddr; (iterate 5 exact rfl)) | (apply Ok1.assign; exact rfl))) | apply R.nil | (apply T.is; first | (apply T.drawC (id := 5) [0] (by decide); ((apply A.take 0; exact rfl; exact rfl; kernel_rfl; kernel_rfl; kernel_rfl; (apply Ok1.fieldAddr; (iterate 5 exact rfl))) <;> (apply A.take 2; exact rfl; exact rfl; kernel_rfl; kernel_rfl; kernel_rfl; (apply Ok1.fieldAddr; (iterate 5 exact rfl))) <;> (apply A.take 3; exact rfl; exact rfl; kernel_rfl; kernel_rfl; kernel_rfl; (apply Ok1.load; exact rfl; (apply Ld.own1; exact rfl; exact rfl; exact At.head; exact goC_P hD _ _))) <;> (apply A.take 4; exact rfl; exact rfl; kernel_rfl; kernel_rfl; kernel_rfl; (apply Ok1.move; exact rfl)) <;> (apply A.take 5; exact rfl; exact rfl; kernel_rfl; kernel_rfl; kernel_rfl; (apply Ok1.indexAddrP; (iterate 4 exact rfl); exact hpe; exact rfl; omega; omega)) <;> (apply A.take 6; exact rfl; exact rfl; kernel_rfl; kernel_rfl; kernel_rfl; (apply Ok1.load; exact rfl; (apply Ld.rowk0 H; exact rfl; exact List.not_mem_nil; (iterate 3 exact rfl)))) <;> (apply A.two 1 7; kernel_rfl; exact rfl; exact rfl; rotate_left 1; (focus ((((apply R.callP rfl rfl rfl (of5_ok _ _ _ _))); apply R.nil; refine ⟨?_, ?_⟩; (focus ((repeat' (first | exact trivial | (refine ⟨?_, ?_⟩; exact At.head)))))) <;> (apply A.two 1 8; kernel_rfl; exact rfl; exact rfl; rotate_left 1; (focus (((((apply R.buildSlice; (iterate 12 exact rfl); intro))); apply R.nil; refine ⟨?_, ?_⟩; (focus ((repeat' (first | exact trivial | (refine ⟨?_, ?_⟩; (focus ((repeat' (first | exact At.head | apply At.tail)); done)))))))) <;> (apply A.one 1; kernel_rfl; exact rfl; (((apply R.pure; exact rfl; (apply Ok1.load; exact rfl; (apply Ld.own1; exact rfl; exact rfl; (focus ((repeat' (first | exact At.head | apply At.tail)); done)); exact hgP))))); apply R.nil; refine ⟨?_, ?_⟩; (focus ((repeat' (first | exact trivial | (refine ⟨?_, ?_⟩; (focus ((repeat' (first | exact At.head | apply At.tail)); done)))))))) <;> (apply A.one 9; kernel_rfl; exact rfl; (((apply R.append1; (iterate 12 exact rfl); (focus ((repeat' (first | exact OwnAt.base hov | apply OwnAt.tail | apply OwnAt.right)); done)); exact At.head; exact rfl; exact rfl; omega; omega; intro b2 j2 k2 hj2))); apply R.nil; refine ⟨?_, ?_⟩; (focus ((repeat' (first | exact trivial | (refine ⟨?_, ?_⟩; (focus ((repeat' (first | exact At.head | apply At.tail)); done)))))))) <;> (apply A.take 10; exact rfl; exact rfl; kernel_rfl; kernel_rfl; kernel_rfl; (apply Ok1.fieldAddr; (iterate 5 exact rfl))) <;> (apply A.one 11; kernel_rfl; exact rfl; (((apply R.store; (iterate 6 exact rfl); (focus ((repeat' (first | exact Upd.head | apply Upd.tail)); done)); exact goC_setP hD _ _ _))); apply R.nil; refine ⟨?_, ?_⟩; (focus ((repeat' (first | exact trivial | (refine ⟨?_, ?_⟩; (focus ((repeat' (first | exact At.head | apply At.tail)); done)))))))) <;> (apply A.done; kernel_rfl))); rotate_right 1; (focus (((((apply R.pure; exact rfl; (apply Ok1.load; exact rfl; (apply Ld.own1; exact rfl; exact rfl; (focus ((repeat' (first | exact At.head | apply At.tail)); done)); exact hgP))))); apply R.nil; refine ⟨?_, ?_⟩; (focus ((repeat' (first | exact trivial | (refine ⟨?_, ?_⟩; exact At.head)))))) <;> (apply A.one 8; kernel_rfl; exact rfl; (((apply R.buildSlice; (iterate 12 exact rfl); intro))); apply R.nil; refine ⟨?_, ?_⟩; (focus ((repeat' (first | exact trivial | (refine ⟨?_, ?_⟩; (focus ((repeat' (first | exact At.head | apply At.tail)); done)))))))) <;> (apply A.one 9; kernel_rfl; exact rfl; (((apply R.append1; (iterate 12 exact rfl); (focus ((repeat' (first | exact OwnAt.base hov | apply OwnAt.tail | apply OwnAt.right)); done)); exact At.head; exact rfl; exact rfl; omega; omega; intro b2 j2 k2 hj2))); apply R.nil; refine ⟨?_, ?_⟩; (focus ((repeat' (first | exact trivial | (refine ⟨?_, ?_⟩; (focus ((repeat' (first | exact At.head | apply At.tail)); done)))))))) <;> (apply A.take 10; exact rfl; exact rfl; kernel_rfl; kernel_rfl; kernel_rfl; (apply Ok1.fieldAddr; (iterate 5 exact rfl))) <;> (apply A.one 11; kernel_rfl; exact rfl; (((apply R.store; (iterate 6 exact rfl); (focus ((repeat' (first | exact Upd.head | apply Upd.tail)); done)); exact goC_setP hD _ _ _))); apply R.nil; refine ⟨?_, ?_⟩; (focus ((repeat' (first | exact trivial | (refine ⟨?_, ?_⟩; (focus ((repeat' (first | exact At.head | apply At.tail)); done)))))))) <;> (apply A.done; kernel_rfl)))))); rotate_right 1; (focus (((((apply R.pure; exact rfl; (apply Ok1.load; exact rfl; (apply Ld.own1; exact rfl; exact rfl; (focus ((repeat' (first | exact At.head | apply At.tail)); done)); exact hgP))))); apply R.nil; refine ⟨?_, ?_⟩; (focus ((repeat' (first | exact trivial | (refine ⟨?_, ?_⟩; exact At.head)))))) <;> (apply A.one 7; kernel_rfl; exact rfl; ((apply R.callP rfl rfl rfl (of5_ok _ _ _ _))); apply R.nil; refine ⟨?_, ?_⟩; (focus ((repeat' (first | exact trivial | (refine ⟨?_, ?_⟩; exact At.head)))))) <;> (apply A.one 8; kernel_rfl; exact rfl; (((apply R.buildSlice; (iterate 12 exact rfl); intro))); apply R.nil; refine ⟨?_, ?_⟩; (focus ((repeat' (first | exact trivial | (refine ⟨?_, ?_⟩; (focus ((repeat' (first | exact At.head | apply At.tail)); done)))))))) <;> (apply A.one 9; kernel_rfl; exact rfl; (((apply R.append1; (iterate 12 exact rfl); (focus ((repeat' (first | exact OwnAt.base hov | apply OwnAt.tail | apply OwnAt.right)); done)); exact At.head; exact rfl; exact rfl; omega; omega; intro b2 j2 k2 hj2))); apply R.nil; refine ⟨?_, ?_⟩; (focus ((repeat' (first | exact trivial | (refine ⟨?_, ?_⟩; (focus ((repeat' (first | exact At.head | apply At.tail)); done)))))))) <;> (apply A.take 10; exact rfl; exact rfl; kernel_rfl; kernel_rfl; kernel_rfl; (apply Ok1.fieldAddr; (iterate 5 exact rfl))) <;> (apply A.one 11; kernel_rfl; exact rfl; (((apply R.store; (iterate 6 exact rfl); (focus ((repeat' (first | exact Upd.head | apply Upd.tail)); done)); exact goC_setP hD _ _ _))); apply R.nil; refine ⟨?_, ?_⟩; (focus ((repeat' (first | exact trivial | (refine ⟨?_, ?_⟩; (focus ((repeat' (first | exact At.head | apply At.tail)); done)))))))) <;> (apply A.done; kernel_rfl)))))) | apply T.seq | apply T.region | apply T.block | apply T.skip | (apply T.cond_t; exact rfl)))
        all_goals refine ⟨(i + 1, some (b2, j2, k2)), ⟨by simp only; omega, ?_⟩, by simp only; omega, ⟨rfl, rfl, rfl, rfl, trivial⟩, ?_⟩
        all_goals simp only [fl_take hr]
        all_goals first
          | exact hov.some rfl hj2
          | (simp only [ovp, ovc, blkL]; (focus ((repeat' (first | exact Keep.nil _ | exact Ext.one _ _ | exact Ext.here _ _ | apply Keep.cons | apply Keep.app | apply Ext.cons)); done)))
      · have hm : i = cs.length := by omega
        subst hm
        rw [List.take_length] at hov ⊢
        repeat' (first | (apply R.is1; first | (apply R.isBin; (apply R.pure; exact rfl; (apply Ok1.lss_f; exact rfl; exact rfl; omega))) | (apply R.isCall; (apply R.pure; exact rfl; (apply Ok1.lenS; (iterate 3 exact rfl)))) | (apply R.pure; exact rfl; first | (apply Ok1.load; exact rfl; first | (apply Ld.ownk; exact rfl; exact rfl; (focus ((repeat' (first | exact At.head | apply At.tail)); done)); exact subE_all (hlen _ _)) | (apply Ld.own1; exact rfl; exact rfl; exact At.head; exact goC_P hD _ _)) | (apply Ok1.move; exact rfl) | (apply Ok1.fieldAddr; (iterate 5 exact rfl)))) | (apply R.is0; (apply R.store; (iterate 4 exact rfl); exact hlen _ _; exact goC_one hD1 _ _ _ _ _ _; (focus ((repeat' (first | exact Upd.head | apply Upd.tail)); done)); exact setE_all (by rw [hlen]; rfl))) | apply R.nil | (apply T.is; first | apply T.seq | apply T.region | apply T.exit | apply T.ret | (apply T.cond_f; exact rfl)))
        (apply RetOk.c; exact rfl; (apply Ld.ownk; exact rfl; exact rfl; (focus ((repeat' (first | exact At.head | apply At.tail)); done)); exact subE_all (hlen _ _)))
        exact ⟨M ++ blkL 65 ov (fl Cl.v cs), by (focus ((repeat' (first | exact Ext.here _ _ | exact Ext.all _ | apply Keep.app | apply Keep.last | apply Ext.cons)); done)), ov1, ov, hov1, hov, rfl, by rw [hM]⟩
end Go.Proofs.YtplhnkmmhndkjaaGreat
