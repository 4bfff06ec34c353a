/- Texts of the proof: Sv3, Sv6, Sv7, Sv8, Lsy. -/
import Derived.Test.YtplhnkmmhndkjaaGreatL25cb5
set_option linter.unusedSimpArgs false
set_option linter.unusedVariables false
namespace Go.Proofs.YtplhnkmmhndkjaaGreat
open Go.RowKit Go.Shelf
set_option pp.deepTerms.threshold 8
set_option maxRecDepth 100000
def DVL (bd : Nat) (own : Cl) (ov : Ov) (dl : List Cl) : Lst := (bd, .cells ⟨[.int .i64 own.id, .int .i64 own.roles, .int .i64 own.exp, .int .i64 own.ser, slV ov dl.length]⟩ 76 (0, 0)) :: blkL 88 ov (fl evC dl)
def vpos (dl : List Cl) (id : Int) : Int := match dl.findIdx? fun x => decide (x.id = id) with | some i => (i : Int) | none => -1
theorem vpos_at {dl : List Cl} {id : Int} {i : Nat} {x : Cl} (hp : ∀ y ∈ dl.take i, y.id ≠ id) (hx : dl[i]? = some x) (he : x.id = id) : vpos dl id = i := by
  obtain ⟨hlt, hxe⟩ := List.getElem?_eq_some_iff.1 hx
  have : dl.findIdx? (fun x => decide (x.id = id)) = some i := by
    rw [List.findIdx?_eq_some_iff_getElem]
    refine ⟨hlt, by simp [hxe, he], fun j hj => ?_⟩
    have := hp dl[j] (List.mem_take_iff_getElem.2 ⟨j, by omega, rfl⟩)
    simpa using this
  unfold vpos
  rw [this]
theorem vpos_none {dl : List Cl} {id : Int} (hp : ∀ y ∈ dl, y.id ≠ id) : vpos dl id = -1 := by
  have : dl.findIdx? (fun x => decide (x.id = id)) = none := by
    rw [List.findIdx?_eq_none_iff]
    intro x hx
    simpa using hp x hx
  unfold vpos
  rw [this]
theorem vpos_find {dl : List Cl} {id : Int} : (vfind dl id = none ∧ vpos dl id = -1) ∨ ∃ (i : Nat) (h : Cl), dl[i]? = some h ∧ h.id = id ∧ vfind dl id = some h ∧ vpos dl id = i := by
  cases hf : dl.findIdx? fun x => decide (x.id = id) with
  | none =>
    left
    refine ⟨?_, by unfold vpos; rw [hf]⟩
    unfold vfind
    rw [List.find?_eq_none]
    intro x hx
    simpa using List.findIdx?_eq_none_iff.1 hf x hx
  | some i =>
    right
    obtain ⟨hlt, h1, h2⟩ := List.findIdx?_eq_some_iff_getElem.1 hf
    refine ⟨i, dl[i], List.getElem?_eq_getElem hlt, by simpa using h1, ?_, by unfold vpos; rw [hf]⟩
    unfold vfind
    rw [List.find?_eq_some_iff_getElem]
    exact ⟨h1, i, hlt, rfl, fun j hj => by have := h2 j hj; simpa using this⟩
theorem setE_rowV {f : Cl → List Value} {sz : Nat} (hv : ∀ a, (f a).length = sz) {dl : List Cl} {i : Nat} {h : Cl} (c : Cl) (hi : dl[i]? = some h) (junk : List Value) : setE (fl f dl ++ junk) (i * sz) (f c) = some (fl f (dl.set i c) ++ junk) := by
  obtain ⟨hlt, he⟩ := List.getElem?_eq_some_iff.1 hi
  have h1 : dl = dl.take i ++ (h :: dl.drop (i + 1)) := by rw [← he, List.getElem_cons_drop, List.take_append_drop]
  have h2 : dl.set i c = dl.take i ++ (c :: dl.drop (i + 1)) := by rw [List.set_eq_take_append_cons_drop, if_pos hlt]
  have h3 : fl f dl ++ junk = fl f (dl.take i) ++ (f h ++ (fl f (dl.drop (i + 1)) ++ junk)) := by
    conv => lhs; rw [h1]
    simp [fl]
  have h4 : fl f (dl.set i c) ++ junk = fl f (dl.take i) ++ (f c ++ (fl f (dl.drop (i + 1)) ++ junk)) := by
    rw [h2]
    simp [fl]
  have h5 : (fl f (dl.take i)).length = i * sz := by rw [fl_len hv, List.length_take, Nat.min_eq_left (by omega)]
  rw [h3, h4, ← h5, setE_mid _ (by rw [hv]; simp [hv])]
  have h6 : (f c).length = (f h).length := by rw [hv, hv]
  rw [h6, List.drop_left, List.append_assoc]
theorem vset_set {dl : List Cl} {i : Nat} {h c : Cl} (hs : dl.Pairwise fun a b => a.id < b.id) (hi : dl[i]? = some h) (he : h.id = c.id) : vset dl c = dl.set i c := by
  obtain ⟨hlt, hxe⟩ := List.getElem?_eq_some_iff.1 hi
  apply List.ext_getElem
  · simp [vset]
  · intro j h1 h2
    have hj : j < dl.length := by simpa [vset] using h1
    simp only [vset, List.getElem_map, List.getElem_set]
    by_cases hji : i = j
    · subst hji; rw [if_pos (by rw [hxe]; exact he), if_pos rfl]
    · have hne : ¬ dl[j].id = c.id := by
        intro e
        rcases Nat.lt_or_gt_of_ne hji with hlt2 | hgt2
        · have := (List.pairwise_iff_getElem.1 hs) i j hlt hj hlt2
          rw [hxe] at this; omega
        · have := (List.pairwise_iff_getElem.1 hs) j i hj hlt hgt2
          rw [hxe] at this; omega
      rw [if_neg hne, if_neg hji]
theorem vins_put {c x : Cl} : ∀ {l : List Cl}, (∃ y ∈ l, c.id < y.id) → vins (l ++ [x]) c = vins l c ++ [x]
  | [], h => by simp at h
  | y :: r, h => by
    simp only [List.cons_append, vins]
    split
    · rfl
    · rename_i hy
      have : ∃ y ∈ r, c.id < y.id := by
        obtain ⟨z, hz, hlt⟩ := h
        rcases List.mem_cons.1 hz with rfl | hz
        · exact absurd hlt hy
        · exact ⟨z, hz, hlt⟩
      rw [vins_put this]
      rfl
theorem vins_end {c : Cl} : ∀ {l : List Cl}, (∀ y ∈ l, ¬ c.id < y.id) → vins l c = l ++ [c]
  | [], _ => rfl
  | y :: r, h => by
    simp only [vins]
    rw [if_neg (h y List.mem_cons_self), vins_end fun z hz => h z (List.mem_cons_of_mem _ hz)]
    rfl
theorem vins_new {c x : Cl} (hx : c.id < x.id) : ∀ {l : List Cl}, (∀ y ∈ l, ¬ c.id < y.id) → vins (l ++ [x]) c = l ++ [c] ++ [x]
  | [], _ => by simp [vins, hx]
  | y :: r, h => by
    simp only [List.cons_append, vins]
    rw [if_neg (h y List.mem_cons_self), vins_new hx fun z hz => h z (List.mem_cons_of_mem _ hz)]
    done
theorem dfind_ok (bd : Nat) (own : Cl) (ov : Ov) (dl : List Cl) (hov : OvOk 8 ov dl.length (fl evC dl)) (hl : dl.length ≤ 1000) (id : Int) (w : World) : CallM Tryz.prog 60 [.pointer (some ⟨bd, 0, none⟩), .int .i64 id] (DVL bd own ov dl) w fun v L => v = .int .i64 (vpos dl id) ∧ L = DVL bd own ov dl := by
  cases ov with
  | none =>
    have h0 : dl = [] := List.eq_nil_of_length_eq_zero hov.2
    subst h0
    refine enterK (tb := tb) Tryz.func60 rfl Tryz.ntmps60 rfl ?_
    simp only [DVL, slV, blkL]
    repeat' (first | (apply R.is1; first | (apply R.isBin; (apply R.pure; exact rfl; (apply Ok1.lss_f; exact rfl; exact rfl; omega))) | (apply R.isCall; (apply R.pure; exact rfl; (apply Ok1.lenS; (iterate 3 exact rfl)))) | (apply R.pure; exact rfl; first | (apply Ok1.move; exact rfl) | (apply Ok1.fieldAddr; (iterate 5 exact rfl)) | (apply Ok1.load; exact rfl; (apply Ld.own1; exact rfl; exact rfl; exact At.head; exact rfl)) | (apply Ok1.assign; exact rfl) | (apply Ok1.nilCheck; exact rfl))) | apply R.nil | (apply T.is; first | apply T.rounds 1 | apply T.seq | apply T.region | apply T.block | apply T.exit | apply T.ret | (apply T.cond_f; exact rfl)))
    (apply RetOk.t; exact rfl)
    exact ⟨_, by (focus ((repeat' (first | exact Keep.nil _ | exact Ext.one _ _ | apply Keep.cons)); done)), rfl, rfl⟩
  | some q =>
    obtain ⟨b, j, junk⟩ := q
    refine enterK (tb := tb) Tryz.func60 rfl Tryz.ntmps60 rfl ?_
    simp only [DVL, slV, blkL]
    repeat' (first | (apply R.is1; (apply R.pure; exact rfl; (apply Ok1.assign; exact rfl))) | apply R.nil | (apply T.is; first | apply T.seq | apply T.region | apply T.block))
    apply T.loopK (α := Nat) (I := fun i => i ≤ dl.length ∧ ∀ y ∈ dl.take i, y.id ≠ id) (σi := fun i => [(0, .pointer (some ⟨bd, 0, none⟩)), (1, .int .i64 id), (5, .int .i64 i)]) (Li := fun _ => (bd, .cells ⟨[.int .i64 own.id, .int .i64 own.roles, .int .i64 own.exp, .int .i64 own.ser, .slice (some ⟨b, 0, none⟩) dl.length (dl.length + j)]⟩ 76 (0, 0)) :: [(b, .cells ⟨fl evC dl ++ junk⟩ 88 (0, 0))]) (μ := fun i => dl.length - i) (i0 := 0)
    · exact ⟨Nat.zero_le _, by simp⟩
    · exact ⟨rfl, rfl, rfl, trivial⟩
    · (focus ((repeat' (first | exact Keep.nil _ | exact Ext.one _ _ | apply Keep.cons)); done))
    · rintro i ⟨hi, hno⟩
      rcases Nat.lt_or_ge i dl.length with hlt | hge
      · obtain ⟨x, hx⟩ : ∃ x, dl[i]? = some x := ⟨_, List.getElem?_eq_getElem (by omega)⟩
        repeat' (first | (apply R.is1; first | (apply R.isBin; first | (apply R.pure; exact rfl; first | (apply Ok1.add64; exact rfl; exact rfl; omega; omega) | (apply Ok1.lss_t; exact rfl; exact rfl; omega)) | (apply R.eql rfl rfl rfl <;> intro)) | (apply R.isCall; (apply R.pure; exact rfl; (apply Ok1.lenS; (iterate 3 exact rfl)))) | (apply R.pure; exact rfl; first | (apply Ok1.load; exact rfl; (apply Ld.ownrow1 (f := 0); (focus ((repeat' (first | exact At.head | apply At.tail)); done)); exact evC_len; exact hx; (focus ((simp; done))); (iterate 3 exact rfl))) | (apply Ok1.move; exact rfl) | (apply Ok1.fieldAddr; (iterate 5 exact rfl)) | (apply Ok1.load; exact rfl; (apply Ld.own1; exact rfl; exact rfl; exact At.head; exact rfl)) | (apply Ok1.assign; exact rfl) | (apply Ok1.indexAddr; (iterate 5 exact rfl); omega; omega) | (apply Ok1.nilCheck; exact rfl))) | apply R.nil | (apply T.is; first | apply T.seq | apply T.region | apply T.block | apply T.skip | apply T.ret | (apply T.cond_t; exact rfl) | (apply T.cond_f; exact rfl)))
        · (apply RetOk.t; exact rfl)
          refine ⟨_, by (focus ((repeat' (first | exact Keep.nil _ | exact Ext.one _ _ | apply Keep.cons)); done)), ?_, rfl⟩
          rw [vpos_at hno hx ‹_›]
        · refine ⟨i + 1, ⟨by omega, fun y hy => ?_⟩, by omega, ⟨rfl, rfl, rfl, trivial⟩, by (focus ((repeat' (first | exact Keep.nil _ | exact Ext.one _ _ | apply Keep.cons)); done))⟩
          rw [List.take_add_one, hx] at hy
          rcases List.mem_append.1 hy with h | h
          · exact hno y h
          · simp only [Option.toList, List.mem_singleton] at h
            rw [h]; assumption
      · have him : i = dl.length := by omega
        subst him
        rw [List.take_length] at hno
        repeat' (first | (apply R.is1; first | (apply R.isBin; (apply R.pure; exact rfl; (apply Ok1.lss_f; exact rfl; exact rfl; omega))) | (apply R.isCall; (apply R.pure; exact rfl; (apply Ok1.lenS; (iterate 3 exact rfl)))) | (apply R.pure; exact rfl; first | (apply Ok1.move; exact rfl) | (apply Ok1.fieldAddr; (iterate 5 exact rfl)) | (apply Ok1.load; exact rfl; (apply Ld.own1; exact rfl; exact rfl; exact At.head; exact rfl)) | (apply Ok1.assign; exact rfl) | (apply Ok1.nilCheck; exact rfl))) | apply R.nil | (apply T.is; first | apply T.seq | apply T.region | apply T.exit | apply T.ret | (apply T.cond_f; exact rfl)))
        (apply RetOk.t; exact rfl)
        refine ⟨_, by (focus ((repeat' (first | exact Keep.nil _ | exact Ext.one _ _ | apply Keep.cons)); done)), ?_, rfl⟩
        rw [vpos_none hno]
def insP (l : List Cl) (c : Cl) : Bool := l.any fun y => decide (c.id < y.id)
def insA (l : List Cl) (c : Cl) : List Cl := if insP l c = true then vins l c else l
theorem insP_t {l : List Cl} {c : Cl} (h : insP l c = true) : ∃ y ∈ l, c.id < y.id := by simpa [insP] using h
theorem insP_f {l : List Cl} {c : Cl} (h : insP l c = false) : ∀ y ∈ l, ¬ c.id < y.id := by
  intro y hy
  have := h
  simp only [insP, List.any_eq_false] at this
  simpa using this y hy
theorem dadd_ok (bd : Nat) (own : Cl) (ov : Ov) (dl : List Cl) (hov : OvOk 8 ov dl.length (fl evC dl)) (hl : dl.length ≤ 16) (hs : dl.Pairwise fun a b => a.id < b.id) (c : Cl) (w : World) : CallM Tryz.prog 26 [.pointer (some ⟨bd, 0, none⟩), kvC c, .int .i64 0] (DVL bd own ov dl) w fun v L => ∃ ov', OvOk 8 ov' (vadd own dl c).length (fl evC (vadd own dl c)) ∧ L = DVL bd own ov' (vadd own dl c) := by
  have hrg := right_ok c.id c.roles c.exp c.ser
  have hdf := fun w1 => dfind_ok bd own ov dl hov (by omega) c.id w1
  by_cases hr : c.right
  case neg =>
    rw [decide_eq_false (p := Cl.right ⟨c.id, c.roles, c.exp, c.ser⟩) hr] at hrg
    have hv : vadd own dl c = dl := by unfold vadd; rw [if_pos (.inl hr)]
    rw [hv]
    refine enterK (tb := tb) Tryz.func26 rfl Tryz.ntmps26 rfl ?_
    simp only [kvC]
    repeat' (first | (apply R.is1; first | (apply R.isCall; apply R.callP rfl rfl rfl hrg) | (apply R.pure; exact rfl; first | (apply Ok1.load; exact rfl; (apply Ld.ownk; exact rfl; exact rfl; exact At.head; exact rfl)) | (apply Ok1.assign; exact rfl) | (apply Ok1.not_f; exact rfl)) | (apply R.box; (iterate 3 exact rfl); intro)) | apply R.nil | (apply T.is; first | apply T.seq | apply T.region | apply T.ret | (apply T.cond_t; exact rfl)))
    (apply RetOk.t; exact rfl)
    exact ⟨DVL bd own ov dl, .last (.cons _ (.all _)), ov, hov, rfl⟩
  rw [decide_eq_true (p := Cl.right ⟨c.id, c.roles, c.exp, c.ser⟩) hr] at hrg
  by_cases ho : c.id = own.id
  · have hv : vadd own dl c = dl := by unfold vadd; rw [if_pos (.inr ho)]
    rw [hv]
    refine enterK (tb := tb) Tryz.func26 rfl Tryz.ntmps26 rfl ?_
    simp only [kvC, DVL]
    repeat' (first | (apply R.is1; first | (apply R.isCall; apply R.callP rfl rfl rfl hrg) | (apply R.pure; exact rfl; first | (apply Ok1.load; exact rfl; (apply Ld.ownk; exact rfl; exact rfl; exact At.head; exact rfl)) | (apply Ok1.assign; exact rfl) | (apply Ok1.not_t; exact rfl)) | (apply R.box; (iterate 3 exact rfl); intro)) | apply R.nil | (apply T.is; first | (apply T.drawC (id := 3) [0,1] (by decide); ((apply A.take 0; exact rfl; exact rfl; kernel_rfl; kernel_rfl; kernel_rfl; (apply Ok1.fieldAddr; (iterate 5 exact rfl))) <;> (apply A.take 1; exact rfl; exact rfl; kernel_rfl; kernel_rfl; kernel_rfl; (apply Ok1.load; exact rfl; (apply Ld.own1; exact rfl; exact rfl; exact At.head; exact rfl))) <;> (apply A.take 2; exact rfl; exact rfl; kernel_rfl; kernel_rfl; kernel_rfl; (apply Ok1.move; exact rfl)) <;> (apply A.take 3; exact rfl; exact rfl; kernel_rfl; kernel_rfl; kernel_rfl; (apply Ok1.nilCheck; exact rfl)) <;> (apply A.take 4; exact rfl; exact rfl; kernel_rfl; kernel_rfl; kernel_rfl; (apply Ok1.fieldAddr; (iterate 5 exact rfl))) <;> (apply A.take 5; exact rfl; exact rfl; kernel_rfl; kernel_rfl; kernel_rfl; (apply Ok1.fieldAddr; (iterate 5 exact rfl))) <;> (apply A.take 6; exact rfl; exact rfl; kernel_rfl; kernel_rfl; kernel_rfl; (apply Ok1.load; exact rfl; (apply Ld.own1; exact rfl; exact rfl; (focus ((repeat' (first | exact At.head | apply At.tail)); done)); exact rfl))) <;> ((apply A.take 7; exact rfl; exact rfl; kernel_rfl; kernel_rfl; kernel_rfl; (apply Ok1.eql_t; exact rfl; exact rfl; omega))) <;> (apply A.done; kernel_rfl))) | apply T.seq | apply T.region | apply T.skip | apply T.ret | (apply T.cond_t; exact rfl) | (apply T.cond_f; exact rfl)))
    all_goals (apply RetOk.t; exact rfl)
    all_goals exact ⟨DVL bd own ov dl, .last (.cons _ (.all _)), ov, hov, rfl⟩
  have hv : vadd own dl c = match vfind dl c.id with | some h => if h = c ∨ c.ser ≤ h.ser then dl else vset dl c | none => if 16 ≤ dl.length then dl else vins dl c := by unfold vadd; rw [if_neg (fun h => h.elim (fun h => h hr) ho)] <;> rfl
  rcases vpos_find (dl := dl) (id := c.id) with ⟨hf, hp⟩ | ⟨i, h, hi, hid, hf, hp⟩
  · rw [hf] at hv
    simp only at hv
    rw [hp] at hdf
    by_cases h16 : 16 ≤ dl.length
    · rw [if_pos h16] at hv
      rw [hv]
      refine enterK (tb := tb) Tryz.func26 rfl Tryz.ntmps26 rfl ?_
      simp only [kvC]
      repeat' (first | (apply R.is1; first | (apply R.isCall; apply R.callP rfl rfl rfl hrg) | (apply R.pure; exact rfl; first | (apply Ok1.load; exact rfl; (apply Ld.ownk; exact rfl; exact rfl; exact At.head; exact rfl)) | (apply Ok1.assign; exact rfl) | (apply Ok1.not_t; exact rfl)) | (apply R.box; (iterate 3 exact rfl); intro)) | apply R.nil | (apply T.is; first | apply T.seq | apply T.region | apply T.skip | (apply T.cond_f; exact rfl)))
      simp only [DVL]
      repeat' (first | (apply R.is1; first | (apply R.isBin; (apply R.pure; exact rfl; first | (apply Ok1.geq_t; exact rfl; exact rfl; omega) | (apply Ok1.geq_f; exact rfl; exact rfl; omega))) | (apply R.isCall; first | (apply R.callE (Li := DVL bd own ov dl); (iterate 3 exact rfl); exact Ext.cons _ (Ext.all _); intro w1 hw1; exact hdf w1; rintro v Lo ⟨rfl, rfl⟩; simp only [DVL, List.cons_append, List.append_nil]) | (apply R.pure; exact rfl; apply Ok1.lenOv; (iterate 3 exact rfl); exact hov)) | (apply R.pure; exact rfl; first | (apply Ok1.move; exact rfl) | (apply Ok1.fieldAddr; (iterate 5 exact rfl)) | (apply Ok1.load; exact rfl; (apply Ld.own1; exact rfl; exact rfl; exact At.head; exact rfl)) | (apply Ok1.assign; exact rfl) | (apply Ok1.nilCheck; exact rfl))) | apply R.nil | (apply T.is; first | (apply T.drawC (id := 3) [0,1] (by decide); ((apply A.take 0; exact rfl; exact rfl; kernel_rfl; kernel_rfl; kernel_rfl; (apply Ok1.fieldAddr; (iterate 5 exact rfl))) <;> (apply A.take 1; exact rfl; exact rfl; kernel_rfl; kernel_rfl; kernel_rfl; (apply Ok1.load; exact rfl; (apply Ld.own1; exact rfl; exact rfl; exact At.head; exact rfl))) <;> (apply A.take 2; exact rfl; exact rfl; kernel_rfl; kernel_rfl; kernel_rfl; (apply Ok1.move; exact rfl)) <;> (apply A.take 3; exact rfl; exact rfl; kernel_rfl; kernel_rfl; kernel_rfl; (apply Ok1.nilCheck; exact rfl)) <;> (apply A.take 4; exact rfl; exact rfl; kernel_rfl; kernel_rfl; kernel_rfl; (apply Ok1.fieldAddr; (iterate 5 exact rfl))) <;> (apply A.take 5; exact rfl; exact rfl; kernel_rfl; kernel_rfl; kernel_rfl; (apply Ok1.fieldAddr; (iterate 5 exact rfl))) <;> (apply A.take 6; exact rfl; exact rfl; kernel_rfl; kernel_rfl; kernel_rfl; (apply Ok1.load; exact rfl; (apply Ld.own1; exact rfl; exact rfl; (focus ((repeat' (first | exact At.head | apply At.tail)); done)); exact rfl))) <;> ((apply A.take 7; exact rfl; exact rfl; kernel_rfl; kernel_rfl; kernel_rfl; (apply Ok1.eql_f; exact rfl; exact rfl; omega))) <;> (apply A.done; kernel_rfl))) | apply T.seq | apply T.region | apply T.skip | apply T.ret | (apply T.cond_t; exact rfl) | (apply T.cond_f; exact rfl)))
      all_goals (apply RetOk.t; exact rfl)
      all_goals exact ⟨DVL bd own ov dl, by simp only [DVL]; (focus ((repeat' (first | exact Ext.one _ _ | exact Ext.here _ _ | apply Keep.cons | apply Keep.last)); done)), ov, hov, rfl⟩
    rw [if_neg h16] at hv
    rw [hv]
    cases ov with
    | none =>
      have h0 : dl = [] := List.eq_nil_of_length_eq_zero hov.2
      subst h0
      refine enterK (tb := tb) Tryz.func26 rfl Tryz.ntmps26 rfl ?_
      simp only [kvC, DVL, slV, blkL]
      repeat' (first | (apply R.is1; first | (apply R.isBin; (apply R.pure; exact rfl; first | (apply Ok1.lss_f; exact rfl; exact rfl; omega) | (apply Ok1.geq_f; exact rfl; exact rfl; omega))) | (apply R.isCall; first | apply R.callP rfl rfl rfl hrg | (apply R.callE (Li := DVL bd own none []); (iterate 3 exact rfl); exact Ext.cons _ (Ext.all _); intro w1 hw1; exact hdf w1; rintro v Lo ⟨rfl, rfl⟩; simp only [DVL, slV, blkL, List.cons_append, List.append_nil]) | (apply R.append1; (iterate 12 exact rfl); (focus ((repeat' (exact OwnAt.nil _)); done)); exact At.head; exact rfl; exact rfl; omega; omega; intro b2 j2 k2 hj2) | (apply R.pure; exact rfl; (apply Ok1.lenS; (iterate 3 exact rfl)))) | (apply R.pure; exact rfl; first | (apply Ok1.move; exact rfl) | (apply Ok1.fieldAddr; (iterate 5 exact rfl)) | (apply Ok1.load; exact rfl; first | (apply Ld.own1; exact rfl; exact rfl; exact At.head; exact rfl) | (apply Ld.ownk; exact rfl; exact rfl; (focus ((repeat' (first | exact At.head | apply At.tail)); done)); exact rfl)) | (apply Ok1.assign; exact rfl) | (apply Ok1.build; (iterate 5 exact rfl)) | (apply Ok1.not_t; exact rfl) | (apply Ok1.not_f; exact rfl) | (apply Ok1.nilCheck; exact rfl)) | (apply R.box; (iterate 3 exact rfl); intro) | (apply R.buildSlice; (iterate 12 exact rfl); intro)) | (apply R.is0; (apply R.store; (iterate 6 exact rfl); (focus ((repeat' (first | exact Upd.head | apply Upd.tail)); done)); exact rfl)) | apply R.nil | (apply T.is; first | apply T.rounds 1 | (apply T.drawC (id := 3) [0,1] (by decide); ((apply A.take 0; exact rfl; exact rfl; kernel_rfl; kernel_rfl; kernel_rfl; (apply Ok1.fieldAddr; (iterate 5 exact rfl))) <;> (apply A.take 1; exact rfl; exact rfl; kernel_rfl; kernel_rfl; kernel_rfl; (apply Ok1.load; exact rfl; (apply Ld.own1; exact rfl; exact rfl; exact At.head; exact rfl))) <;> (apply A.take 2; exact rfl; exact rfl; kernel_rfl; kernel_rfl; kernel_rfl; (apply Ok1.move; exact rfl)) <;> (apply A.take 3; exact rfl; exact rfl; kernel_rfl; kernel_rfl; kernel_rfl; (apply Ok1.nilCheck; exact rfl)) <;> (apply A.take 4; exact rfl; exact rfl; kernel_rfl; kernel_rfl; kernel_rfl; (apply Ok1.fieldAddr; (iterate 5 exact rfl))) <;> (apply A.take 5; exact rfl; exact rfl; kernel_rfl; kernel_rfl; kernel_rfl; (apply Ok1.fieldAddr; (iterate 5 exact rfl))) <;> (apply A.take 6; exact rfl; exact rfl; kernel_rfl; kernel_rfl; kernel_rfl; (apply Ok1.load; exact rfl; (apply Ld.own1; exact rfl; exact rfl; (focus ((repeat' (first | exact At.head | apply At.tail)); done)); exact rfl))) <;> ((apply A.take 7; exact rfl; exact rfl; kernel_rfl; kernel_rfl; kernel_rfl; (apply Ok1.eql_f; exact rfl; exact rfl; omega))) <;> (apply A.done; kernel_rfl))) | apply T.seq | apply T.region | apply T.block | apply T.skip | apply T.exit | apply T.ret | (apply T.cond_t; exact rfl) | (apply T.cond_f; exact rfl)))
      all_goals (apply RetOk.t; exact rfl)
      all_goals exact ⟨DVL bd own (some (b2, j2, k2)) [c], by simp only [DVL, slV, blkL]; (focus ((repeat' (first | exact Keep.nil _ | exact Ext.one _ _ | apply Keep.cons | apply Ext.cons)); done)), some (b2, j2, k2), ⟨rfl, hj2⟩, rfl⟩
    | some q =>
      obtain ⟨b, j, junk⟩ := q
      refine enterK (tb := tb) Tryz.func26 rfl Tryz.ntmps26 rfl ?_
      simp only [kvC, DVL, slV, blkL]
      repeat' (first | (apply R.is1; first | (apply R.isBin; (apply R.pure; exact rfl; (apply Ok1.geq_f; exact rfl; exact rfl; omega))) | (apply R.isCall; first | apply R.callP rfl rfl rfl hrg | (apply R.callE (Li := DVL bd own (some (b, j, junk)) dl); (iterate 3 exact rfl); exact Ext.cons _ (Ext.all _); intro w1 hw1; exact hdf w1; rintro v Lo ⟨rfl, rfl⟩; simp only [DVL, slV, blkL, List.cons_append, List.nil_append, List.append_nil]) | (apply R.pure; exact rfl; (apply Ok1.lenS; (iterate 3 exact rfl)))) | (apply R.pure; exact rfl; first | (apply Ok1.move; exact rfl) | (apply Ok1.fieldAddr; (iterate 5 exact rfl)) | (apply Ok1.load; exact rfl; first | (apply Ld.own1; exact rfl; exact rfl; exact At.head; exact rfl) | (apply Ld.ownk; exact rfl; exact rfl; exact At.head; exact rfl)) | (apply Ok1.assign; exact rfl) | (apply Ok1.not_t; exact rfl) | (apply Ok1.nilCheck; exact rfl)) | (apply R.box; (iterate 3 exact rfl); intro)) | apply R.nil | (apply T.is; first | (apply T.drawC (id := 3) [0,1] (by decide); ((apply A.take 0; exact rfl; exact rfl; kernel_rfl; kernel_rfl; kernel_rfl; (apply Ok1.fieldAddr; (iterate 5 exact rfl))) <;> (apply A.take 1; exact rfl; exact rfl; kernel_rfl; kernel_rfl; kernel_rfl; (apply Ok1.load; exact rfl; (apply Ld.own1; exact rfl; exact rfl; exact At.head; exact rfl))) <;> (apply A.take 2; exact rfl; exact rfl; kernel_rfl; kernel_rfl; kernel_rfl; (apply Ok1.move; exact rfl)) <;> (apply A.take 3; exact rfl; exact rfl; kernel_rfl; kernel_rfl; kernel_rfl; (apply Ok1.nilCheck; exact rfl)) <;> (apply A.take 4; exact rfl; exact rfl; kernel_rfl; kernel_rfl; kernel_rfl; (apply Ok1.fieldAddr; (iterate 5 exact rfl))) <;> (apply A.take 5; exact rfl; exact rfl; kernel_rfl; kernel_rfl; kernel_rfl; (apply Ok1.fieldAddr; (iterate 5 exact rfl))) <;> (apply A.take 6; exact rfl; exact rfl; kernel_rfl; kernel_rfl; kernel_rfl; (apply Ok1.load; exact rfl; (apply Ld.own1; exact rfl; exact rfl; (focus ((repeat' (first | exact At.head | apply At.tail)); done)); exact rfl))) <;> ((apply A.take 7; exact rfl; exact rfl; kernel_rfl; kernel_rfl; kernel_rfl; (apply Ok1.eql_f; exact rfl; exact rfl; omega))) <;> (apply A.done; kernel_rfl))) | apply T.seq | apply T.region | apply T.block | apply T.skip | (apply T.cond_f; exact rfl)))
      all_goals
        rename_i b4
        apply T.loopK (α := Nat × Ov) (I := fun y => y.1 ≤ dl.length ∧ OvOk 8 y.2 (insA (dl.take y.1) c).length (fl evC (insA (dl.take y.1) c))) (σi := fun y => [(0, .pointer (some ⟨bd, 0, none⟩)), (2, .int .i64 0), (4, .pointer (some ⟨b4, 0, none⟩)), (8, slV y.2 (insA (dl.take y.1) c).length), (9, .bool (insP (dl.take y.1) c)), (10, .int .i64 y.1)]) (Li := fun y => (bd, .cells ⟨[.int .i64 own.id, .int .i64 own.roles, .int .i64 own.exp, .int .i64 own.ser, .slice (some ⟨b, 0, none⟩) dl.length (dl.length + j)]⟩ 76 (0, 0)) :: (b, .cells ⟨fl evC dl ++ junk⟩ 88 (0, 0)) :: (b4, .cells ⟨[.int .i64 c.id, .int .i64 c.roles, .int .i64 c.exp, .int .i64 c.ser]⟩ 65 (0, 0)) :: blkL 88 y.2 (fl evC (insA (dl.take y.1) c))) (μ := fun y => dl.length - y.1) (i0 := (0, none))
        · exact ⟨Nat.zero_le _, OvOk.start 8⟩
        · exact ⟨rfl, rfl, rfl, rfl, rfl, rfl, trivial⟩
        · show Keep _ ((bd, _) :: (b, _) :: (b4, _) :: [])
          (focus ((repeat' (first | exact Keep.nil _ | exact Ext.one _ _ | apply Keep.cons)); done))
        · rintro ⟨i, ov2⟩ ⟨hi, hov2⟩
          simp only at hi hov2 ⊢
          rcases Nat.lt_or_ge i dl.length with hlt | hge
          · obtain ⟨x, hx⟩ : ∃ x, dl[i]? = some x := ⟨_, List.getElem?_eq_getElem (by omega)⟩
            have hAl : (insA (dl.take i) c).length ≤ 17 := by
              unfold insA
              split
              · rw [vins_len, List.length_take]; omega
              · rw [List.length_take]; omega
            have htk : dl.take (i + 1) = dl.take i ++ [x] := by rw [List.take_add_one, hx]; rfl
            have hpn : insP (dl.take (i + 1)) c = (insP (dl.take i) c || decide (c.id < x.id)) := by rw [htk]; simp [insP]
            cases hpu : insP (dl.take i) c with
            | true =>
              rw [hpu] at hpn
              have hA : insA (dl.take (i + 1)) c = insA (dl.take i) c ++ [x] := by unfold insA; rw [hpn, hpu]; simp only [Bool.true_or, if_true]; rw [htk, vins_put (insP_t hpu)]
              generalize insA (dl.take i) c = AA at *
              repeat' (first | (apply R.is1; first | (apply R.isBin; (apply R.pure; exact rfl; first | (apply Ok1.add64; exact rfl; exact rfl; omega; omega) | (apply Ok1.lss_t; exact rfl; exact rfl; omega))) | (apply R.isCall; first | (apply R.append1; (iterate 12 exact rfl); (focus ((repeat' (first | exact OwnAt.base hov2 | apply OwnAt.tail)); done)); exact At.head; exact rfl; exact rfl; omega; omega; intro b2 j2 k2 hj2) | (apply R.pure; exact rfl; (apply Ok1.lenS; (iterate 3 exact rfl)))) | (apply R.pure; exact rfl; first | (apply Ok1.load; exact rfl; (apply Ld.ownrowk (f := 0); (focus ((repeat' (first | exact At.head | apply At.tail)); done)); exact evC_len; exact hx; (focus ((simp; done))); (iterate 3 exact rfl))) | (apply Ok1.move; exact rfl) | (apply Ok1.fieldAddr; (iterate 5 exact rfl)) | (apply Ok1.load; exact rfl; (apply Ld.own1; exact rfl; exact rfl; exact At.head; exact rfl)) | (apply Ok1.assign; exact rfl) | (apply Ok1.indexAddr; (iterate 5 exact rfl); omega; omega) | (apply Ok1.nilCheck; exact rfl)) | (apply R.buildSlice; (iterate 12 exact rfl); intro)) | apply R.nil | (apply T.is; first | (apply T.drawC (id := 20) [0,1,2] (by decide); ((apply A.take 0; exact rfl; exact rfl; kernel_rfl; kernel_rfl; kernel_rfl; (apply Ok1.move; exact rfl)) <;> (apply A.take 1; exact rfl; exact rfl; kernel_rfl; kernel_rfl; kernel_rfl; (apply Ok1.not_t; exact rfl)) <;> (apply A.take 2; exact rfl; exact rfl; kernel_rfl; kernel_rfl; kernel_rfl; (apply Ok1.move; exact rfl)) <;> ((apply A.skipG 3; exact rfl; exact rfl; rotate_left 3; exact rfl; exact rfl; rotate_right 3; kernel_rfl; kernel_rfl; kernel_rfl)) <;> ((apply A.skipG 4; exact rfl; exact rfl; rotate_left 3; exact rfl; exact rfl; rotate_right 3; kernel_rfl; kernel_rfl; kernel_rfl)) <;> ((apply A.skipG 5; exact rfl; exact rfl; rotate_left 3; exact rfl; exact rfl; rotate_right 3; kernel_rfl; kernel_rfl; kernel_rfl)) <;> ((apply A.skipG 6; exact rfl; exact rfl; rotate_left 3; exact rfl; exact rfl; rotate_right 3; kernel_rfl; kernel_rfl; kernel_rfl)) <;> ((apply A.skipG 7; exact rfl; exact rfl; rotate_left 3; exact rfl; exact rfl; rotate_right 3; kernel_rfl; kernel_rfl; kernel_rfl)) <;> ((apply A.skipG 8; exact rfl; exact rfl; rotate_left 3; exact rfl; exact rfl; rotate_right 3; kernel_rfl; kernel_rfl; kernel_rfl)) <;> ((apply A.skipG 9; exact rfl; exact rfl; rotate_left 3; exact rfl; exact rfl; rotate_right 3; kernel_rfl; kernel_rfl; kernel_rfl)) <;> ((apply A.skipG 10; exact rfl; exact rfl; rotate_left 3; exact rfl; exact rfl; rotate_right 3; kernel_rfl; kernel_rfl; kernel_rfl)) <;> ((apply A.skipG 11; exact rfl; exact rfl; rotate_left 3; exact rfl; exact rfl; rotate_right 3; kernel_rfl; kernel_rfl; kernel_rfl)) <;> ((apply A.skipG 12; exact rfl; exact rfl; rotate_left 3; exact rfl; exact rfl; rotate_right 3; kernel_rfl; kernel_rfl; kernel_rfl)) <;> ((apply A.skipG 13; exact rfl; exact rfl; rotate_left 3; exact rfl; exact rfl; rotate_right 3; kernel_rfl; kernel_rfl; kernel_rfl)) <;> ((apply A.skipG 14; exact rfl; exact rfl; rotate_left 3; exact rfl; exact rfl; rotate_right 3; kernel_rfl; kernel_rfl; kernel_rfl)) <;> (apply A.take 15; exact rfl; exact rfl; kernel_rfl; kernel_rfl; kernel_rfl; (apply Ok1.pick_f; exact rfl; exact rfl)) <;> (apply A.done; kernel_rfl))) | apply T.seq | apply T.region | apply T.block | apply T.skip | (apply T.cond_t; exact rfl) | (apply T.cond_f; exact rfl)))
              all_goals
                refine ⟨(i + 1, some (b2, j2, k2)), ?_⟩
                simp only [hA, hpn, Bool.true_or, List.length_append, List.length_singleton, fl_snoc]
                exact ⟨⟨by omega, OvOk.some (b := b2) hov2 (m := 1) rfl hj2⟩, by omega, ⟨rfl, rfl, rfl, rfl, rfl, rfl, trivial⟩, by simp only [blkL]; (focus ((repeat' (first | exact Keep.nil _ | exact Ext.one _ _ | apply Keep.cons | apply Ext.cons)); done))⟩
            | false =>
              rw [hpu] at hpn
              by_cases hcx : c.id < x.id
              · rw [decide_eq_true hcx] at hpn
                have hA : insA (dl.take (i + 1)) c = insA (dl.take i) c ++ [c] ++ [x] := by unfold insA; rw [hpn, hpu]; simp only [Bool.or_true, if_true, if_false, Bool.false_eq_true]; rw [htk, vins_new hcx (insP_f hpu)]
                generalize insA (dl.take i) c = AA at *
                repeat' (first | (apply R.is1; first | (apply R.isBin; (apply R.pure; exact rfl; (apply Ok1.lss_t; exact rfl; exact rfl; omega))) | (apply R.isCall; first | (apply R.append1; (iterate 12 exact rfl); (focus ((repeat' (first | exact OwnAt.base hov2 | apply OwnAt.tail)); done)); exact At.head; exact rfl; exact rfl; omega; omega; intro b2 j2 k2 hj2) | (apply R.pure; exact rfl; (apply Ok1.lenS; (iterate 3 exact rfl)))) | (apply R.pure; exact rfl; first | (apply Ok1.load; exact rfl; (apply Ld.ownrowk (f := 0); (focus ((repeat' (first | exact At.head | apply At.tail)); done)); exact evC_len; exact hx; (focus ((simp; done))); (iterate 3 exact rfl))) | (apply Ok1.move; exact rfl) | (apply Ok1.fieldAddr; (iterate 5 exact rfl)) | (apply Ok1.load; exact rfl; first | (apply Ld.own1; exact rfl; exact rfl; (focus ((repeat' (first | exact At.head | apply At.tail)); done)); exact rfl) | (apply Ld.ownk; exact rfl; exact rfl; (focus ((repeat' (first | exact At.head | apply At.tail)); done)); exact rfl)) | (apply Ok1.assign; exact rfl) | (apply Ok1.indexAddr; (iterate 5 exact rfl); omega; omega) | (apply Ok1.build; (iterate 5 exact rfl)) | (apply Ok1.nilCheck; exact rfl)) | (apply R.buildSlice; (iterate 12 exact rfl); intro)) | apply R.nil | (apply T.is; first | (apply T.drawC (id := 20) [0,1,2] (by decide); ((apply A.take 0; exact rfl; exact rfl; kernel_rfl; kernel_rfl; kernel_rfl; (apply Ok1.move; exact rfl)) <;> (apply A.take 1; exact rfl; exact rfl; kernel_rfl; kernel_rfl; kernel_rfl; (apply Ok1.not_f; exact rfl)) <;> (apply A.take 2; exact rfl; exact rfl; kernel_rfl; kernel_rfl; kernel_rfl; (apply Ok1.move; exact rfl)) <;> ((apply A.takeG 3; exact rfl; exact rfl; rotate_left 3; exact rfl; exact rfl; rotate_right 3; kernel_rfl; kernel_rfl; kernel_rfl; (apply Ok1.move; exact rfl))) <;> ((apply A.takeG 4; exact rfl; exact rfl; rotate_left 3; exact rfl; exact rfl; rotate_right 3; kernel_rfl; kernel_rfl; kernel_rfl; (apply Ok1.nilCheck; exact rfl))) <;> ((apply A.takeG 5; exact rfl; exact rfl; rotate_left 3; exact rfl; exact rfl; rotate_right 3; kernel_rfl; kernel_rfl; kernel_rfl; (apply Ok1.fieldAddr; (iterate 5 exact rfl)))) <;> ((apply A.takeG 6; exact rfl; exact rfl; rotate_left 3; exact rfl; exact rfl; rotate_right 3; kernel_rfl; kernel_rfl; kernel_rfl; (apply Ok1.load; exact rfl; (apply Ld.own1; exact rfl; exact rfl; exact At.head; exact rfl)))) <;> ((apply A.takeG 7; exact rfl; exact rfl; rotate_left 3; exact rfl; exact rfl; rotate_right 3; kernel_rfl; kernel_rfl; kernel_rfl; (apply Ok1.move; exact rfl))) <;> ((apply A.takeG 8; exact rfl; exact rfl; rotate_left 3; exact rfl; exact rfl; rotate_right 3; kernel_rfl; kernel_rfl; kernel_rfl; (apply Ok1.indexAddr; (iterate 5 exact rfl); omega; omega))) <;> ((apply A.takeG 9; exact rfl; exact rfl; rotate_left 3; exact rfl; exact rfl; rotate_right 3; kernel_rfl; kernel_rfl; kernel_rfl; (apply Ok1.fieldAddr; (iterate 5 exact rfl)))) <;> ((apply A.takeG 10; exact rfl; exact rfl; rotate_left 3; exact rfl; exact rfl; rotate_right 3; kernel_rfl; kernel_rfl; kernel_rfl; (apply Ok1.fieldAddr; (iterate 5 exact rfl)))) <;> ((apply A.takeG 11; exact rfl; exact rfl; rotate_left 3; exact rfl; exact rfl; rotate_right 3; kernel_rfl; kernel_rfl; kernel_rfl; (apply Ok1.load; exact rfl; (apply Ld.ownrow1 (f := 0); (focus ((repeat' (first | exact At.head | apply At.tail)); done)); exact evC_len; exact hx; (focus ((simp; done))); (iterate 3 exact rfl))))) <;> ((apply A.takeG 12; exact rfl; exact rfl; rotate_left 3; exact rfl; exact rfl; rotate_right 3; kernel_rfl; kernel_rfl; kernel_rfl; (apply Ok1.fieldAddr; (iterate 5 exact rfl)))) <;> ((apply A.takeG 13; exact rfl; exact rfl; rotate_left 3; exact rfl; exact rfl; rotate_right 3; kernel_rfl; kernel_rfl; kernel_rfl; (apply Ok1.load; exact rfl; (apply Ld.own1; exact rfl; exact rfl; (focus ((repeat' (first | exact At.head | apply At.tail)); done)); exact rfl)))) <;> ((apply A.takeG 14; exact rfl; exact rfl; rotate_left 3; exact rfl; exact rfl; rotate_right 3; kernel_rfl; kernel_rfl; kernel_rfl; (apply Ok1.gtr_t; exact rfl; exact rfl; omega))) <;> (apply A.take 15; exact rfl; exact rfl; kernel_rfl; kernel_rfl; kernel_rfl; (apply Ok1.pick_t; exact rfl; exact rfl)) <;> (apply A.done; kernel_rfl))) | apply T.seq | apply T.region | apply T.block | apply T.skip | (apply T.cond_t; exact rfl)))
                all_goals
                  have hov5 := OvOk.some (b := b2) hov2 (ys := evC c) (m := 1) rfl hj2
                  repeat' (first | (apply R.is1; first | (apply R.isBin; (apply R.pure; exact rfl; (apply Ok1.add64; exact rfl; exact rfl; omega; omega))) | (apply R.isCall; (apply R.append1; (iterate 12 exact rfl); (focus ((repeat' (first | exact OwnAt.mid hov5 | apply OwnAt.tail)); done)); exact At.head; exact rfl; exact rfl; omega; omega; intro b2 j2 k2 hj2)) | (apply R.pure; exact rfl; first | (apply Ok1.move; exact rfl) | (apply Ok1.assign; exact rfl))) | apply R.nil | (apply T.is; apply T.region))
                  refine ⟨(i + 1, some (b2, j2, k2)), ?_⟩
                  simp only [hA, hpn, Bool.or_true, List.length_append, List.length_singleton, fl_snoc]
                  exact ⟨⟨by omega, OvOk.some (b := b2) hov5 (m := 1) rfl hj2⟩, by omega, ⟨rfl, rfl, rfl, rfl, rfl, rfl, trivial⟩, by simp only [blkL]; (focus ((repeat' (first | exact Keep.nil _ | exact Ext.one _ _ | apply Keep.cons | apply Ext.cons)); done))⟩
              · rw [decide_eq_false hcx] at hpn
                have hA : insA (dl.take (i + 1)) c = insA (dl.take i) c ++ [x] := by unfold insA; rw [hpn, hpu]; simp only [Bool.or_false, if_false, Bool.false_eq_true]; rw [htk]
                generalize insA (dl.take i) c = AA at *
                repeat' (first | (apply R.is1; first | (apply R.isBin; (apply R.pure; exact rfl; first | (apply Ok1.add64; exact rfl; exact rfl; omega; omega) | (apply Ok1.lss_t; exact rfl; exact rfl; omega))) | (apply R.isCall; first | (apply R.append1; (iterate 12 exact rfl); (focus ((repeat' (first | exact OwnAt.base hov2 | apply OwnAt.tail)); done)); exact At.head; exact rfl; exact rfl; omega; omega; intro b2 j2 k2 hj2) | (apply R.pure; exact rfl; (apply Ok1.lenS; (iterate 3 exact rfl)))) | (apply R.pure; exact rfl; first | (apply Ok1.load; exact rfl; (apply Ld.ownrowk (f := 0); (focus ((repeat' (first | exact At.head | apply At.tail)); done)); exact evC_len; exact hx; (focus ((simp; done))); (iterate 3 exact rfl))) | (apply Ok1.move; exact rfl) | (apply Ok1.fieldAddr; (iterate 5 exact rfl)) | (apply Ok1.load; exact rfl; (apply Ld.own1; exact rfl; exact rfl; exact At.head; exact rfl)) | (apply Ok1.assign; exact rfl) | (apply Ok1.indexAddr; (iterate 5 exact rfl); omega; omega) | (apply Ok1.nilCheck; exact rfl)) | (apply R.buildSlice; (iterate 12 exact rfl); intro)) | apply R.nil | (apply T.is; first | (apply T.drawC (id := 20) [0,1,2] (by decide); ((apply A.take 0; exact rfl; exact rfl; kernel_rfl; kernel_rfl; kernel_rfl; (apply Ok1.move; exact rfl)) <;> (apply A.take 1; exact rfl; exact rfl; kernel_rfl; kernel_rfl; kernel_rfl; (apply Ok1.not_f; exact rfl)) <;> (apply A.take 2; exact rfl; exact rfl; kernel_rfl; kernel_rfl; kernel_rfl; (apply Ok1.move; exact rfl)) <;> ((apply A.takeG 3; exact rfl; exact rfl; rotate_left 3; exact rfl; exact rfl; rotate_right 3; kernel_rfl; kernel_rfl; kernel_rfl; (apply Ok1.move; exact rfl))) <;> ((apply A.takeG 4; exact rfl; exact rfl; rotate_left 3; exact rfl; exact rfl; rotate_right 3; kernel_rfl; kernel_rfl; kernel_rfl; (apply Ok1.nilCheck; exact rfl))) <;> ((apply A.takeG 5; exact rfl; exact rfl; rotate_left 3; exact rfl; exact rfl; rotate_right 3; kernel_rfl; kernel_rfl; kernel_rfl; (apply Ok1.fieldAddr; (iterate 5 exact rfl)))) <;> ((apply A.takeG 6; exact rfl; exact rfl; rotate_left 3; exact rfl; exact rfl; rotate_right 3; kernel_rfl; kernel_rfl; kernel_rfl; (apply Ok1.load; exact rfl; (apply Ld.own1; exact rfl; exact rfl; exact At.head; exact rfl)))) <;> ((apply A.takeG 7; exact rfl; exact rfl; rotate_left 3; exact rfl; exact rfl; rotate_right 3; kernel_rfl; kernel_rfl; kernel_rfl; (apply Ok1.move; exact rfl))) <;> ((apply A.takeG 8; exact rfl; exact rfl; rotate_left 3; exact rfl; exact rfl; rotate_right 3; kernel_rfl; kernel_rfl; kernel_rfl; (apply Ok1.indexAddr; (iterate 5 exact rfl); omega; omega))) <;> ((apply A.takeG 9; exact rfl; exact rfl; rotate_left 3; exact rfl; exact rfl; rotate_right 3; kernel_rfl; kernel_rfl; kernel_rfl; (apply Ok1.fieldAddr; (iterate 5 exact rfl)))) <;> ((apply A.takeG 10; exact rfl; exact rfl; rotate_left 3; exact rfl; exact rfl; rotate_right 3; kernel_rfl; kernel_rfl; kernel_rfl; (apply Ok1.fieldAddr; (iterate 5 exact rfl)))) <;> ((apply A.takeG 11; exact rfl; exact rfl; rotate_left 3; exact rfl; exact rfl; rotate_right 3; kernel_rfl; kernel_rfl; kernel_rfl; (apply Ok1.load; exact rfl; (apply Ld.ownrow1 (f := 0); (focus ((repeat' (first | exact At.head | apply At.tail)); done)); exact evC_len; exact hx; (focus ((simp; done))); (iterate 3 exact rfl))))) <;> ((apply A.takeG 12; exact rfl; exact rfl; rotate_left 3; exact rfl; exact rfl; rotate_right 3; kernel_rfl; kernel_rfl; kernel_rfl; (apply Ok1.fieldAddr; (iterate 5 exact rfl)))) <;> ((apply A.takeG 13; exact rfl; exact rfl; rotate_left 3; exact rfl; exact rfl; rotate_right 3; kernel_rfl; kernel_rfl; kernel_rfl; (apply Ok1.load; exact rfl; (apply Ld.own1; exact rfl; exact rfl; (focus ((repeat' (first | exact At.head | apply At.tail)); done)); exact rfl)))) <;> ((apply A.takeG 14; exact rfl; exact rfl; rotate_left 3; exact rfl; exact rfl; rotate_right 3; kernel_rfl; kernel_rfl; kernel_rfl; (apply Ok1.gtr_f; exact rfl; exact rfl; omega))) <;> (apply A.take 15; exact rfl; exact rfl; kernel_rfl; kernel_rfl; kernel_rfl; (apply Ok1.pick_t; exact rfl; exact rfl)) <;> (apply A.done; kernel_rfl))) | apply T.seq | apply T.region | apply T.block | apply T.skip | (apply T.cond_t; exact rfl) | (apply T.cond_f; exact rfl)))
                all_goals
                  refine ⟨(i + 1, some (b2, j2, k2)), ?_⟩
                  simp only [hA, hpn, Bool.or_false, List.length_append, List.length_singleton, fl_snoc]
                  exact ⟨⟨by omega, OvOk.some (b := b2) hov2 (m := 1) rfl hj2⟩, by omega, ⟨rfl, rfl, rfl, rfl, rfl, rfl, trivial⟩, by simp only [blkL]; (focus ((repeat' (first | exact Keep.nil _ | exact Ext.one _ _ | apply Keep.cons | apply Ext.cons)); done))⟩
          · have him : i = dl.length := by omega
            subst him
            rw [List.take_length] at hov2 ⊢
            cases hpu : insP dl c with
            | true =>
              have hA : insA dl c = vins dl c := by unfold insA; rw [hpu]; rfl
              rw [hA] at hov2 ⊢
              repeat' (first | (apply R.is1; first | (apply R.isBin; (apply R.pure; exact rfl; (apply Ok1.lss_f; exact rfl; exact rfl; omega))) | (apply R.isCall; (apply R.pure; exact rfl; (apply Ok1.lenS; (iterate 3 exact rfl)))) | (apply R.pure; exact rfl; first | (apply Ok1.move; exact rfl) | (apply Ok1.fieldAddr; (iterate 5 exact rfl)) | (apply Ok1.load; exact rfl; (apply Ld.own1; exact rfl; exact rfl; exact At.head; exact rfl)) | (apply Ok1.assign; exact rfl) | (apply Ok1.not_t; exact rfl) | (apply Ok1.nilCheck; exact rfl))) | (apply R.is0; (apply R.store; (iterate 3 exact rfl); exact cellsE_slV _ _; exact rfl; exact one_slV _ _; exact Upd.head; exact rfl)) | apply R.nil | (apply T.is; first | apply T.seq | apply T.region | apply T.skip | apply T.exit | apply T.ret | (apply T.cond_f; exact rfl)))
              all_goals (apply RetOk.t; exact rfl)
              all_goals exact ⟨DVL bd own ov2 (vins dl c), by simp only [DVL]; (focus ((repeat' (first | exact Ext.one _ _ | exact Ext.all _ | apply Keep.cons | apply Keep.last | apply Ext.cons)); done)), ov2, hov2, rfl⟩
            | false =>
              have hA : insA dl c = dl := by unfold insA; rw [hpu]; rfl
              rw [hA] at hov2 ⊢
              rw [vins_end (insP_f hpu)]
              repeat' (first | (apply R.is1; first | (apply R.isBin; (apply R.pure; exact rfl; (apply Ok1.lss_f; exact rfl; exact rfl; omega))) | (apply R.isCall; first | (apply R.append1; (iterate 12 exact rfl); (focus ((repeat' (first | exact OwnAt.base hov2 | apply OwnAt.tail)); done)); exact At.head; exact rfl; exact rfl; omega; omega; intro b2 j2 k2 hj2) | (apply R.pure; exact rfl; (apply Ok1.lenS; (iterate 3 exact rfl)))) | (apply R.pure; exact rfl; first | (apply Ok1.move; exact rfl) | (apply Ok1.fieldAddr; (iterate 5 exact rfl)) | (apply Ok1.load; exact rfl; first | (apply Ld.own1; exact rfl; exact rfl; exact At.head; exact rfl) | (apply Ld.ownk; exact rfl; exact rfl; (focus ((repeat' (first | exact At.head | apply At.tail)); done)); exact rfl)) | (apply Ok1.assign; exact rfl) | (apply Ok1.build; (iterate 5 exact rfl)) | (apply Ok1.not_f; exact rfl) | (apply Ok1.nilCheck; exact rfl)) | (apply R.buildSlice; (iterate 12 exact rfl); intro)) | (apply R.is0; (apply R.store; (iterate 6 exact rfl); (focus ((repeat' (first | exact Upd.head | apply Upd.tail)); done)); exact rfl)) | apply R.nil | (apply T.is; first | apply T.seq | apply T.region | apply T.exit | apply T.ret | (apply T.cond_t; exact rfl) | (apply T.cond_f; exact rfl)))
              all_goals (apply RetOk.t; exact rfl)
              all_goals refine ⟨DVL bd own (some (b2, j2, k2)) (dl ++ [c]), by simp only [DVL, slV, blkL, fl_snoc, List.length_append, List.length_singleton]; (focus ((repeat' (first | exact Keep.nil _ | exact Ext.one _ _ | apply Keep.cons | apply Ext.cons)); done)), some (b2, j2, k2), ?_, rfl⟩
              all_goals
                rw [List.length_append, List.length_singleton, fl_snoc]
                exact OvOk.some (b := b2) hov2 (m := 1) rfl hj2
  · rw [hf] at hv
    simp only at hv
    rw [hp] at hdf
    obtain ⟨hilt, hie⟩ := List.getElem?_eq_some_iff.1 hi
    have hq : [Value.int .i64 h.id, .int .i64 h.roles, .int .i64 h.exp, .int .i64 h.ser] = [.int .i64 c.id, .int .i64 c.roles, .int .i64 c.exp, .int .i64 c.ser] ↔ decide (h = c) = true := by rw [decide_eq_true_iff]; exact clv_inj9
    cases ov with
    | none =>
      have h0 : dl = [] := List.eq_nil_of_length_eq_zero hov.2
      subst h0
      exact absurd hilt (by simp)
    | some q =>
      obtain ⟨b, j, junk⟩ := q
      have hset := setE_rowV evC_len c hi junk
      have hls : (dl.set i c).length = dl.length := List.length_set
      have hfs : (fl evC (dl.set i c)).length = (fl evC dl).length := by rw [fl_len evC_len, fl_len evC_len, hls]
      have hvs := vset_set hs hi hid
      by_cases he : h = c
      · rw [if_pos (.inl he)] at hv
        rw [hv]
        rw [decide_eq_true he] at hq
        refine enterK (tb := tb) Tryz.func26 rfl Tryz.ntmps26 rfl ?_
        simp only [kvC, DVL, slV, blkL]
        repeat' (first | (apply R.is1; first | (apply R.isBin; (apply R.pure; exact rfl; (apply Ok1.geq_t; exact rfl; exact rfl; omega))) | (apply R.isCall; first | apply R.callP rfl rfl rfl hrg | (apply R.callE (Li := DVL bd own (some (b, j, junk)) dl); (iterate 3 exact rfl); exact Ext.cons _ (Ext.all _); intro w1 hw1; exact hdf w1; rintro v Lo ⟨rfl, rfl⟩; simp only [DVL, slV, blkL, List.cons_append, List.nil_append, List.append_nil])) | (apply R.pure; exact rfl; first | (apply Ok1.move; exact rfl) | (apply Ok1.fieldAddr; (iterate 5 exact rfl)) | (apply Ok1.load; exact rfl; first | (apply Ld.own1; exact rfl; exact rfl; exact At.head; exact rfl) | (apply Ld.ownk; exact rfl; exact rfl; exact At.head; exact rfl)) | (apply Ok1.assign; exact rfl) | (apply Ok1.not_t; exact rfl)) | (apply R.box; (iterate 3 exact rfl); intro)) | apply R.nil | (apply T.is; first | (apply T.drawC (id := 3) [0,1] (by decide); ((apply A.take 0; exact rfl; exact rfl; kernel_rfl; kernel_rfl; kernel_rfl; (apply Ok1.fieldAddr; (iterate 5 exact rfl))) <;> (apply A.take 1; exact rfl; exact rfl; kernel_rfl; kernel_rfl; kernel_rfl; (apply Ok1.load; exact rfl; (apply Ld.own1; exact rfl; exact rfl; exact At.head; exact rfl))) <;> (apply A.take 2; exact rfl; exact rfl; kernel_rfl; kernel_rfl; kernel_rfl; (apply Ok1.move; exact rfl)) <;> (apply A.take 3; exact rfl; exact rfl; kernel_rfl; kernel_rfl; kernel_rfl; (apply Ok1.nilCheck; exact rfl)) <;> (apply A.take 4; exact rfl; exact rfl; kernel_rfl; kernel_rfl; kernel_rfl; (apply Ok1.fieldAddr; (iterate 5 exact rfl))) <;> (apply A.take 5; exact rfl; exact rfl; kernel_rfl; kernel_rfl; kernel_rfl; (apply Ok1.fieldAddr; (iterate 5 exact rfl))) <;> (apply A.take 6; exact rfl; exact rfl; kernel_rfl; kernel_rfl; kernel_rfl; (apply Ok1.load; exact rfl; (apply Ld.own1; exact rfl; exact rfl; (focus ((repeat' (first | exact At.head | apply At.tail)); done)); exact rfl))) <;> ((apply A.take 7; exact rfl; exact rfl; kernel_rfl; kernel_rfl; kernel_rfl; (apply Ok1.eql_f; exact rfl; exact rfl; omega))) <;> (apply A.done; kernel_rfl))) | (apply T.drawC (id := 7) [0,1,2] (by decide); ((apply A.take 0; exact rfl; exact rfl; kernel_rfl; kernel_rfl; kernel_rfl; (apply Ok1.move; exact rfl)) <;> (apply A.take 1; exact rfl; exact rfl; kernel_rfl; kernel_rfl; kernel_rfl; (apply Ok1.nilCheck; exact rfl)) <;> (apply A.take 2; exact rfl; exact rfl; kernel_rfl; kernel_rfl; kernel_rfl; (apply Ok1.fieldAddr; (iterate 5 exact rfl))) <;> (apply A.take 3; exact rfl; exact rfl; kernel_rfl; kernel_rfl; kernel_rfl; (apply Ok1.load; exact rfl; (apply Ld.own1; exact rfl; exact rfl; exact At.head; exact rfl))) <;> (apply A.take 4; exact rfl; exact rfl; kernel_rfl; kernel_rfl; kernel_rfl; (apply Ok1.move; exact rfl)) <;> (apply A.take 5; exact rfl; exact rfl; kernel_rfl; kernel_rfl; kernel_rfl; (apply Ok1.indexAddr; (iterate 5 exact rfl); omega; omega)) <;> (apply A.take 6; exact rfl; exact rfl; kernel_rfl; kernel_rfl; kernel_rfl; (apply Ok1.fieldAddr; (iterate 5 exact rfl))) <;> (apply A.take 7; exact rfl; exact rfl; kernel_rfl; kernel_rfl; kernel_rfl; (apply Ok1.load; exact rfl; (apply Ld.ownrowk (f := 0); (focus ((repeat' (first | exact At.head | apply At.tail)); done)); exact evC_len; exact hi; (focus ((simp; done))); (iterate 3 exact rfl)))) <;> (apply A.take 8; exact rfl; exact rfl; kernel_rfl; kernel_rfl; kernel_rfl; (apply Ok1.load; exact rfl; (apply Ld.ownk; exact rfl; exact rfl; (focus ((repeat' (first | exact At.head | apply At.tail)); done)); exact rfl))) <;> ((apply A.take 9; exact rfl; exact rfl; kernel_rfl; kernel_rfl; kernel_rfl; (apply Ok1.eqlFq2; (iterate 7 exact rfl); exact hq))) <;> (apply A.done; kernel_rfl))) | apply T.seq | apply T.region | apply T.skip | apply T.ret | (apply T.cond_t; exact rfl) | (apply T.cond_f; exact rfl)))
        all_goals (apply RetOk.t; exact rfl)
        all_goals exact ⟨DVL bd own (some (b, j, junk)) dl, by simp only [DVL, slV, blkL]; (focus ((repeat' (first | exact Keep.nil _ | exact Ext.one _ _ | apply Keep.cons)); done)), some (b, j, junk), hov, rfl⟩
      rw [decide_eq_false he] at hq
      by_cases hse : c.ser ≤ h.ser
      · rw [if_pos (.inr hse)] at hv
        rw [hv]
        refine enterK (tb := tb) Tryz.func26 rfl Tryz.ntmps26 rfl ?_
        simp only [kvC, DVL, slV, blkL]
        repeat' (first | (apply R.is1; first | (apply R.isBin; (apply R.pure; exact rfl; (apply Ok1.geq_t; exact rfl; exact rfl; omega))) | (apply R.isCall; first | apply R.callP rfl rfl rfl hrg | (apply R.callE (Li := DVL bd own (some (b, j, junk)) dl); (iterate 3 exact rfl); exact Ext.cons _ (Ext.all _); intro w1 hw1; exact hdf w1; rintro v Lo ⟨rfl, rfl⟩; simp only [DVL, slV, blkL, List.cons_append, List.nil_append, List.append_nil])) | (apply R.pure; exact rfl; first | (apply Ok1.move; exact rfl) | (apply Ok1.fieldAddr; (iterate 5 exact rfl)) | (apply Ok1.load; exact rfl; first | (apply Ld.own1; exact rfl; exact rfl; exact At.head; exact rfl) | (apply Ld.ownk; exact rfl; exact rfl; exact At.head; exact rfl)) | (apply Ok1.assign; exact rfl) | (apply Ok1.not_t; exact rfl)) | (apply R.box; (iterate 3 exact rfl); intro)) | apply R.nil | (apply T.is; first | (apply T.drawC (id := 3) [0,1] (by decide); ((apply A.take 0; exact rfl; exact rfl; kernel_rfl; kernel_rfl; kernel_rfl; (apply Ok1.fieldAddr; (iterate 5 exact rfl))) <;> (apply A.take 1; exact rfl; exact rfl; kernel_rfl; kernel_rfl; kernel_rfl; (apply Ok1.load; exact rfl; (apply Ld.own1; exact rfl; exact rfl; exact At.head; exact rfl))) <;> (apply A.take 2; exact rfl; exact rfl; kernel_rfl; kernel_rfl; kernel_rfl; (apply Ok1.move; exact rfl)) <;> (apply A.take 3; exact rfl; exact rfl; kernel_rfl; kernel_rfl; kernel_rfl; (apply Ok1.nilCheck; exact rfl)) <;> (apply A.take 4; exact rfl; exact rfl; kernel_rfl; kernel_rfl; kernel_rfl; (apply Ok1.fieldAddr; (iterate 5 exact rfl))) <;> (apply A.take 5; exact rfl; exact rfl; kernel_rfl; kernel_rfl; kernel_rfl; (apply Ok1.fieldAddr; (iterate 5 exact rfl))) <;> (apply A.take 6; exact rfl; exact rfl; kernel_rfl; kernel_rfl; kernel_rfl; (apply Ok1.load; exact rfl; (apply Ld.own1; exact rfl; exact rfl; (focus ((repeat' (first | exact At.head | apply At.tail)); done)); exact rfl))) <;> ((apply A.take 7; exact rfl; exact rfl; kernel_rfl; kernel_rfl; kernel_rfl; (apply Ok1.eql_f; exact rfl; exact rfl; omega))) <;> (apply A.done; kernel_rfl))) | (apply T.drawC (id := 7) [0,1,2] (by decide); ((apply A.take 0; exact rfl; exact rfl; kernel_rfl; kernel_rfl; kernel_rfl; (apply Ok1.move; exact rfl)) <;> (apply A.take 1; exact rfl; exact rfl; kernel_rfl; kernel_rfl; kernel_rfl; (apply Ok1.nilCheck; exact rfl)) <;> (apply A.take 2; exact rfl; exact rfl; kernel_rfl; kernel_rfl; kernel_rfl; (apply Ok1.fieldAddr; (iterate 5 exact rfl))) <;> (apply A.take 3; exact rfl; exact rfl; kernel_rfl; kernel_rfl; kernel_rfl; (apply Ok1.load; exact rfl; (apply Ld.own1; exact rfl; exact rfl; exact At.head; exact rfl))) <;> (apply A.take 4; exact rfl; exact rfl; kernel_rfl; kernel_rfl; kernel_rfl; (apply Ok1.move; exact rfl)) <;> (apply A.take 5; exact rfl; exact rfl; kernel_rfl; kernel_rfl; kernel_rfl; (apply Ok1.indexAddr; (iterate 5 exact rfl); omega; omega)) <;> (apply A.take 6; exact rfl; exact rfl; kernel_rfl; kernel_rfl; kernel_rfl; (apply Ok1.fieldAddr; (iterate 5 exact rfl))) <;> (apply A.take 7; exact rfl; exact rfl; kernel_rfl; kernel_rfl; kernel_rfl; (apply Ok1.load; exact rfl; (apply Ld.ownrowk (f := 0); (focus ((repeat' (first | exact At.head | apply At.tail)); done)); exact evC_len; exact hi; (focus ((simp; done))); (iterate 3 exact rfl)))) <;> (apply A.take 8; exact rfl; exact rfl; kernel_rfl; kernel_rfl; kernel_rfl; (apply Ok1.load; exact rfl; (apply Ld.ownk; exact rfl; exact rfl; (focus ((repeat' (first | exact At.head | apply At.tail)); done)); exact rfl))) <;> ((apply A.take 9; exact rfl; exact rfl; kernel_rfl; kernel_rfl; kernel_rfl; (apply Ok1.eqlFq2; (iterate 7 exact rfl); exact hq))) <;> (apply A.done; kernel_rfl))) | (apply T.drawC (id := 9) [0,1,2] (by decide); ((apply A.take 0; exact rfl; exact rfl; kernel_rfl; kernel_rfl; kernel_rfl; (apply Ok1.move; exact rfl)) <;> (apply A.take 1; exact rfl; exact rfl; kernel_rfl; kernel_rfl; kernel_rfl; (apply Ok1.nilCheck; exact rfl)) <;> (apply A.take 2; exact rfl; exact rfl; kernel_rfl; kernel_rfl; kernel_rfl; (apply Ok1.fieldAddr; (iterate 5 exact rfl))) <;> (apply A.take 3; exact rfl; exact rfl; kernel_rfl; kernel_rfl; kernel_rfl; (apply Ok1.load; exact rfl; (apply Ld.own1; exact rfl; exact rfl; exact At.head; exact rfl))) <;> (apply A.take 4; exact rfl; exact rfl; kernel_rfl; kernel_rfl; kernel_rfl; (apply Ok1.move; exact rfl)) <;> (apply A.take 5; exact rfl; exact rfl; kernel_rfl; kernel_rfl; kernel_rfl; (apply Ok1.indexAddr; (iterate 5 exact rfl); omega; omega)) <;> (apply A.take 6; exact rfl; exact rfl; kernel_rfl; kernel_rfl; kernel_rfl; (apply Ok1.fieldAddr; (iterate 5 exact rfl))) <;> (apply A.take 7; exact rfl; exact rfl; kernel_rfl; kernel_rfl; kernel_rfl; (apply Ok1.fieldAddr; (iterate 5 exact rfl))) <;> (apply A.take 8; exact rfl; exact rfl; kernel_rfl; kernel_rfl; kernel_rfl; (apply Ok1.load; exact rfl; (apply Ld.ownrow1 (f := 3); (focus ((repeat' (first | exact At.head | apply At.tail)); done)); exact evC_len; exact hi; (focus ((simp; done))); (iterate 3 exact rfl)))) <;> (apply A.take 9; exact rfl; exact rfl; kernel_rfl; kernel_rfl; kernel_rfl; (apply Ok1.fieldAddr; (iterate 5 exact rfl))) <;> (apply A.take 10; exact rfl; exact rfl; kernel_rfl; kernel_rfl; kernel_rfl; (apply Ok1.load; exact rfl; (apply Ld.own1; exact rfl; exact rfl; (focus ((repeat' (first | exact At.head | apply At.tail)); done)); exact rfl))) <;> ((apply A.take 11; exact rfl; exact rfl; kernel_rfl; kernel_rfl; kernel_rfl; (apply Ok1.geq_t; exact rfl; exact rfl; omega))) <;> (apply A.done; kernel_rfl))) | apply T.seq | apply T.region | apply T.skip | apply T.ret | (apply T.cond_t; exact rfl) | (apply T.cond_f; exact rfl)))
        all_goals (apply RetOk.t; exact rfl)
        all_goals exact ⟨DVL bd own (some (b, j, junk)) dl, by simp only [DVL, slV, blkL]; (focus ((repeat' (first | exact Keep.nil _ | exact Ext.one _ _ | apply Keep.cons)); done)), some (b, j, junk), hov, rfl⟩
      · rw [if_neg (fun h => h.elim he hse), hvs] at hv
        rw [hv]
        refine enterK (tb := tb) Tryz.func26 rfl Tryz.ntmps26 rfl ?_
        simp only [kvC, DVL, slV, blkL]
        repeat' (first | (apply R.is1; first | (apply R.isBin; (apply R.pure; exact rfl; (apply Ok1.geq_t; exact rfl; exact rfl; omega))) | (apply R.isCall; first | apply R.callP rfl rfl rfl hrg | (apply R.callE (Li := DVL bd own (some (b, j, junk)) dl); (iterate 3 exact rfl); exact Ext.cons _ (Ext.all _); intro w1 hw1; exact hdf w1; rintro v Lo ⟨rfl, rfl⟩; simp only [DVL, slV, blkL, List.cons_append, List.nil_append, List.append_nil])) | (apply R.pure; exact rfl; first | (apply Ok1.move; exact rfl) | (apply Ok1.fieldAddr; (iterate 5 exact rfl)) | (apply Ok1.load; exact rfl; first | (apply Ld.own1; exact rfl; exact rfl; exact At.head; exact rfl) | (apply Ld.ownk; exact rfl; exact rfl; exact At.head; exact rfl)) | (apply Ok1.assign; exact rfl) | (apply Ok1.not_t; exact rfl)) | (apply R.box; (iterate 3 exact rfl); intro)) | apply R.nil | (apply T.is; first | (apply T.drawC (id := 3) [0,1] (by decide); ((apply A.take 0; exact rfl; exact rfl; kernel_rfl; kernel_rfl; kernel_rfl; (apply Ok1.fieldAddr; (iterate 5 exact rfl))) <;> (apply A.take 1; exact rfl; exact rfl; kernel_rfl; kernel_rfl; kernel_rfl; (apply Ok1.load; exact rfl; (apply Ld.own1; exact rfl; exact rfl; exact At.head; exact rfl))) <;> (apply A.take 2; exact rfl; exact rfl; kernel_rfl; kernel_rfl; kernel_rfl; (apply Ok1.move; exact rfl)) <;> (apply A.take 3; exact rfl; exact rfl; kernel_rfl; kernel_rfl; kernel_rfl; (apply Ok1.nilCheck; exact rfl)) <;> (apply A.take 4; exact rfl; exact rfl; kernel_rfl; kernel_rfl; kernel_rfl; (apply Ok1.fieldAddr; (iterate 5 exact rfl))) <;> (apply A.take 5; exact rfl; exact rfl; kernel_rfl; kernel_rfl; kernel_rfl; (apply Ok1.fieldAddr; (iterate 5 exact rfl))) <;> (apply A.take 6; exact rfl; exact rfl; kernel_rfl; kernel_rfl; kernel_rfl; (apply Ok1.load; exact rfl; (apply Ld.own1; exact rfl; exact rfl; (focus ((repeat' (first | exact At.head | apply At.tail)); done)); exact rfl))) <;> ((apply A.take 7; exact rfl; exact rfl; kernel_rfl; kernel_rfl; kernel_rfl; (apply Ok1.eql_f; exact rfl; exact rfl; omega))) <;> (apply A.done; kernel_rfl))) | (apply T.drawC (id := 7) [0,1,2] (by decide); ((apply A.take 0; exact rfl; exact rfl; kernel_rfl; kernel_rfl; kernel_rfl; (apply Ok1.move; exact rfl)) <;> (apply A.take 1; exact rfl; exact rfl; kernel_rfl; kernel_rfl; kernel_rfl; (apply Ok1.nilCheck; exact rfl)) <;> (apply A.take 2; exact rfl; exact rfl; kernel_rfl; kernel_rfl; kernel_rfl; (apply Ok1.fieldAddr; (iterate 5 exact rfl))) <;> (apply A.take 3; exact rfl; exact rfl; kernel_rfl; kernel_rfl; kernel_rfl; (apply Ok1.load; exact rfl; (apply Ld.own1; exact rfl; exact rfl; exact At.head; exact rfl))) <;> (apply A.take 4; exact rfl; exact rfl; kernel_rfl; kernel_rfl; kernel_rfl; (apply Ok1.move; exact rfl)) <;> (apply A.take 5; exact rfl; exact rfl; kernel_rfl; kernel_rfl; kernel_rfl; (apply Ok1.indexAddr; (iterate 5 exact rfl); omega; omega)) <;> (apply A.take 6; exact rfl; exact rfl; kernel_rfl; kernel_rfl; kernel_rfl; (apply Ok1.fieldAddr; (iterate 5 exact rfl))) <;> (apply A.take 7; exact rfl; exact rfl; kernel_rfl; kernel_rfl; kernel_rfl; (apply Ok1.load; exact rfl; (apply Ld.ownrowk (f := 0); (focus ((repeat' (first | exact At.head | apply At.tail)); done)); exact evC_len; exact hi; (focus ((simp; done))); (iterate 3 exact rfl)))) <;> (apply A.take 8; exact rfl; exact rfl; kernel_rfl; kernel_rfl; kernel_rfl; (apply Ok1.load; exact rfl; (apply Ld.ownk; exact rfl; exact rfl; (focus ((repeat' (first | exact At.head | apply At.tail)); done)); exact rfl))) <;> ((apply A.take 9; exact rfl; exact rfl; kernel_rfl; kernel_rfl; kernel_rfl; (apply Ok1.eqlFq2; (iterate 7 exact rfl); exact hq))) <;> (apply A.done; kernel_rfl))) | (apply T.drawC (id := 9) [0,1,2] (by decide); ((apply A.take 0; exact rfl; exact rfl; kernel_rfl; kernel_rfl; kernel_rfl; (apply Ok1.move; exact rfl)) <;> (apply A.take 1; exact rfl; exact rfl; kernel_rfl; kernel_rfl; kernel_rfl; (apply Ok1.nilCheck; exact rfl)) <;> (apply A.take 2; exact rfl; exact rfl; kernel_rfl; kernel_rfl; kernel_rfl; (apply Ok1.fieldAddr; (iterate 5 exact rfl))) <;> (apply A.take 3; exact rfl; exact rfl; kernel_rfl; kernel_rfl; kernel_rfl; (apply Ok1.load; exact rfl; (apply Ld.own1; exact rfl; exact rfl; exact At.head; exact rfl))) <;> (apply A.take 4; exact rfl; exact rfl; kernel_rfl; kernel_rfl; kernel_rfl; (apply Ok1.move; exact rfl)) <;> (apply A.take 5; exact rfl; exact rfl; kernel_rfl; kernel_rfl; kernel_rfl; (apply Ok1.indexAddr; (iterate 5 exact rfl); omega; omega)) <;> (apply A.take 6; exact rfl; exact rfl; kernel_rfl; kernel_rfl; kernel_rfl; (apply Ok1.fieldAddr; (iterate 5 exact rfl))) <;> (apply A.take 7; exact rfl; exact rfl; kernel_rfl; kernel_rfl; kernel_rfl; (apply Ok1.fieldAddr; (iterate 5 exact rfl))) <;> (apply A.take 8; exact rfl; exact rfl; kernel_rfl; kernel_rfl; kernel_rfl; (apply Ok1.load; exact rfl; (apply Ld.ownrow1 (f := 3); (focus ((repeat' (first | exact At.head | apply At.tail)); done)); exact evC_len; exact hi; (focus ((simp; done))); (iterate 3 exact rfl)))) <;> (apply A.take 9; exact rfl; exact rfl; kernel_rfl; kernel_rfl; kernel_rfl; (apply Ok1.fieldAddr; (iterate 5 exact rfl))) <;> (apply A.take 10; exact rfl; exact rfl; kernel_rfl; kernel_rfl; kernel_rfl; (apply Ok1.load; exact rfl; (apply Ld.own1; exact rfl; exact rfl; (focus ((repeat' (first | exact At.head | apply At.tail)); done)); exact rfl))) <;> ((apply A.take 11; exact rfl; exact rfl; kernel_rfl; kernel_rfl; kernel_rfl; (apply Ok1.geq_f; exact rfl; exact rfl; omega))) <;> (apply A.done; kernel_rfl))) | (apply T.drawC (id := 11) [0,2] (by decide); ((apply A.take 0; exact rfl; exact rfl; kernel_rfl; kernel_rfl; kernel_rfl; (apply Ok1.move; exact rfl)) <;> (apply A.take 1; exact rfl; exact rfl; kernel_rfl; kernel_rfl; kernel_rfl; (apply Ok1.nilCheck; exact rfl)) <;> (apply A.take 2; exact rfl; exact rfl; kernel_rfl; kernel_rfl; kernel_rfl; (apply Ok1.fieldAddr; (iterate 5 exact rfl))) <;> (apply A.take 3; exact rfl; exact rfl; kernel_rfl; kernel_rfl; kernel_rfl; (apply Ok1.load; exact rfl; (apply Ld.own1; exact rfl; exact rfl; exact At.head; exact rfl))) <;> (apply A.take 4; exact rfl; exact rfl; kernel_rfl; kernel_rfl; kernel_rfl; (apply Ok1.move; exact rfl)) <;> (apply A.take 5; exact rfl; exact rfl; kernel_rfl; kernel_rfl; kernel_rfl; (apply Ok1.load; exact rfl; (apply Ld.ownk; exact rfl; exact rfl; (focus ((repeat' (first | exact At.head | apply At.tail)); done)); exact rfl))) <;> (apply A.take 6; exact rfl; exact rfl; kernel_rfl; kernel_rfl; kernel_rfl; (apply Ok1.move; exact rfl)) <;> (apply A.take 7; exact rfl; exact rfl; kernel_rfl; kernel_rfl; kernel_rfl; (apply Ok1.build; (iterate 5 exact rfl))) <;> (apply A.take 8; exact rfl; exact rfl; kernel_rfl; kernel_rfl; kernel_rfl; (apply Ok1.indexAddr; (iterate 5 exact rfl); omega; omega)) <;> (apply A.one 9; kernel_rfl; exact rfl; (((apply R.store; (iterate 6 exact rfl); (focus ((repeat' (first | exact Upd.head | apply Upd.tail)); done)); (focus (simp; exact hset))))); apply R.nil; refine ⟨?_, ?_⟩; (focus ((repeat' (first | exact trivial | (refine ⟨?_, ?_⟩; (focus ((repeat' (first | exact At.head | apply At.tail)); done)))))))) <;> (apply A.done; kernel_rfl))) | apply T.seq | apply T.region | apply T.skip | apply T.ret | (apply T.cond_t; exact rfl) | (apply T.cond_f; exact rfl)))
        all_goals (apply RetOk.t; exact rfl)
        all_goals exact ⟨DVL bd own (some (b, j, junk)) (dl.set i c), by simp only [DVL, slV, blkL, hls]; (focus ((repeat' (first | exact Keep.nil _ | exact Ext.one _ _ | apply Keep.cons)); done)), some (b, j, junk), ⟨by rw [hfs, hls]; exact hov.1, hov.2⟩, rfl⟩
end Go.Proofs.YtplhnkmmhndkjaaGreat
set_option linter.unusedSimpArgs false
set_option linter.unusedVariables false
namespace Go.Proofs.YtplhnkmmhndkjaaGreat
open Go.RowKit Go.Shelf
set_option pp.deepTerms.threshold 8
set_option maxRecDepth 100000
theorem Hp.still {L : Lst} {w w' : World} (hin : ∀ z ∈ L, w.heap[z.1]? = some z.2) (h : Hp w (blks L) L w') : Chg [] w w' := by
  refine ⟨h.chg.os, h.chg.tape, h.chg.output, h.chg.size, h.chg.drawn, fun k hk _ => ?_⟩
  by_cases hm : k ∈ blks L
  · obtain ⟨z, hz, rfl⟩ := List.mem_map.1 hm
    rw [h.get z.1 z.2 hz, hin z hz]
  · exact h.chg.block k hk hm
theorem VR9.ne {w : World} {bv bm : Nat} {own : Cl} {ms : VMs} {clk : Nat} (h : VR9 w bv bm own ms clk) : bv ≠ bm := by
  rintro rfl
  have := h.v.symm.trans h.m
  simp [mobj] at this
theorem VR9.mem {w : World} {bv bm : Nat} {own : Cl} {ms : VMs} {clk : Nat} (h : VR9 w bv bm own ms clk) : ∀ z ∈ VL bv bm own ms clk, w.heap[z.1]? = some z.2 := by
  intro z hz
  simp only [VL, List.mem_cons, List.not_mem_nil, or_false] at hz
  rcases hz with rfl | rfl
  · exact h.v
  · exact h.m
theorem VR9.nod {w : World} {bv bm : Nat} {own : Cl} {ms : VMs} {clk : Nat} (h : VR9 w bv bm own ms clk) : ((VL bv bm own ms clk).map (·.1)).Nodup := by
  simp [VL, h.ne]
theorem vfind_w (bv bm : Nat) (own : Cl) (ms : VMs) (clk : Nat) (id : Int) (w : World) (h : VR9 w bv bm own ms clk) : CallW Tryz.prog 66 [.pointer (some ⟨bv, 0, none⟩), .int .i64 id] w fun v _ => v = (match mget id ms with | some c => .tuple #[evE c, .int .i64 0] | none => .tuple #[evZ, .int .i64 7]) :=
  (vfind_ok bv bm own ms clk id w).w9 h.mem h.nod fun _ hp => hp.still h.mem
theorem vown_w (bv bm : Nat) (own : Cl) (ms : VMs) (clk : Nat) (w : World) (h : VR9 w bv bm own ms clk) : CallW Tryz.prog 69 [.pointer (some ⟨bv, 0, none⟩)] w fun v _ => v = kvC own :=
  (vown_ok bv bm own ms clk w).w9 h.mem h.nod fun _ hp => hp.still h.mem
theorem has_w (bs : Nat) (gs : List Lg) (hg : GOk gs) (s : Int) (w : World) (hs : SetR w bs gs) : CallW Tryz.prog 32 [.pointer (some ⟨bs, 0, none⟩), .int .i64 s] w fun v _ => v = .bool (decide (s ∈ lcat gs)) :=
  (has_ok bs gs hg s w hs).w9 (by simp) (by simp) fun _ hp => hp.still (by simp)
theorem expd_ok (c : Cl) (t : Int) : CallP Tryz.prog 31 [kvC c, .int .i64 t] (.bool (decide (t ≥ c.exp))) := by
  refine enterP (tb := tb) Tryz.func31 rfl Tryz.ntmps31 rfl fun w => ?_
  simp only [kvC]
  repeat' (first | (apply R.is1; first | (apply R.isBin; (apply R.geq rfl rfl rfl <;> intro)) | (apply R.pure; exact rfl; first | (apply Ok1.move; exact rfl) | (apply Ok1.fieldAddr; (iterate 5 exact rfl)) | (apply Ok1.load; exact rfl; (apply Ld.own1; exact rfl; exact rfl; exact At.head; exact rfl)) | (apply Ok1.assign; exact rfl)) | (apply R.box; (iterate 3 exact rfl); intro)) | apply R.nil | (apply T.is; first | apply T.seq | apply T.region | apply T.ret))
  all_goals (apply RetOk.t; exact rfl)
  all_goals simp_all
def kOf (b : Nat) : Value := .pointer (some ⟨b, 0, none⟩)
theorem cand1_ok (b : Nat) (c x : Cl) (w : World) (hb : w.heap[b]? = some (.cells ⟨[.int .i64 c.id, .int .i64 c.roles, .int .i64 c.exp, .int .i64 c.ser]⟩ 71 (0, 0))) : CallW Tryz.prog 68 [kvC x, kOf b] w fun v _ => v = .bool (decide (x.id = c.id)) := by
  refine enterW (tb := tb) Tryz.func68 rfl Tryz.ntmps68 rfl ?_
  simp only [kvC, kOf]
  repeat' (first | (apply R.is1; first | (apply R.isBin; (apply R.eql rfl rfl rfl <;> intro)) | (apply R.pure; exact rfl; first | (apply Ok1.load; exact rfl; (apply Ld.blk1; exact rfl; exact rfl; exact hb; exact List.not_mem_nil; exact rfl)) | (apply Ok1.fieldAddr; (iterate 5 exact rfl)) | (apply Ok1.load; exact rfl; (apply Ld.own1; exact rfl; exact rfl; exact At.head; exact rfl)) | (apply Ok1.assign; exact rfl)) | (apply R.box; (iterate 3 exact rfl); intro)) | apply R.nil | (apply T.is; first | apply T.seq | apply T.region | apply T.ret))
  all_goals (apply RetOk.t; exact rfl)
  all_goals simp_all
theorem kidx_ok (p : Option Addr) (cap : Nat) (xs : List Cl) (hbig : xs.length ≤ 1000000) (b : Nat) (c : Cl) (w : World) (hp : RdSl w p Cl.v xs) (hb : w.heap[b]? = some (.cells ⟨[.int .i64 c.id, .int .i64 c.roles, .int .i64 c.exp, .int .i64 c.ser]⟩ 71 (0, 0))) :
    CallW Tryz.prog 102 [.slice p xs.length cap, .func (.func 68) #[] #[kOf b]] w fun v _ => v = .int .i64 (vpos xs c.id) := by
  refine enterW (tb := tb) Tryz.func102 rfl Tryz.ntmps102 rfl ?_
  repeat' (first | (apply R.is1; first | (apply R.isCall; (apply R.pure; exact rfl; (apply Ok1.lenS; (iterate 3 exact rfl)))) | (apply R.pure; exact rfl; first | (apply Ok1.move; exact rfl) | (apply Ok1.assign; exact rfl))) | apply R.nil | (apply T.is; first | apply T.seq | apply T.region | apply T.block))
  apply T.loopK (α := Nat) (I := fun i => i ≤ xs.length ∧ ∀ x ∈ xs.take i, x.id ≠ c.id) (σi := fun i => [(0, .slice p xs.length cap), (1, .func (.func 68) #[] #[kOf b]), (7, .int .i64 xs.length), (8, .int .i64 i)]) (Li := fun _ => []) (μ := fun i => xs.length - i) (i0 := 0)
  · exact ⟨Nat.zero_le _, by simp⟩
  · exact ⟨rfl, rfl, rfl, rfl, trivial⟩
  · (focus ((repeat' (exact Keep.nil _)); done))
  · intro i ⟨hi, hall⟩
    rcases Nat.lt_or_ge i xs.length with hlt | hge
    · obtain ⟨x, hx⟩ : ∃ x, xs[i]? = some x := ⟨_, List.getElem?_eq_getElem (by omega)⟩
      obtain ⟨bb, o, hpe, H⟩ := hp.at hx
      replace H := H 4 Cl.v_len4
      have hgx := fun w1 (hc : Chg [] w w1) => cand1_ok b c x w1 (hc.heap hb List.not_mem_nil)
      by_cases hxi : x.id = c.id
      · simp only [decide_eq_true hxi] at hgx
        repeat' (first | (apply R.is1; first | (apply R.isBin; (apply R.pure; exact rfl; (apply Ok1.lss_t; exact rfl; exact rfl; omega))) | (apply R.isCall; (apply R.callFV (fa := []) (cb := [kOf b]); (iterate 4 exact rfl); intro w1 hw1; exact hgx w1 hw1.chg)) | (apply R.pure; exact rfl; first | (apply Ok1.indexAddrP; (iterate 4 exact rfl); exact hpe; exact rfl; omega; omega) | (apply Ok1.load; exact rfl; apply Ld.rowk0 H; exact rfl; exact List.not_mem_nil; (iterate 3 exact rfl)) | (apply Ok1.move; exact rfl) | (apply Ok1.assign; exact rfl))) | apply R.nil | (apply T.is; first | apply T.seq | apply T.region | apply T.block | apply T.skip | apply T.ret | (apply T.cond_t; exact rfl)))
        (apply RetOk.t; exact rfl)
        rw [vpos_at hall hx hxi]
      · simp only [decide_eq_false hxi] at hgx
        repeat' (first | (apply R.is1; first | (apply R.isBin; (apply R.pure; exact rfl; first | (apply Ok1.add64; exact rfl; exact rfl; omega; omega) | (apply Ok1.lss_t; exact rfl; exact rfl; omega))) | (apply R.isCall; (apply R.callFV (fa := []) (cb := [kOf b]); (iterate 4 exact rfl); intro w1 hw1; exact hgx w1 hw1.chg)) | (apply R.pure; exact rfl; first | (apply Ok1.indexAddrP; (iterate 4 exact rfl); exact hpe; exact rfl; omega; omega) | (apply Ok1.load; exact rfl; apply Ld.rowk0 H; exact rfl; exact List.not_mem_nil; (iterate 3 exact rfl)) | (apply Ok1.move; exact rfl) | (apply Ok1.assign; exact rfl))) | apply R.nil | (apply T.is; first | apply T.seq | apply T.region | apply T.block | apply T.skip | (apply T.cond_t; exact rfl) | (apply T.cond_f; exact rfl)))
        refine ⟨i + 1, ⟨by omega, ?_⟩, by omega, ⟨rfl, rfl, rfl, rfl, trivial⟩, by (focus ((repeat' (exact Keep.nil _)); done))⟩
        intro y hy
        rw [List.take_add_one, hx] at hy
        rcases List.mem_append.1 hy with h | h
        · exact hall y h
        · simp only [Option.toList, List.mem_singleton] at h
          rw [h]; exact hxi
    · have him : i = xs.length := by omega
      subst him
      rw [List.take_length] at hall
      repeat' (first | (apply R.is1; first | (apply R.isBin; (apply R.pure; exact rfl; (apply Ok1.lss_f; exact rfl; exact rfl; omega))) | (apply R.pure; exact rfl; (apply Ok1.assign; exact rfl))) | apply R.nil | (apply T.is; first | apply T.seq | apply T.region | apply T.exit | apply T.ret | (apply T.cond_f; exact rfl)))
      (apply RetOk.t; exact rfl)
      rw [vpos_none hall]
def hasId (xs : List Cl) (id : Int) : Bool := xs.any fun x => decide (x.id = id)
theorem hasId_pos (xs : List Cl) (id : Int) : (0 ≤ vpos xs id) ↔ hasId xs id = true := by
  rcases vpos_find (dl := xs) (id := id) with ⟨hf, hp⟩ | ⟨i, h, hi, hid, hf, hp⟩
  · rw [hp]
    have := vfind_none hf
    simp [hasId]
    exact this
  · rw [hp]
    simp [hasId]
    exact ⟨h, List.mem_of_getElem? hi, hid⟩
theorem kcont_ok (p : Option Addr) (cap : Nat) (xs : List Cl) (hbig : xs.length ≤ 1000000) (b : Nat) (c : Cl) (w : World) (hp : RdSl w p Cl.v xs) (hb : w.heap[b]? = some (.cells ⟨[.int .i64 c.id, .int .i64 c.roles, .int .i64 c.exp, .int .i64 c.ser]⟩ 71 (0, 0))) :
    CallW Tryz.prog 67 [.slice p xs.length cap, .func (.func 68) #[] #[kOf b]] w fun v _ => v = .bool (hasId xs c.id) := by
  have hq := hasId_pos xs c.id
  have h := fun w1 (hc : Chg [] w w1) => kidx_ok p cap xs hbig b c w1 (hp.chg' hc (fun _ => Off.nil _)) (hc.heap hb List.not_mem_nil)
  refine enterW (tb := tb) Tryz.func67 rfl Tryz.ntmps67 rfl ?_
  repeat' (first | (apply R.is1; first | (apply R.isBin; (apply R.geq rfl rfl rfl <;> intro)) | (apply R.isCall; (apply R.callW (vs := [.slice p xs.length cap, .func (.func 68) #[] #[kOf b]]); (iterate 3 exact rfl); intro w1 hw1; exact h w1 hw1.chg; rintro v rfl)) | (apply R.pure; exact rfl; first | (apply Ok1.move; exact rfl) | (apply Ok1.assign; exact rfl))) | apply R.nil | (apply T.is; first | apply T.seq | apply T.region | apply T.ret))
  all_goals (apply RetOk.t; exact rfl)
  all_goals cases hqq : hasId xs c.id with
    | true => first | rfl | (have := hq.2 hqq; omega)
    | false => first | rfl | (have h5 : ¬ 0 ≤ vpos xs c.id := fun h => (by rw [hq.1 h] at hqq; cases hqq); omega)
def cskip (own : Cl) (dl : List Cl) (tick : Int) (rl : List Int) (out : List Cl) (c : Cl) : Bool := decide (c.id = own.id) || decide (tick ≥ c.exp) || decide (c.ser ∈ rl) || hasId out c.id || (match vfind dl c.id with | some h => decide (h.ser ≥ c.ser) | none => false)
def candF (own : Cl) (dl : List Cl) (tick : Int) (rl : List Int) (l : List Cl) : List Cl := l.foldl (fun out c => if cskip own dl tick rl out c = true then out else out ++ [c]) []
theorem candF_snoc (own : Cl) (dl : List Cl) (tick : Int) (rl : List Int) {l : List Cl} {i : Nat} {c : Cl} (hc : l[i]? = some c) : candF own dl tick rl (l.take (i + 1)) = if cskip own dl tick rl (candF own dl tick rl (l.take i)) c = true then candF own dl tick rl (l.take i) else candF own dl tick rl (l.take i) ++ [c] := by
  rw [List.take_add_one, hc]
  simp only [candF, Option.toList, List.foldl_append, List.foldl_cons, List.foldl_nil]
  rfl
theorem candF_len (own : Cl) (dl : List Cl) (tick : Int) (rl : List Int) (l : List Cl) : (candF own dl tick rl l).length ≤ l.length := by
  have : ∀ (l out : List Cl), (l.foldl (fun out c => if cskip own dl tick rl out c = true then out else out ++ [c]) out).length ≤ out.length + l.length := by
    intro l
    induction l with
    | nil => intro out; simp
    | cons c r ih =>
      intro out
      simp only [List.foldl_cons, List.length_cons]
      have := ih (if cskip own dl tick rl out c = true then out else out ++ [c])
      split at this
      · rename_i h; rw [if_pos h]; omega
      · rename_i h; rw [if_neg h]; simp only [List.length_append, List.length_singleton] at this; omega
  have h := this l []
  simpa [candF] using h
def zCl : Cl := ⟨0, 0, 0, 0⟩
theorem vfind_w2 (bv bm : Nat) (own : Cl) (ms : VMs) (clk : Nat) (dl : List Cl) (hs : VSame ms clk dl) (id : Int) : ∃ (h : Cl) (e : Int), (∀ w, VR9 w bv bm own ms clk → CallW Tryz.prog 66 [.pointer (some ⟨bv, 0, none⟩), .int .i64 id] w fun v _ => v = .tuple #[evE h, .int .i64 e]) ∧ (∀ x : Int, (e = 0 ∧ h.ser ≥ x) ↔ (match vfind dl id with | some h => decide (h.ser ≥ x) | none => false) = true) := by
  rw [← hs.find id]
  cases hm : mget id ms with
  | some c =>
    refine ⟨c, 0, fun w hw => ?_, fun x => by simp⟩
    have := vfind_w bv bm own ms clk id w hw
    rw [hm] at this
    exact this
  | none =>
    refine ⟨zCl, 7, fun w hw => ?_, fun x => by simp⟩
    have := vfind_w bv bm own ms clk id w hw
    rw [hm] at this
    exact this
theorem candsN_ok (tick : Int) (bs : Nat) (p : Option Addr) (n cap : Nat) : CallP Tryz.prog 29 [.pointer none, .int .i64 tick, .pointer (some ⟨bs, 0, none⟩), .slice p n cap] (.slice none 0 0) := by
  refine enterP (tb := tb) Tryz.func29 rfl Tryz.ntmps29 rfl fun w => ?_
  repeat' (first | (apply R.is1; first | (apply R.isBin; (apply R.pure; exact rfl; (apply Ok1.eqlP; (iterate 5 exact rfl)))) | (apply R.pure; exact rfl; first | (apply Ok1.move; exact rfl) | (apply Ok1.assign; exact rfl))) | apply R.nil | (apply T.is; first | apply T.seq | apply T.region | apply T.scope | apply T.ret | (apply T.cond_t; exact rfl)))
  (apply RetOk.t; exact rfl)
  rfl
theorem cands_ok (bv bm : Nat) (own : Cl) (ms : VMs) (clk : Nat) (dl : List Cl) (hs : VSame ms clk dl) (tick : Int) (bs : Nat) (gs : List Lg) (hg : GOk gs) (p : Option Addr) (cap : Nat) (l : List Cl) (hbig : l.length ≤ 1000) (w : World) (hv : VR9 w bv bm own ms clk) (hst : SetR w bs gs) (hp : RdSl w p Cl.v l) :
    CallM Tryz.prog 29 [.pointer (some ⟨bv, 0, none⟩), .int .i64 tick, .pointer (some ⟨bs, 0, none⟩), .slice p l.length cap] [] w fun v L => ∃ ov, OvOk 4 ov (candF own dl tick (lcat gs) l).length (fl Cl.v (candF own dl tick (lcat gs) l)) ∧ v = slV ov (candF own dl tick (lcat gs) l).length ∧ L = blkL 71 ov (fl Cl.v (candF own dl tick (lcat gs) l)) := by
  refine enterK (tb := tb) Tryz.func29 rfl Tryz.ntmps29 rfl ?_
  repeat' (first | (apply R.is1; first | (apply R.isBin; (apply R.pure; exact rfl; (apply Ok1.eqlP; (iterate 5 exact rfl)))) | (apply R.isCall; (apply R.pure; exact rfl; (apply Ok1.lenS; (iterate 3 exact rfl)))) | (apply R.pure; exact rfl; first | (apply Ok1.move; exact rfl) | (apply Ok1.assign; exact rfl))) | apply R.nil | (apply T.is; first | apply T.seq | apply T.region | apply T.block | apply T.scope | apply T.label | apply T.skip | (apply T.cond_f; exact rfl)))
  apply T.loopK (α := Nat × Ov) (I := fun q => q.1 ≤ l.length ∧ OvOk 4 q.2 (candF own dl tick (lcat gs) (l.take q.1)).length (fl Cl.v (candF own dl tick (lcat gs) (l.take q.1)))) (σi := fun q => [(0, .pointer (some ⟨bv, 0, none⟩)), (1, .int .i64 tick), (2, .pointer (some ⟨bs, 0, none⟩)), (9, slV q.2 (candF own dl tick (lcat gs) (l.take q.1)).length), (17, .slice p l.length cap), (18, .int .i64 l.length), (19, .int .i64 q.1)]) (Li := fun q => blkL 71 q.2 (fl Cl.v (candF own dl tick (lcat gs) (l.take q.1)))) (μ := fun q => l.length - q.1) (i0 := (0, none))
  · exact ⟨Nat.zero_le _, OvOk.start 4⟩
  · exact ⟨rfl, rfl, rfl, rfl, rfl, rfl, rfl, trivial⟩
  · exact Keep.nil _
  · rintro ⟨i, ov⟩ ⟨hi, hov⟩
    simp only at hi hov ⊢
    rcases Nat.lt_or_ge i l.length with hlt | hge
    · obtain ⟨c, hc⟩ : ∃ c, l[i]? = some c := ⟨_, List.getElem?_eq_getElem (by omega)⟩
      obtain ⟨bb, o, hpe, H⟩ := hp.at hc
      replace H := H 4 Cl.v_len4
      obtain ⟨h, e, hfnd, hfe⟩ := vfind_w2 bv bm own ms clk dl hs c.id
      replace hfe := hfe c.ser
      have hsn := candF_snoc own dl tick (lcat gs) hc
      have hOl := candF_len own dl tick (lcat gs) (l.take i)
      rw [List.length_take] at hOl
      have hcs : cskip own dl tick (lcat gs) (candF own dl tick (lcat gs) (l.take i)) c = (decide (c.id = own.id) || decide (tick ≥ c.exp) || decide (c.ser ∈ lcat gs) || hasId (candF own dl tick (lcat gs) (l.take i)) c.id || (match vfind dl c.id with | some h => decide (h.ser ≥ c.ser) | none => false)) := rfl
      generalize candF own dl tick (lcat gs) (l.take i) = O at *
      obtain ⟨O2, hO2⟩ : ∃ O2, candF own dl tick (lcat gs) (l.take (i + 1)) = O2 := ⟨_, rfl⟩
      rw [hO2] at hsn
      simp only [Cl.v] at H
      repeat' (first | (apply R.is1; first | (apply R.isBin; (apply R.pure; exact rfl; (apply Ok1.lss_t; exact rfl; exact rfl; omega))) | (apply R.isCall; (apply R.callW (vs := [.pointer (some ⟨bv, 0, none⟩), .int .i64 c.id]); (iterate 3 exact rfl); intro w1 hw1; exact hfnd w1 (hv.chg hw1.chg); rintro v rfl)) | (apply R.pure; exact rfl; first | (apply Ok1.indexAddrP; (iterate 4 exact rfl); exact hpe; exact rfl; omega; omega) | (apply Ok1.load; exact rfl; apply Ld.rowk0 H; exact rfl; exact List.not_mem_nil; (iterate 3 exact rfl)) | (apply Ok1.move; exact rfl) | (apply Ok1.fieldAddr; (iterate 5 exact rfl)) | (apply Ok1.load; exact rfl; (apply Ld.own1; exact rfl; exact rfl; exact At.head; exact rfl)) | (apply Ok1.assign; exact rfl) | (apply Ok1.extract; exact rfl; exact rfl) | (apply Ok1.makeFunc; exact rfl; exact rfl)) | (apply R.alloc; (iterate 3 exact rfl); intro)) | (apply R.is0; (apply R.store; (iterate 6 exact rfl); exact Upd.head; exact rfl)) | apply R.nil | (apply T.is; first | apply T.seq | apply T.region | apply T.block | apply T.skip | (apply T.cond_t; exact rfl)))
      rename_i b11 b12
      have hown := fun w1 (hc : Chg [] w w1) => vown_w bv bm own ms clk w1 (hv.chg hc)
      have hexp := expd_ok c tick
      have hhas := fun w1 (hc : Chg [] w w1) => has_w bs gs hg c.ser w1 (hst.chg hc)
      have hct : ∀ L w1, Hp w [] L w1 → (∀ x ∈ blkL 71 ov (fl Cl.v O), x ∈ L) → (b11, Obj.cells ⟨[.int .i64 c.id, .int .i64 c.roles, .int .i64 c.exp, .int .i64 c.ser]⟩ 71 (0, 0)) ∈ L → CallW Tryz.prog 67 [slV ov O.length, .func (.func 68) #[] #[kOf b11]] w1 fun v _ => v = .bool (hasId O c.id) := by
        intro L w1 hw1 h1 h2
        rw [slV_eq hov]
        exact kcont_ok (ovp ov) _ O (by omega) b11 c w1 (RdSl.own' hw1 h1 hov Cl.v_len4) (hw1.get _ _ h2)
      simp only [kvC] at hexp hown
      by_cases h1 : c.id = own.id
      · rw [decide_eq_true h1] at hcs
        simp only [Bool.true_or] at hcs
        rw [hcs, if_pos rfl] at hsn
        replace hsn := hsn.symm
        subst hsn
        repeat' (first | (apply R.is1; first | (apply R.isBin; (apply R.pure; exact rfl; (apply Ok1.add64; exact rfl; exact rfl; omega; omega))) | (apply R.isCall; (apply R.callW (vs := [slV ov O.length, .func (.func 68) #[] #[kOf b11]]); (iterate 3 exact rfl); intro w1 hw1; exact hct _ w1 hw1 (fun x hx => List.mem_cons_of_mem _ (List.mem_cons_of_mem _ hx)) (List.mem_cons_of_mem _ List.mem_cons_self); rintro v rfl)) | (apply R.pure; exact rfl; first | (apply Ok1.move; exact rfl) | (apply Ok1.assign; exact rfl))) | apply R.nil | (apply T.is; first | (apply T.drawC (id := 9) [0,1] (by decide); ((apply A.take 0; exact rfl; exact rfl; kernel_rfl; kernel_rfl; kernel_rfl; (apply Ok1.fieldAddr; (iterate 5 exact rfl))) <;> (apply A.take 1; exact rfl; exact rfl; kernel_rfl; kernel_rfl; kernel_rfl; (apply Ok1.load; exact rfl; (apply Ld.own1; exact rfl; exact rfl; (focus ((repeat' (first | exact At.head | apply At.tail)); done)); exact rfl))) <;> (apply A.take 2; exact rfl; exact rfl; kernel_rfl; kernel_rfl; kernel_rfl; (apply Ok1.move; exact rfl)) <;> (apply A.one 3; kernel_rfl; exact rfl; (((apply R.callW (vs := [.pointer (some ⟨bv, 0, none⟩)]); (iterate 3 exact rfl); intro w1 hw1; exact hown w1 hw1.chg; rintro v rfl))); apply R.nil; refine ⟨?_, ?_⟩; (focus ((repeat' (first | exact trivial | (refine ⟨?_, ?_⟩; (focus ((repeat' (first | exact At.head | apply At.tail)); done)))))))) <;> (apply A.take 4; exact rfl; exact rfl; kernel_rfl; kernel_rfl; kernel_rfl; (apply Ok1.field1; (iterate 7 exact rfl))) <;> ((apply A.take 5; exact rfl; exact rfl; kernel_rfl; kernel_rfl; kernel_rfl; (apply Ok1.eql_t; exact rfl; exact rfl; omega))) <;> (apply A.take 6; exact rfl; exact rfl; kernel_rfl; kernel_rfl; kernel_rfl; (apply Ok1.move; exact rfl)) <;> ((apply A.skipG 7; exact rfl; exact rfl; rotate_left 3; exact rfl; exact rfl; rotate_right 3; kernel_rfl; kernel_rfl; kernel_rfl)) <;> ((apply A.skipG 8; exact rfl; exact rfl; rotate_left 3; exact rfl; exact rfl; rotate_right 3; kernel_rfl; kernel_rfl; kernel_rfl)) <;> (apply A.one 9; kernel_rfl; exact rfl; (((apply R.isG; (apply R.guard_not; (iterate 3 exact rfl))))); apply R.nil; refine ⟨?_, ?_⟩; (focus ((repeat' (first | exact trivial | (refine ⟨?_, ?_⟩; (focus ((repeat' (first | exact At.head | apply At.tail)); done)))))))) <;> (apply A.take 10; exact rfl; exact rfl; kernel_rfl; kernel_rfl; kernel_rfl; (apply Ok1.pick_t; exact rfl; exact rfl)) <;> (apply A.take 11; exact rfl; exact rfl; kernel_rfl; kernel_rfl; kernel_rfl; (apply Ok1.move; exact rfl)) <;> ((apply A.skipG 12; exact rfl; exact rfl; rotate_left 3; exact rfl; exact rfl; rotate_right 3; kernel_rfl; kernel_rfl; kernel_rfl)) <;> ((apply A.skipG 13; exact rfl; exact rfl; rotate_left 3; exact rfl; exact rfl; rotate_right 3; kernel_rfl; kernel_rfl; kernel_rfl)) <;> ((apply A.skipG 14; exact rfl; exact rfl; rotate_left 3; exact rfl; exact rfl; rotate_right 3; kernel_rfl; kernel_rfl; kernel_rfl)) <;> (apply A.one 15; kernel_rfl; exact rfl; (((apply R.isG; (apply R.guard_not; (iterate 3 exact rfl))))); apply R.nil; refine ⟨?_, ?_⟩; (focus ((repeat' (first | exact trivial | (refine ⟨?_, ?_⟩; (focus ((repeat' (first | exact At.head | apply At.tail)); done)))))))) <;> (apply A.take 16; exact rfl; exact rfl; kernel_rfl; kernel_rfl; kernel_rfl; (apply Ok1.pick_t; exact rfl; exact rfl)) <;> (apply A.take 17; exact rfl; exact rfl; kernel_rfl; kernel_rfl; kernel_rfl; (apply Ok1.move; exact rfl)) <;> ((apply A.skipG 18; exact rfl; exact rfl; rotate_left 3; exact rfl; exact rfl; rotate_right 3; kernel_rfl; kernel_rfl; kernel_rfl)) <;> (apply A.take 19; exact rfl; exact rfl; kernel_rfl; kernel_rfl; kernel_rfl; (apply Ok1.pick_t; exact rfl; exact rfl)) <;> (apply A.take 20; exact rfl; exact rfl; kernel_rfl; kernel_rfl; kernel_rfl; (apply Ok1.assign; exact rfl)) <;> (apply A.done; kernel_rfl))) | apply T.seq | apply T.region | apply T.block | apply T.exit | (apply T.cond_t; exact rfl)))
        refine ⟨(i + 1, ov), ?_⟩
        simp only [hO2]
        exact ⟨⟨by omega, hov⟩, by omega, ⟨rfl, rfl, rfl, rfl, rfl, rfl, rfl, trivial⟩, by (focus ((repeat' (first | exact Ext.all _ | apply Keep.last | apply Ext.cons)); done))⟩
      rw [decide_eq_false h1] at hcs
      by_cases h2 : tick ≥ c.exp
      · rw [decide_eq_true h2] at hcs hexp
        simp only [Bool.true_or, Bool.or_true] at hcs
        rw [hcs, if_pos rfl] at hsn
        replace hsn := hsn.symm
        subst hsn
        repeat' (first | (apply R.is1; first | (apply R.isBin; (apply R.pure; exact rfl; (apply Ok1.add64; exact rfl; exact rfl; omega; omega))) | (apply R.isCall; (apply R.callW (vs := [slV ov O.length, .func (.func 68) #[] #[kOf b11]]); (iterate 3 exact rfl); intro w1 hw1; exact hct _ w1 hw1 (fun x hx => List.mem_cons_of_mem _ (List.mem_cons_of_mem _ hx)) (List.mem_cons_of_mem _ List.mem_cons_self); rintro v rfl)) | (apply R.pure; exact rfl; first | (apply Ok1.move; exact rfl) | (apply Ok1.assign; exact rfl))) | apply R.nil | (apply T.is; first | (apply T.drawC (id := 9) [0,1] (by decide); ((apply A.take 0; exact rfl; exact rfl; kernel_rfl; kernel_rfl; kernel_rfl; (apply Ok1.fieldAddr; (iterate 5 exact rfl))) <;> (apply A.take 1; exact rfl; exact rfl; kernel_rfl; kernel_rfl; kernel_rfl; (apply Ok1.load; exact rfl; (apply Ld.own1; exact rfl; exact rfl; (focus ((repeat' (first | exact At.head | apply At.tail)); done)); exact rfl))) <;> (apply A.take 2; exact rfl; exact rfl; kernel_rfl; kernel_rfl; kernel_rfl; (apply Ok1.move; exact rfl)) <;> (apply A.one 3; kernel_rfl; exact rfl; (((apply R.callW (vs := [.pointer (some ⟨bv, 0, none⟩)]); (iterate 3 exact rfl); intro w1 hw1; exact hown w1 hw1.chg; rintro v rfl))); apply R.nil; refine ⟨?_, ?_⟩; (focus ((repeat' (first | exact trivial | (refine ⟨?_, ?_⟩; (focus ((repeat' (first | exact At.head | apply At.tail)); done)))))))) <;> (apply A.take 4; exact rfl; exact rfl; kernel_rfl; kernel_rfl; kernel_rfl; (apply Ok1.field1; (iterate 7 exact rfl))) <;> ((apply A.take 5; exact rfl; exact rfl; kernel_rfl; kernel_rfl; kernel_rfl; (apply Ok1.eql_f; exact rfl; exact rfl; omega))) <;> (apply A.take 6; exact rfl; exact rfl; kernel_rfl; kernel_rfl; kernel_rfl; (apply Ok1.move; exact rfl)) <;> ((apply A.takeG 7; exact rfl; exact rfl; rotate_left 3; exact rfl; exact rfl; rotate_right 3; kernel_rfl; kernel_rfl; kernel_rfl; (apply Ok1.load; exact rfl; (apply Ld.ownk; exact rfl; exact rfl; (focus ((repeat' (first | exact At.head | apply At.tail)); done)); exact rfl)))) <;> ((apply A.takeG 8; exact rfl; exact rfl; rotate_left 3; exact rfl; exact rfl; rotate_right 3; kernel_rfl; kernel_rfl; kernel_rfl; (apply Ok1.move; exact rfl))) <;> (apply A.one 9; kernel_rfl; exact rfl; (((apply R.isG; apply R.guard_run; exact rfl; exact rfl; (apply R.callP rfl rfl rfl hexp)))); apply R.nil; refine ⟨?_, ?_⟩; (focus ((repeat' (first | exact trivial | (refine ⟨?_, ?_⟩; (focus ((repeat' (first | exact At.head | apply At.tail)); done)))))))) <;> (apply A.take 10; exact rfl; exact rfl; kernel_rfl; kernel_rfl; kernel_rfl; (apply Ok1.pick_f; exact rfl; exact rfl)) <;> (apply A.take 11; exact rfl; exact rfl; kernel_rfl; kernel_rfl; kernel_rfl; (apply Ok1.move; exact rfl)) <;> ((apply A.skipG 12; exact rfl; exact rfl; rotate_left 3; exact rfl; exact rfl; rotate_right 3; kernel_rfl; kernel_rfl; kernel_rfl)) <;> ((apply A.skipG 13; exact rfl; exact rfl; rotate_left 3; exact rfl; exact rfl; rotate_right 3; kernel_rfl; kernel_rfl; kernel_rfl)) <;> ((apply A.skipG 14; exact rfl; exact rfl; rotate_left 3; exact rfl; exact rfl; rotate_right 3; kernel_rfl; kernel_rfl; kernel_rfl)) <;> (apply A.one 15; kernel_rfl; exact rfl; (((apply R.isG; (apply R.guard_not; (iterate 3 exact rfl))))); apply R.nil; refine ⟨?_, ?_⟩; (focus ((repeat' (first | exact trivial | (refine ⟨?_, ?_⟩; (focus ((repeat' (first | exact At.head | apply At.tail)); done)))))))) <;> (apply A.take 16; exact rfl; exact rfl; kernel_rfl; kernel_rfl; kernel_rfl; (apply Ok1.pick_t; exact rfl; exact rfl)) <;> (apply A.take 17; exact rfl; exact rfl; kernel_rfl; kernel_rfl; kernel_rfl; (apply Ok1.move; exact rfl)) <;> ((apply A.skipG 18; exact rfl; exact rfl; rotate_left 3; exact rfl; exact rfl; rotate_right 3; kernel_rfl; kernel_rfl; kernel_rfl)) <;> (apply A.take 19; exact rfl; exact rfl; kernel_rfl; kernel_rfl; kernel_rfl; (apply Ok1.pick_t; exact rfl; exact rfl)) <;> (apply A.take 20; exact rfl; exact rfl; kernel_rfl; kernel_rfl; kernel_rfl; (apply Ok1.assign; exact rfl)) <;> (apply A.done; kernel_rfl))) | apply T.seq | apply T.region | apply T.block | apply T.exit | (apply T.cond_t; exact rfl)))
        refine ⟨(i + 1, ov), ?_⟩
        simp only [hO2]
        exact ⟨⟨by omega, hov⟩, by omega, ⟨rfl, rfl, rfl, rfl, rfl, rfl, rfl, trivial⟩, by (focus ((repeat' (first | exact Ext.all _ | apply Keep.last | apply Ext.cons)); done))⟩
      rw [decide_eq_false h2] at hcs hexp
      by_cases h3 : c.ser ∈ lcat gs
      · rw [decide_eq_true h3] at hcs
        simp only [decide_eq_true h3] at hhas
        simp only [Bool.true_or, Bool.or_true] at hcs
        rw [hcs, if_pos rfl] at hsn
        replace hsn := hsn.symm
        subst hsn
        repeat' (first | (apply R.is1; first | (apply R.isBin; (apply R.pure; exact rfl; (apply Ok1.add64; exact rfl; exact rfl; omega; omega))) | (apply R.isCall; (apply R.callW (vs := [slV ov O.length, .func (.func 68) #[] #[kOf b11]]); (iterate 3 exact rfl); intro w1 hw1; exact hct _ w1 hw1 (fun x hx => List.mem_cons_of_mem _ (List.mem_cons_of_mem _ hx)) (List.mem_cons_of_mem _ List.mem_cons_self); rintro v rfl)) | (apply R.pure; exact rfl; first | (apply Ok1.move; exact rfl) | (apply Ok1.assign; exact rfl))) | apply R.nil | (apply T.is; first | (apply T.drawC (id := 9) [0,1] (by decide); ((apply A.take 0; exact rfl; exact rfl; kernel_rfl; kernel_rfl; kernel_rfl; (apply Ok1.fieldAddr; (iterate 5 exact rfl))) <;> (apply A.take 1; exact rfl; exact rfl; kernel_rfl; kernel_rfl; kernel_rfl; (apply Ok1.load; exact rfl; (apply Ld.own1; exact rfl; exact rfl; (focus ((repeat' (first | exact At.head | apply At.tail)); done)); exact rfl))) <;> (apply A.take 2; exact rfl; exact rfl; kernel_rfl; kernel_rfl; kernel_rfl; (apply Ok1.move; exact rfl)) <;> (apply A.one 3; kernel_rfl; exact rfl; (((apply R.callW (vs := [.pointer (some ⟨bv, 0, none⟩)]); (iterate 3 exact rfl); intro w1 hw1; exact hown w1 hw1.chg; rintro v rfl))); apply R.nil; refine ⟨?_, ?_⟩; (focus ((repeat' (first | exact trivial | (refine ⟨?_, ?_⟩; (focus ((repeat' (first | exact At.head | apply At.tail)); done)))))))) <;> (apply A.take 4; exact rfl; exact rfl; kernel_rfl; kernel_rfl; kernel_rfl; (apply Ok1.field1; (iterate 7 exact rfl))) <;> ((apply A.take 5; exact rfl; exact rfl; kernel_rfl; kernel_rfl; kernel_rfl; (apply Ok1.eql_f; exact rfl; exact rfl; omega))) <;> (apply A.take 6; exact rfl; exact rfl; kernel_rfl; kernel_rfl; kernel_rfl; (apply Ok1.move; exact rfl)) <;> ((apply A.takeG 7; exact rfl; exact rfl; rotate_left 3; exact rfl; exact rfl; rotate_right 3; kernel_rfl; kernel_rfl; kernel_rfl; (apply Ok1.load; exact rfl; (apply Ld.ownk; exact rfl; exact rfl; (focus ((repeat' (first | exact At.head | apply At.tail)); done)); exact rfl)))) <;> ((apply A.takeG 8; exact rfl; exact rfl; rotate_left 3; exact rfl; exact rfl; rotate_right 3; kernel_rfl; kernel_rfl; kernel_rfl; (apply Ok1.move; exact rfl))) <;> (apply A.one 9; kernel_rfl; exact rfl; (((apply R.isG; apply R.guard_run; exact rfl; exact rfl; (apply R.callP rfl rfl rfl hexp)))); apply R.nil; refine ⟨?_, ?_⟩; (focus ((repeat' (first | exact trivial | (refine ⟨?_, ?_⟩; (focus ((repeat' (first | exact At.head | apply At.tail)); done)))))))) <;> (apply A.take 10; exact rfl; exact rfl; kernel_rfl; kernel_rfl; kernel_rfl; (apply Ok1.pick_f; exact rfl; exact rfl)) <;> (apply A.take 11; exact rfl; exact rfl; kernel_rfl; kernel_rfl; kernel_rfl; (apply Ok1.move; exact rfl)) <;> ((apply A.takeG 12; exact rfl; exact rfl; rotate_left 3; exact rfl; exact rfl; rotate_right 3; kernel_rfl; kernel_rfl; kernel_rfl; (apply Ok1.move; exact rfl))) <;> ((apply A.takeG 13; exact rfl; exact rfl; rotate_left 3; exact rfl; exact rfl; rotate_right 3; kernel_rfl; kernel_rfl; kernel_rfl; (apply Ok1.fieldAddr; (iterate 5 exact rfl)))) <;> ((apply A.takeG 14; exact rfl; exact rfl; rotate_left 3; exact rfl; exact rfl; rotate_right 3; kernel_rfl; kernel_rfl; kernel_rfl; (apply Ok1.load; exact rfl; (apply Ld.own1; exact rfl; exact rfl; (focus ((repeat' (first | exact At.head | apply At.tail)); done)); exact rfl)))) <;> (apply A.one 15; kernel_rfl; exact rfl; (((apply R.isG; apply R.guard_run; exact rfl; exact rfl; ((apply R.callW (vs := [.pointer (some ⟨bs, 0, none⟩), .int .i64 c.ser]); (iterate 3 exact rfl); intro w1 hw1; exact hhas w1 hw1.chg; rintro v rfl))))); apply R.nil; refine ⟨?_, ?_⟩; (focus ((repeat' (first | exact trivial | (refine ⟨?_, ?_⟩; (focus ((repeat' (first | exact At.head | apply At.tail)); done)))))))) <;> (apply A.take 16; exact rfl; exact rfl; kernel_rfl; kernel_rfl; kernel_rfl; (apply Ok1.pick_f; exact rfl; exact rfl)) <;> (apply A.take 17; exact rfl; exact rfl; kernel_rfl; kernel_rfl; kernel_rfl; (apply Ok1.move; exact rfl)) <;> ((apply A.skipG 18; exact rfl; exact rfl; rotate_left 3; exact rfl; exact rfl; rotate_right 3; kernel_rfl; kernel_rfl; kernel_rfl)) <;> (apply A.take 19; exact rfl; exact rfl; kernel_rfl; kernel_rfl; kernel_rfl; (apply Ok1.pick_t; exact rfl; exact rfl)) <;> (apply A.take 20; exact rfl; exact rfl; kernel_rfl; kernel_rfl; kernel_rfl; (apply Ok1.assign; exact rfl)) <;> (apply A.done; kernel_rfl))) | apply T.seq | apply T.region | apply T.block | apply T.exit | (apply T.cond_t; exact rfl)))
        refine ⟨(i + 1, ov), ?_⟩
        simp only [hO2]
        exact ⟨⟨by omega, hov⟩, by omega, ⟨rfl, rfl, rfl, rfl, rfl, rfl, rfl, trivial⟩, by (focus ((repeat' (first | exact Ext.all _ | apply Keep.last | apply Ext.cons)); done))⟩
      rw [decide_eq_false h3] at hcs
      simp only [decide_eq_false h3] at hhas
      cases h4 : hasId O c.id with
      | true =>
        rw [h4] at hcs hct
        simp only [Bool.true_or, Bool.or_true] at hcs
        rw [hcs, if_pos rfl] at hsn
        replace hsn := hsn.symm
        subst hsn
        repeat' (first | (apply R.is1; first | (apply R.isBin; (apply R.pure; exact rfl; (apply Ok1.add64; exact rfl; exact rfl; omega; omega))) | (apply R.isCall; (apply R.callW (vs := [slV ov O.length, .func (.func 68) #[] #[kOf b11]]); (iterate 3 exact rfl); intro w1 hw1; exact hct _ w1 hw1 (fun x hx => List.mem_cons_of_mem _ (List.mem_cons_of_mem _ hx)) (List.mem_cons_of_mem _ List.mem_cons_self); rintro v rfl)) | (apply R.pure; exact rfl; first | (apply Ok1.move; exact rfl) | (apply Ok1.assign; exact rfl))) | apply R.nil | (apply T.is; first | (apply T.drawC (id := 9) [0,1] (by decide); ((apply A.take 0; exact rfl; exact rfl; kernel_rfl; kernel_rfl; kernel_rfl; (apply Ok1.fieldAddr; (iterate 5 exact rfl))) <;> (apply A.take 1; exact rfl; exact rfl; kernel_rfl; kernel_rfl; kernel_rfl; (apply Ok1.load; exact rfl; (apply Ld.own1; exact rfl; exact rfl; (focus ((repeat' (first | exact At.head | apply At.tail)); done)); exact rfl))) <;> (apply A.take 2; exact rfl; exact rfl; kernel_rfl; kernel_rfl; kernel_rfl; (apply Ok1.move; exact rfl)) <;> (apply A.one 3; kernel_rfl; exact rfl; (((apply R.callW (vs := [.pointer (some ⟨bv, 0, none⟩)]); (iterate 3 exact rfl); intro w1 hw1; exact hown w1 hw1.chg; rintro v rfl))); apply R.nil; refine ⟨?_, ?_⟩; (focus ((repeat' (first | exact trivial | (refine ⟨?_, ?_⟩; (focus ((repeat' (first | exact At.head | apply At.tail)); done)))))))) <;> (apply A.take 4; exact rfl; exact rfl; kernel_rfl; kernel_rfl; kernel_rfl; (apply Ok1.field1; (iterate 7 exact rfl))) <;> ((apply A.take 5; exact rfl; exact rfl; kernel_rfl; kernel_rfl; kernel_rfl; (apply Ok1.eql_f; exact rfl; exact rfl; omega))) <;> (apply A.take 6; exact rfl; exact rfl; kernel_rfl; kernel_rfl; kernel_rfl; (apply Ok1.move; exact rfl)) <;> ((apply A.takeG 7; exact rfl; exact rfl; rotate_left 3; exact rfl; exact rfl; rotate_right 3; kernel_rfl; kernel_rfl; kernel_rfl; (apply Ok1.load; exact rfl; (apply Ld.ownk; exact rfl; exact rfl; (focus ((repeat' (first | exact At.head | apply At.tail)); done)); exact rfl)))) <;> ((apply A.takeG 8; exact rfl; exact rfl; rotate_left 3; exact rfl; exact rfl; rotate_right 3; kernel_rfl; kernel_rfl; kernel_rfl; (apply Ok1.move; exact rfl))) <;> (apply A.one 9; kernel_rfl; exact rfl; (((apply R.isG; apply R.guard_run; exact rfl; exact rfl; (apply R.callP rfl rfl rfl hexp)))); apply R.nil; refine ⟨?_, ?_⟩; (focus ((repeat' (first | exact trivial | (refine ⟨?_, ?_⟩; (focus ((repeat' (first | exact At.head | apply At.tail)); done)))))))) <;> (apply A.take 10; exact rfl; exact rfl; kernel_rfl; kernel_rfl; kernel_rfl; (apply Ok1.pick_f; exact rfl; exact rfl)) <;> (apply A.take 11; exact rfl; exact rfl; kernel_rfl; kernel_rfl; kernel_rfl; (apply Ok1.move; exact rfl)) <;> ((apply A.takeG 12; exact rfl; exact rfl; rotate_left 3; exact rfl; exact rfl; rotate_right 3; kernel_rfl; kernel_rfl; kernel_rfl; (apply Ok1.move; exact rfl))) <;> ((apply A.takeG 13; exact rfl; exact rfl; rotate_left 3; exact rfl; exact rfl; rotate_right 3; kernel_rfl; kernel_rfl; kernel_rfl; (apply Ok1.fieldAddr; (iterate 5 exact rfl)))) <;> ((apply A.takeG 14; exact rfl; exact rfl; rotate_left 3; exact rfl; exact rfl; rotate_right 3; kernel_rfl; kernel_rfl; kernel_rfl; (apply Ok1.load; exact rfl; (apply Ld.own1; exact rfl; exact rfl; (focus ((repeat' (first | exact At.head | apply At.tail)); done)); exact rfl)))) <;> (apply A.one 15; kernel_rfl; exact rfl; (((apply R.isG; apply R.guard_run; exact rfl; exact rfl; ((apply R.callW (vs := [.pointer (some ⟨bs, 0, none⟩), .int .i64 c.ser]); (iterate 3 exact rfl); intro w1 hw1; exact hhas w1 hw1.chg; rintro v rfl))))); apply R.nil; refine ⟨?_, ?_⟩; (focus ((repeat' (first | exact trivial | (refine ⟨?_, ?_⟩; (focus ((repeat' (first | exact At.head | apply At.tail)); done)))))))) <;> (apply A.take 16; exact rfl; exact rfl; kernel_rfl; kernel_rfl; kernel_rfl; (apply Ok1.pick_f; exact rfl; exact rfl)) <;> (apply A.take 17; exact rfl; exact rfl; kernel_rfl; kernel_rfl; kernel_rfl; (apply Ok1.move; exact rfl)) <;> ((apply A.takeG 18; exact rfl; exact rfl; rotate_left 3; exact rfl; exact rfl; rotate_right 3; kernel_rfl; kernel_rfl; kernel_rfl; (apply Ok1.move; exact rfl))) <;> (apply A.take 19; exact rfl; exact rfl; kernel_rfl; kernel_rfl; kernel_rfl; (apply Ok1.pick_f; exact rfl; exact rfl)) <;> (apply A.take 20; exact rfl; exact rfl; kernel_rfl; kernel_rfl; kernel_rfl; (apply Ok1.assign; exact rfl)) <;> (apply A.done; kernel_rfl))) | apply T.seq | apply T.region | apply T.block | apply T.exit | (apply T.cond_t; exact rfl)))
        refine ⟨(i + 1, ov), ?_⟩
        simp only [hO2]
        exact ⟨⟨by omega, hov⟩, by omega, ⟨rfl, rfl, rfl, rfl, rfl, rfl, rfl, trivial⟩, by (focus ((repeat' (first | exact Ext.all _ | apply Keep.last | apply Ext.cons)); done))⟩
      | false =>
        rw [h4] at hcs hct
        simp only [Bool.false_or] at hcs
        cases h5 : (match vfind dl c.id with | some h => decide (h.ser ≥ c.ser) | none => false) with
        | true =>
          rw [h5] at hcs hfe
          obtain ⟨rfl, h6⟩ := hfe.2 rfl
          rw [hcs, if_pos rfl] at hsn
          replace hsn := hsn.symm
          subst hsn
          repeat' (first | (apply R.is1; first | (apply R.isBin; (apply R.pure; exact rfl; first | (apply Ok1.add64; exact rfl; exact rfl; omega; omega) | (apply Ok1.geq_t; exact rfl; exact rfl; omega) | (apply Ok1.eql_t; exact rfl; exact rfl; omega))) | (apply R.isCall; (apply R.callW (vs := [slV ov O.length, .func (.func 68) #[] #[kOf b11]]); (iterate 3 exact rfl); intro w1 hw1; exact hct _ w1 hw1 (fun x hx => List.mem_cons_of_mem _ (List.mem_cons_of_mem _ hx)) (List.mem_cons_of_mem _ List.mem_cons_self); rintro v rfl)) | (apply R.pure; exact rfl; first | (apply Ok1.move; exact rfl) | (apply Ok1.fieldAddr; (iterate 5 exact rfl)) | (apply Ok1.load; exact rfl; (apply Ld.own1; exact rfl; exact rfl; (focus ((repeat' (first | exact At.head | apply At.tail)); done)); exact rfl)) | (apply Ok1.assign; exact rfl) | (apply Ok1.pick_t; exact rfl; exact rfl))) | (apply R.isG; (apply R.guard_run; exact rfl; exact rfl)) | apply R.nil | (apply T.is; first | (apply T.drawC (id := 9) [0,1] (by decide); ((apply A.take 0; exact rfl; exact rfl; kernel_rfl; kernel_rfl; kernel_rfl; (apply Ok1.fieldAddr; (iterate 5 exact rfl))) <;> (apply A.take 1; exact rfl; exact rfl; kernel_rfl; kernel_rfl; kernel_rfl; (apply Ok1.load; exact rfl; (apply Ld.own1; exact rfl; exact rfl; (focus ((repeat' (first | exact At.head | apply At.tail)); done)); exact rfl))) <;> (apply A.take 2; exact rfl; exact rfl; kernel_rfl; kernel_rfl; kernel_rfl; (apply Ok1.move; exact rfl)) <;> (apply A.one 3; kernel_rfl; exact rfl; (((apply R.callW (vs := [.pointer (some ⟨bv, 0, none⟩)]); (iterate 3 exact rfl); intro w1 hw1; exact hown w1 hw1.chg; rintro v rfl))); apply R.nil; refine ⟨?_, ?_⟩; (focus ((repeat' (first | exact trivial | (refine ⟨?_, ?_⟩; (focus ((repeat' (first | exact At.head | apply At.tail)); done)))))))) <;> (apply A.take 4; exact rfl; exact rfl; kernel_rfl; kernel_rfl; kernel_rfl; (apply Ok1.field1; (iterate 7 exact rfl))) <;> ((apply A.take 5; exact rfl; exact rfl; kernel_rfl; kernel_rfl; kernel_rfl; (apply Ok1.eql_f; exact rfl; exact rfl; omega))) <;> (apply A.take 6; exact rfl; exact rfl; kernel_rfl; kernel_rfl; kernel_rfl; (apply Ok1.move; exact rfl)) <;> ((apply A.takeG 7; exact rfl; exact rfl; rotate_left 3; exact rfl; exact rfl; rotate_right 3; kernel_rfl; kernel_rfl; kernel_rfl; (apply Ok1.load; exact rfl; (apply Ld.ownk; exact rfl; exact rfl; (focus ((repeat' (first | exact At.head | apply At.tail)); done)); exact rfl)))) <;> ((apply A.takeG 8; exact rfl; exact rfl; rotate_left 3; exact rfl; exact rfl; rotate_right 3; kernel_rfl; kernel_rfl; kernel_rfl; (apply Ok1.move; exact rfl))) <;> (apply A.one 9; kernel_rfl; exact rfl; (((apply R.isG; apply R.guard_run; exact rfl; exact rfl; (apply R.callP rfl rfl rfl hexp)))); apply R.nil; refine ⟨?_, ?_⟩; (focus ((repeat' (first | exact trivial | (refine ⟨?_, ?_⟩; (focus ((repeat' (first | exact At.head | apply At.tail)); done)))))))) <;> (apply A.take 10; exact rfl; exact rfl; kernel_rfl; kernel_rfl; kernel_rfl; (apply Ok1.pick_f; exact rfl; exact rfl)) <;> (apply A.take 11; exact rfl; exact rfl; kernel_rfl; kernel_rfl; kernel_rfl; (apply Ok1.move; exact rfl)) <;> ((apply A.takeG 12; exact rfl; exact rfl; rotate_left 3; exact rfl; exact rfl; rotate_right 3; kernel_rfl; kernel_rfl; kernel_rfl; (apply Ok1.move; exact rfl))) <;> ((apply A.takeG 13; exact rfl; exact rfl; rotate_left 3; exact rfl; exact rfl; rotate_right 3; kernel_rfl; kernel_rfl; kernel_rfl; (apply Ok1.fieldAddr; (iterate 5 exact rfl)))) <;> ((apply A.takeG 14; exact rfl; exact rfl; rotate_left 3; exact rfl; exact rfl; rotate_right 3; kernel_rfl; kernel_rfl; kernel_rfl; (apply Ok1.load; exact rfl; (apply Ld.own1; exact rfl; exact rfl; (focus ((repeat' (first | exact At.head | apply At.tail)); done)); exact rfl)))) <;> (apply A.one 15; kernel_rfl; exact rfl; (((apply R.isG; apply R.guard_run; exact rfl; exact rfl; ((apply R.callW (vs := [.pointer (some ⟨bs, 0, none⟩), .int .i64 c.ser]); (iterate 3 exact rfl); intro w1 hw1; exact hhas w1 hw1.chg; rintro v rfl))))); apply R.nil; refine ⟨?_, ?_⟩; (focus ((repeat' (first | exact trivial | (refine ⟨?_, ?_⟩; (focus ((repeat' (first | exact At.head | apply At.tail)); done)))))))) <;> (apply A.take 16; exact rfl; exact rfl; kernel_rfl; kernel_rfl; kernel_rfl; (apply Ok1.pick_f; exact rfl; exact rfl)) <;> (apply A.take 17; exact rfl; exact rfl; kernel_rfl; kernel_rfl; kernel_rfl; (apply Ok1.move; exact rfl)) <;> ((apply A.takeG 18; exact rfl; exact rfl; rotate_left 3; exact rfl; exact rfl; rotate_right 3; kernel_rfl; kernel_rfl; kernel_rfl; (apply Ok1.move; exact rfl))) <;> (apply A.take 19; exact rfl; exact rfl; kernel_rfl; kernel_rfl; kernel_rfl; (apply Ok1.pick_f; exact rfl; exact rfl)) <;> (apply A.take 20; exact rfl; exact rfl; kernel_rfl; kernel_rfl; kernel_rfl; (apply Ok1.assign; exact rfl)) <;> (apply A.done; kernel_rfl))) | apply T.seq | apply T.region | apply T.block | apply T.exit | (apply T.cond_t; exact rfl) | (apply T.cond_f; exact rfl)))
          refine ⟨(i + 1, ov), ?_⟩
          simp only [hO2]
          exact ⟨⟨by omega, hov⟩, by omega, ⟨rfl, rfl, rfl, rfl, rfl, rfl, rfl, trivial⟩, by (focus ((repeat' (first | exact Ext.all _ | apply Keep.last | apply Ext.cons)); done))⟩
        | false =>
          rw [h5] at hcs hfe
          rw [hcs, if_neg (by simp)] at hsn
          subst hsn
          have h6 : e = 0 → ¬ h.ser ≥ c.ser := fun h0 h7 => by have := hfe.1 ⟨h0, h7⟩; cases this
          repeat' (first | (apply R.is1; first | (apply R.isBin; first | (apply R.pure; exact rfl; first | (apply Ok1.add64; exact rfl; exact rfl; omega; omega) | (apply Ok1.geq_f; exact rfl; exact rfl; omega)) | (apply R.eql rfl rfl rfl <;> intro)) | (apply R.isCall; first | (apply R.callW (vs := [slV ov O.length, .func (.func 68) #[] #[kOf b11]]); (iterate 3 exact rfl); intro w1 hw1; exact hct _ w1 hw1 (fun x hx => List.mem_cons_of_mem _ (List.mem_cons_of_mem _ hx)) (List.mem_cons_of_mem _ List.mem_cons_self); rintro v rfl) | (apply R.append1; (iterate 12 exact rfl); (focus ((repeat' (first | exact OwnAt.base hov | apply OwnAt.tail)); done)); exact At.head; exact rfl; exact rfl; omega; omega; intro b2 j2 k2 hj2)) | (apply R.pure; exact rfl; first | (apply Ok1.move; exact rfl) | (apply Ok1.fieldAddr; (iterate 5 exact rfl)) | (apply Ok1.load; exact rfl; first | (apply Ld.own1; exact rfl; exact rfl; (focus ((repeat' (first | exact At.head | apply At.tail)); done)); exact rfl) | (apply Ld.ownk; exact rfl; exact rfl; (focus ((repeat' (first | exact At.head | apply At.tail)); done)); exact rfl)) | (apply Ok1.assign; exact rfl) | (apply Ok1.pick_t; exact rfl; exact rfl) | (apply Ok1.pick_f; exact rfl; exact rfl)) | (apply R.buildSlice; (iterate 12 exact rfl); intro)) | (apply R.isG; first | (apply R.guard_run; exact rfl; exact rfl) | (apply R.guard_not; (iterate 3 exact rfl))) | apply R.nil | (apply T.is; first | (apply T.drawC (id := 9) [0,1] (by decide); ((apply A.take 0; exact rfl; exact rfl; kernel_rfl; kernel_rfl; kernel_rfl; (apply Ok1.fieldAddr; (iterate 5 exact rfl))) <;> (apply A.take 1; exact rfl; exact rfl; kernel_rfl; kernel_rfl; kernel_rfl; (apply Ok1.load; exact rfl; (apply Ld.own1; exact rfl; exact rfl; (focus ((repeat' (first | exact At.head | apply At.tail)); done)); exact rfl))) <;> (apply A.take 2; exact rfl; exact rfl; kernel_rfl; kernel_rfl; kernel_rfl; (apply Ok1.move; exact rfl)) <;> (apply A.one 3; kernel_rfl; exact rfl; (((apply R.callW (vs := [.pointer (some ⟨bv, 0, none⟩)]); (iterate 3 exact rfl); intro w1 hw1; exact hown w1 hw1.chg; rintro v rfl))); apply R.nil; refine ⟨?_, ?_⟩; (focus ((repeat' (first | exact trivial | (refine ⟨?_, ?_⟩; (focus ((repeat' (first | exact At.head | apply At.tail)); done)))))))) <;> (apply A.take 4; exact rfl; exact rfl; kernel_rfl; kernel_rfl; kernel_rfl; (apply Ok1.field1; (iterate 7 exact rfl))) <;> ((apply A.take 5; exact rfl; exact rfl; kernel_rfl; kernel_rfl; kernel_rfl; (apply Ok1.eql_f; exact rfl; exact rfl; omega))) <;> (apply A.take 6; exact rfl; exact rfl; kernel_rfl; kernel_rfl; kernel_rfl; (apply Ok1.move; exact rfl)) <;> ((apply A.takeG 7; exact rfl; exact rfl; rotate_left 3; exact rfl; exact rfl; rotate_right 3; kernel_rfl; kernel_rfl; kernel_rfl; (apply Ok1.load; exact rfl; (apply Ld.ownk; exact rfl; exact rfl; (focus ((repeat' (first | exact At.head | apply At.tail)); done)); exact rfl)))) <;> ((apply A.takeG 8; exact rfl; exact rfl; rotate_left 3; exact rfl; exact rfl; rotate_right 3; kernel_rfl; kernel_rfl; kernel_rfl; (apply Ok1.move; exact rfl))) <;> (apply A.one 9; kernel_rfl; exact rfl; (((apply R.isG; apply R.guard_run; exact rfl; exact rfl; (apply R.callP rfl rfl rfl hexp)))); apply R.nil; refine ⟨?_, ?_⟩; (focus ((repeat' (first | exact trivial | (refine ⟨?_, ?_⟩; (focus ((repeat' (first | exact At.head | apply At.tail)); done)))))))) <;> (apply A.take 10; exact rfl; exact rfl; kernel_rfl; kernel_rfl; kernel_rfl; (apply Ok1.pick_f; exact rfl; exact rfl)) <;> (apply A.take 11; exact rfl; exact rfl; kernel_rfl; kernel_rfl; kernel_rfl; (apply Ok1.move; exact rfl)) <;> ((apply A.takeG 12; exact rfl; exact rfl; rotate_left 3; exact rfl; exact rfl; rotate_right 3; kernel_rfl; kernel_rfl; kernel_rfl; (apply Ok1.move; exact rfl))) <;> ((apply A.takeG 13; exact rfl; exact rfl; rotate_left 3; exact rfl; exact rfl; rotate_right 3; kernel_rfl; kernel_rfl; kernel_rfl; (apply Ok1.fieldAddr; (iterate 5 exact rfl)))) <;> ((apply A.takeG 14; exact rfl; exact rfl; rotate_left 3; exact rfl; exact rfl; rotate_right 3; kernel_rfl; kernel_rfl; kernel_rfl; (apply Ok1.load; exact rfl; (apply Ld.own1; exact rfl; exact rfl; (focus ((repeat' (first | exact At.head | apply At.tail)); done)); exact rfl)))) <;> (apply A.one 15; kernel_rfl; exact rfl; (((apply R.isG; apply R.guard_run; exact rfl; exact rfl; ((apply R.callW (vs := [.pointer (some ⟨bs, 0, none⟩), .int .i64 c.ser]); (iterate 3 exact rfl); intro w1 hw1; exact hhas w1 hw1.chg; rintro v rfl))))); apply R.nil; refine ⟨?_, ?_⟩; (focus ((repeat' (first | exact trivial | (refine ⟨?_, ?_⟩; (focus ((repeat' (first | exact At.head | apply At.tail)); done)))))))) <;> (apply A.take 16; exact rfl; exact rfl; kernel_rfl; kernel_rfl; kernel_rfl; (apply Ok1.pick_f; exact rfl; exact rfl)) <;> (apply A.take 17; exact rfl; exact rfl; kernel_rfl; kernel_rfl; kernel_rfl; (apply Ok1.move; exact rfl)) <;> ((apply A.takeG 18; exact rfl; exact rfl; rotate_left 3; exact rfl; exact rfl; rotate_right 3; kernel_rfl; kernel_rfl; kernel_rfl; (apply Ok1.move; exact rfl))) <;> (apply A.take 19; exact rfl; exact rfl; kernel_rfl; kernel_rfl; kernel_rfl; (apply Ok1.pick_f; exact rfl; exact rfl)) <;> (apply A.take 20; exact rfl; exact rfl; kernel_rfl; kernel_rfl; kernel_rfl; (apply Ok1.assign; exact rfl)) <;> (apply A.done; kernel_rfl))) | apply T.seq | apply T.region | apply T.block | apply T.skip | (apply T.cond_f; exact rfl)))
          all_goals
            refine ⟨(i + 1, some (b2, j2, k2)), ?_⟩
            simp only [hO2, List.length_append, List.length_singleton, fl_snoc]
            exact ⟨⟨by omega, OvOk.some (b := b2) hov (m := 1) rfl hj2⟩, by omega, ⟨rfl, rfl, rfl, rfl, rfl, rfl, rfl, trivial⟩, by simp only [blkL]; (focus ((repeat' (first | exact Keep.nil _ | exact Ext.one _ _ | apply Keep.cons)); done))⟩
    · have him : i = l.length := by omega
      subst him
      rw [List.take_length] at hov ⊢
      repeat' (first | (apply R.is1; first | (apply R.isBin; (apply R.pure; exact rfl; (apply Ok1.lss_f; exact rfl; exact rfl; omega))) | (apply R.pure; exact rfl; first | (apply Ok1.move; exact rfl) | (apply Ok1.assign; exact rfl))) | apply R.nil | (apply T.is; first | apply T.seq | apply T.region | apply T.exit | apply T.ret | (apply T.cond_f; exact rfl)))
      (apply RetOk.t; exact rfl)
      exact ⟨_, by (focus ((repeat' (first | exact Ext.all _ | apply Keep.last)); done)), ov, hov, rfl, rfl⟩
end Go.Proofs.YtplhnkmmhndkjaaGreat
set_option linter.unusedSimpArgs false
set_option linter.unusedVariables false
namespace Go.Proofs.YtplhnkmmhndkjaaGreat
open Go.RowKit Go.Shelf
set_option pp.deepTerms.threshold 8
set_option maxRecDepth 100000
/-- The document's view seen in a world. -/
structure DVR9 (w : World) (bd : Nat) (own : Cl) (ov : Ov) (dl : List Cl) : Prop where
  mem : ∀ z ∈ DVL bd own ov dl, w.heap[z.1]? = some z.2
theorem DVR9.chg {w w' : World} {bd : Nat} {own : Cl} {ov : Ov} {dl : List Cl} (h : DVR9 w bd own ov dl) (hc : Chg [] w w') : DVR9 w' bd own ov dl := ⟨fun z hz => hc.heap (h.mem z hz) List.not_mem_nil⟩
theorem DVR9.b {w : World} {bd : Nat} {own : Cl} {ov : Ov} {dl : List Cl} (h : DVR9 w bd own ov dl) : w.heap[bd]? = some (.cells ⟨[.int .i64 own.id, .int .i64 own.roles, .int .i64 own.exp, .int .i64 own.ser, slV ov dl.length]⟩ 76 (0, 0)) := h.mem (bd, _) List.mem_cons_self
theorem DVR9.nod {w : World} {bd : Nat} {own : Cl} {ov : Ov} {dl : List Cl} (h : DVR9 w bd own ov dl) : ((DVL bd own ov dl).map (·.1)).Nodup := by
  cases ov with
  | none => simp [DVL, blkL]
  | some q =>
    obtain ⟨b, j, junk⟩ := q
    have h1 := h.b
    have h2 : w.heap[b]? = some (.cells ⟨fl evC dl ++ junk⟩ 88 (0, 0)) := h.mem (b, _) (by simp [DVL, blkL])
    have hne : bd ≠ b := by
      rintro rfl
      rw [h1] at h2
      simp at h2
    simp [DVL, blkL, hne]
theorem DVR9.rd {w : World} {bd : Nat} {own : Cl} {ov : Ov} {dl : List Cl} (h : DVR9 w bd own ov dl) (hov : OvOk 8 ov dl.length (fl evC dl)) : RdSl w (ovp ov) evC dl := by
  have hw : Hp w (blks (DVL bd own ov dl)) (DVL bd own ov dl) w := ⟨Chg.refl _ _, fun b o hm => h.mem _ hm, h.nod, fun b o hm => .inr (List.mem_map.2 ⟨_, hm, rfl⟩)⟩
  exact RdSl.own' hw (fun x hx => List.mem_cons_of_mem _ hx) hov evC_len
theorem dfind_w (bd : Nat) (own : Cl) (ov : Ov) (dl : List Cl) (hov : OvOk 8 ov dl.length (fl evC dl)) (hl : dl.length ≤ 1000) (id : Int) (w : World) (h : DVR9 w bd own ov dl) : CallW Tryz.prog 60 [.pointer (some ⟨bd, 0, none⟩), .int .i64 id] w fun v _ => v = .int .i64 (vpos dl id) :=
  (dfind_ok bd own ov dl hov (by omega) id w).w9 h.mem h.nod fun _ hp => hp.still h.mem
theorem DSR.chg9 {bs : Nat} {gs : List Lg} {w w' : World} (h : DSR w bs gs) (hc : Chg [] w w') : DSR w' bs gs :=
  ⟨hc.heap h.b List.not_mem_nil, fun g hm => (h.rd g hm).chg' hc (fun _ => Off.nil _)⟩
theorem hasId_take {O : List Cl} {j : Nat} {y : Cl} (hy : O[j]? = some y) (id : Int) : hasId (O.take (j + 1)) id = (hasId (O.take j) id || decide (y.id = id)) := by
  rw [List.take_add_one, hy]
  simp [hasId]
theorem dcands_ok (bd : Nat) (own : Cl) (ovd : Ov) (dl : List Cl) (hovd : OvOk 8 ovd dl.length (fl evC dl)) (hdl : dl.length ≤ 16) (tick : Int) (bs : Nat) (gs : List Lg) (hg : GOk gs) (p : Option Addr) (cap : Nat) (l : List Cl) (hbig : l.length ≤ 1000) (w : World) (hv : DVR9 w bd own ovd dl) (hst : DSR w bs gs) (hp : RdSl w p Cl.v l) :
    CallM Tryz.prog 34 [.pointer (some ⟨bd, 0, none⟩), .int .i64 tick, .pointer (some ⟨bs, 0, none⟩), .slice p l.length cap] [] w fun v L => ∃ ov, OvOk 4 ov (candF own dl tick (lcat gs) l).length (fl Cl.v (candF own dl tick (lcat gs) l)) ∧ v = slV ov (candF own dl tick (lcat gs) l).length ∧ L = blkL 65 ov (fl Cl.v (candF own dl tick (lcat gs) l)) := by
  have hb := hv.b
  have hrdd := hv.rd hovd
  have hsl := slV_eq hovd
  rw [hsl] at hb
  refine enterK (tb := tb) Tryz.func34 rfl Tryz.ntmps34 rfl ?_
  repeat' (first | (apply R.is1; (apply R.pure; exact rfl; (apply Ok1.assign; exact rfl))) | apply R.nil | (apply T.is; first | apply T.seq | apply T.region | apply T.block))
  apply T.loopK (α := Nat × Ov) (I := fun q => q.1 ≤ l.length ∧ OvOk 4 q.2 (candF own dl tick (lcat gs) (l.take q.1)).length (fl Cl.v (candF own dl tick (lcat gs) (l.take q.1)))) (σi := fun q => [(0, .pointer (some ⟨bd, 0, none⟩)), (1, .int .i64 tick), (2, .pointer (some ⟨bs, 0, none⟩)), (3, .slice p l.length cap), (9, slV q.2 (candF own dl tick (lcat gs) (l.take q.1)).length), (10, .int .i64 q.1)]) (Li := fun q => blkL 65 q.2 (fl Cl.v (candF own dl tick (lcat gs) (l.take q.1)))) (μ := fun q => l.length - q.1) (i0 := (0, none))
  · exact ⟨Nat.zero_le _, OvOk.start 4⟩
  · exact ⟨rfl, rfl, rfl, rfl, rfl, rfl, trivial⟩
  · exact Keep.nil _
  · rintro ⟨i, ov⟩ ⟨hi, hov⟩
    simp only at hi hov ⊢
    rcases Nat.lt_or_ge i l.length with hlt | hge
    · obtain ⟨c, hc⟩ : ∃ c, l[i]? = some c := ⟨_, List.getElem?_eq_getElem (by omega)⟩
      obtain ⟨bb, o, hpe, H⟩ := hp.at hc
      replace H := H 4 Cl.v_len4
      have hfnd := fun w1 (hc : Chg [] w w1) => dfind_w bd own ovd dl hovd (by omega) c.id w1 (hv.chg hc)
      have hhas := fun w1 (hc : Chg [] w w1) => dhas_ok bs gs hg c.ser w1 (hst.chg9 hc)
      have hsn := candF_snoc own dl tick (lcat gs) hc
      have hOl := candF_len own dl tick (lcat gs) (l.take i)
      rw [List.length_take] at hOl
      have hcs : cskip own dl tick (lcat gs) (candF own dl tick (lcat gs) (l.take i)) c = (decide (c.id = own.id) || decide (tick ≥ c.exp) || decide (c.ser ∈ lcat gs) || hasId (candF own dl tick (lcat gs) (l.take i)) c.id || (match vfind dl c.id with | some h => decide (h.ser ≥ c.ser) | none => false)) := rfl
      generalize candF own dl tick (lcat gs) (l.take i) = O at *
      obtain ⟨O2, hO2⟩ : ∃ O2, candF own dl tick (lcat gs) (l.take (i + 1)) = O2 := ⟨_, rfl⟩
      rw [hO2] at hsn
      simp only [Cl.v] at H
      have key : (c.id = own.id ∧ O = O2) ∨ (c.id ≠ own.id ∧ tick ≥ c.exp ∧ O = O2) ∨ (c.id ≠ own.id ∧ ¬ tick ≥ c.exp ∧ c.ser ∈ lcat gs ∧ O = O2) ∨ (c.id ≠ own.id ∧ ¬ tick ≥ c.exp ∧ c.ser ∉ lcat gs ∧ ∃ (i0 : Nat) (h : Cl), dl[i0]? = some h ∧ vpos dl c.id = i0 ∧ h.ser ≥ c.ser ∧ O = O2) ∨ (c.id ≠ own.id ∧ ¬ tick ≥ c.exp ∧ c.ser ∉ lcat gs ∧ ∃ (i0 : Nat) (h : Cl), dl[i0]? = some h ∧ vpos dl c.id = i0 ∧ ¬ h.ser ≥ c.ser ∧ O2 = if hasId O c.id = true then O else O ++ [c]) ∨ (c.id ≠ own.id ∧ ¬ tick ≥ c.exp ∧ c.ser ∉ lcat gs ∧ vpos dl c.id = -1 ∧ O2 = if hasId O c.id = true then O else O ++ [c]) := by
        rw [hcs] at hsn
        by_cases h1 : c.id = own.id
        · simp only [decide_eq_true h1, Bool.true_or, if_true] at hsn
          exact .inl ⟨h1, hsn.symm⟩
        by_cases h2 : tick ≥ c.exp
        · simp only [decide_eq_true h2, Bool.true_or, Bool.or_true, if_true] at hsn
          exact .inr (.inl ⟨h1, h2, hsn.symm⟩)
        by_cases h3 : c.ser ∈ lcat gs
        · simp only [decide_eq_true h3, Bool.true_or, Bool.or_true, if_true] at hsn
          exact .inr (.inr (.inl ⟨h1, h2, h3, hsn.symm⟩))
        simp only [decide_eq_false h1, decide_eq_false h2, decide_eq_false h3, Bool.false_or] at hsn
        rcases vpos_find (dl := dl) (id := c.id) with ⟨hf, hvp⟩ | ⟨i0, h, hd, hid, hf, hvp⟩
        · rw [hf] at hsn
          simp only [Bool.or_false] at hsn
          exact .inr (.inr (.inr (.inr (.inr ⟨h1, h2, h3, hvp, hsn⟩))))
        · rw [hf] at hsn
          simp only at hsn
          by_cases h5 : h.ser ≥ c.ser
          · simp only [decide_eq_true h5, Bool.or_true, if_true] at hsn
            exact .inr (.inr (.inr (.inl ⟨h1, h2, h3, i0, h, hd, hvp, h5, hsn.symm⟩)))
          · simp only [decide_eq_false h5, Bool.or_false] at hsn
            exact .inr (.inr (.inr (.inr (.inl ⟨h1, h2, h3, i0, h, hd, hvp, h5, hsn⟩))))
      clear hsn hcs
      rcases key with ⟨h1, hO⟩ | ⟨h1, h2, hO⟩ | ⟨h1, h2, h3, hO⟩ | ⟨h1, h2, h3, i0, h, hd, hvp, h5, hO⟩ | ⟨h1, h2, h3, i0, h, hd, hvp, h5, hO⟩ | ⟨h1, h2, h3, hvp, hO⟩
      all_goals try simp only [decide_eq_true h3] at hhas
      all_goals try simp only [decide_eq_false h3] at hhas
      all_goals try simp only [hvp] at hfnd
      all_goals try (obtain ⟨bD, oD, hpd, HD⟩ := hrdd.at hd; replace HD := HD 8 evC_len; have hi0 := (List.getElem?_eq_some_iff.1 hd).1)
      all_goals repeat' (first | (apply R.is1; first | (apply R.isBin; (apply R.pure; exact rfl; (apply Ok1.lss_t; exact rfl; exact rfl; omega))) | (apply R.isCall; first | (apply R.callW (vs := [.pointer (some ⟨bd, 0, none⟩), .int .i64 c.id]); (iterate 3 exact rfl); intro w1 hw1; exact hfnd w1 hw1.chg; rintro v rfl) | (apply R.pure; exact rfl; (apply Ok1.lenS; (iterate 3 exact rfl)))) | (apply R.pure; exact rfl; first | (apply Ok1.indexAddrP; (iterate 4 exact rfl); (exact hpe); exact rfl; omega; omega) | (apply Ok1.load; exact rfl; (apply Ld.rowk0 H; exact rfl; exact List.not_mem_nil; (iterate 3 exact rfl))) | (apply Ok1.move; exact rfl) | (apply Ok1.fieldAddr; (iterate 5 exact rfl)) | (apply Ok1.load; exact rfl; (apply Ld.own1; exact rfl; exact rfl; exact At.head; exact rfl)) | (apply Ok1.assign; exact rfl)) | (apply R.alloc; (iterate 3 exact rfl); intro)) | (apply R.is0; (apply R.store; (iterate 6 exact rfl); exact Upd.head; exact rfl)) | apply R.nil | (apply T.is; first | (apply T.drawC (id := 7) [0] (by decide); (((apply A.take 0; exact rfl; exact rfl; kernel_rfl; kernel_rfl; kernel_rfl; (apply Ok1.fieldAddr; (iterate 5 exact rfl))); refine A.cast (listed' := #[true, false, false, false, false, false, false, false, false, false, false, false, false, false, false, false, false, false, false, false, false, false, false, false, false, false, false, false, false, false, false, false, false, false, false, false, false, false, false]) (by kernel_rfl) ?_) <;> ((apply A.take 1; exact rfl; exact rfl; kernel_rfl; kernel_rfl; kernel_rfl; (apply Ok1.load; exact rfl; (apply Ld.own1; exact rfl; exact rfl; exact At.head; exact rfl))); refine A.cast (listed' := #[true, true, false, false, false, false, false, false, false, false, false, false, false, false, false, false, false, false, false, false, false, false, false, false, false, false, false, false, false, false, false, false, false, false, false, false, false, false, false]) (by kernel_rfl) ?_) <;> ((apply A.take 2; exact rfl; exact rfl; kernel_rfl; kernel_rfl; kernel_rfl; (apply Ok1.move; exact rfl)); refine A.cast (listed' := #[true, true, true, false, false, false, false, false, false, false, false, false, false, false, false, false, false, false, false, false, false, false, false, false, false, false, false, false, false, false, false, false, false, false, false, false, false, false, false]) (by kernel_rfl) ?_) <;> ((apply A.take 3; exact rfl; exact rfl; kernel_rfl; kernel_rfl; kernel_rfl; (apply Ok1.nilCheck; exact rfl)); refine A.cast (listed' := #[true, true, true, true, false, false, false, false, false, false, false, false, false, false, false, false, false, false, false, false, false, false, false, false, false, false, false, false, false, false, false, false, false, false, false, false, false, false, false]) (by kernel_rfl) ?_) <;> ((apply A.take 4; exact rfl; exact rfl; kernel_rfl; kernel_rfl; kernel_rfl; (apply Ok1.fieldAddr; (iterate 5 exact rfl))); refine A.cast (listed' := #[true, true, true, true, true, false, false, false, false, false, false, false, false, false, false, false, false, false, false, false, false, false, false, false, false, false, false, false, false, false, false, false, false, false, false, false, false, false, false]) (by kernel_rfl) ?_) <;> ((apply A.take 5; exact rfl; exact rfl; kernel_rfl; kernel_rfl; kernel_rfl; (apply Ok1.fieldAddr; (iterate 5 exact rfl))); refine A.cast (listed' := #[true, true, true, true, true, true, false, false, false, false, false, false, false, false, false, false, false, false, false, false, false, false, false, false, false, false, false, false, false, false, false, false, false, false, false, false, false, false, false]) (by kernel_rfl) ?_) <;> ((apply A.take 6; exact rfl; exact rfl; kernel_rfl; kernel_rfl; kernel_rfl; (apply Ok1.load; exact rfl; (apply Ld.blk1; exact rfl; exact rfl; assumption; (exact List.not_mem_nil); exact rfl))); refine A.cast (listed' := #[true, true, true, true, true, true, true, false, false, false, false, false, false, false, false, false, false, false, false, false, false, false, false, false, false, false, false, false, false, false, false, false, false, false, false, false, false, false, false]) (by kernel_rfl) ?_) <;> (((apply A.take 7; exact rfl; exact rfl; kernel_rfl; kernel_rfl; kernel_rfl; first | (apply Ok1.eql_t; exact rfl; exact rfl; omega) | (apply Ok1.eql_f; exact rfl; exact rfl; omega))); refine A.cast (listed' := #[true, true, true, true, true, true, true, true, false, false, false, false, false, false, false, false, false, false, false, false, false, false, false, false, false, false, false, false, false, false, false, false, false, false, false, false, false, false, false]) (by kernel_rfl) ?_) <;> ((apply A.take 8; exact rfl; exact rfl; kernel_rfl; kernel_rfl; kernel_rfl; (apply Ok1.move; exact rfl)); refine A.cast (listed' := #[true, true, true, true, true, true, true, true, true, false, false, false, false, false, false, false, false, false, false, false, false, false, false, false, false, false, false, false, false, false, false, false, false, false, false, false, false, false, false]) (by kernel_rfl) ?_) <;> ((first | (apply A.skipG 9; exact rfl; exact rfl; rotate_left 3; exact rfl; exact rfl; rotate_right 3; kernel_rfl; kernel_rfl; kernel_rfl) | (apply A.takeG 9; exact rfl; exact rfl; rotate_left 3; exact rfl; exact rfl; rotate_right 3; kernel_rfl; kernel_rfl; kernel_rfl; (apply Ok1.move; exact rfl))); refine A.cast (listed' := #[true, true, true, true, true, true, true, true, true, true, false, false, false, false, false, false, false, false, false, false, false, false, false, false, false, false, false, false, false, false, false, false, false, false, false, false, false, false, false]) (by kernel_rfl) ?_) <;> ((first | (apply A.skipG 10; exact rfl; exact rfl; rotate_left 3; exact rfl; exact rfl; rotate_right 3; kernel_rfl; kernel_rfl; kernel_rfl) | (apply A.takeG 10; exact rfl; exact rfl; rotate_left 3; exact rfl; exact rfl; rotate_right 3; kernel_rfl; kernel_rfl; kernel_rfl; (apply Ok1.fieldAddr; (iterate 5 exact rfl)))); refine A.cast (listed' := #[true, true, true, true, true, true, true, true, true, true, true, false, false, false, false, false, false, false, false, false, false, false, false, false, false, false, false, false, false, false, false, false, false, false, false, false, false, false, false]) (by kernel_rfl) ?_) <;> ((first | (apply A.skipG 11; exact rfl; exact rfl; rotate_left 3; exact rfl; exact rfl; rotate_right 3; kernel_rfl; kernel_rfl; kernel_rfl) | (apply A.takeG 11; exact rfl; exact rfl; rotate_left 3; exact rfl; exact rfl; rotate_right 3; kernel_rfl; kernel_rfl; kernel_rfl; (apply Ok1.load; exact rfl; (apply Ld.own1; exact rfl; exact rfl; exact At.head; exact rfl)))); refine A.cast (listed' := #[true, true, true, true, true, true, true, true, true, true, true, true, false, false, false, false, false, false, false, false, false, false, false, false, false, false, false, false, false, false, false, false, false, false, false, false, false, false, false]) (by kernel_rfl) ?_) <;> ((first | (apply A.skipG 12; exact rfl; exact rfl; rotate_left 3; exact rfl; exact rfl; rotate_right 3; kernel_rfl; kernel_rfl; kernel_rfl) | (apply A.takeG 12; exact rfl; exact rfl; rotate_left 3; exact rfl; exact rfl; rotate_right 3; kernel_rfl; kernel_rfl; kernel_rfl; first | (apply Ok1.geq_t; exact rfl; exact rfl; omega) | (apply Ok1.geq_f; exact rfl; exact rfl; omega))); refine A.cast (listed' := #[true, true, true, true, true, true, true, true, true, true, true, true, true, false, false, false, false, false, false, false, false, false, false, false, false, false, false, false, false, false, false, false, false, false, false, false, false, false, false]) (by kernel_rfl) ?_) <;> ((apply A.take 13; exact rfl; exact rfl; kernel_rfl; kernel_rfl; kernel_rfl; first | (apply Ok1.pick_t; exact rfl; exact rfl) | (apply Ok1.pick_f; exact rfl; exact rfl)); refine A.cast (listed' := #[true, true, true, true, true, true, true, true, true, true, true, true, true, true, false, false, false, false, false, false, false, false, false, false, false, false, false, false, false, false, false, false, false, false, false, false, false, false, false]) (by kernel_rfl) ?_) <;> ((apply A.take 14; exact rfl; exact rfl; kernel_rfl; kernel_rfl; kernel_rfl; (apply Ok1.move; exact rfl)); refine A.cast (listed' := #[true, true, true, true, true, true, true, true, true, true, true, true, true, true, true, false, false, false, false, false, false, false, false, false, false, false, false, false, false, false, false, false, false, false, false, false, false, false, false]) (by kernel_rfl) ?_) <;> ((first | (apply A.skipG 15; exact rfl; exact rfl; rotate_left 3; exact rfl; exact rfl; rotate_right 3; kernel_rfl; kernel_rfl; kernel_rfl) | (apply A.takeG 15; exact rfl; exact rfl; rotate_left 3; exact rfl; exact rfl; rotate_right 3; kernel_rfl; kernel_rfl; kernel_rfl; (apply Ok1.move; exact rfl))); refine A.cast (listed' := #[true, true, true, true, true, true, true, true, true, true, true, true, true, true, true, true, false, false, false, false, false, false, false, false, false, false, false, false, false, false, false, false, false, false, false, false, false, false, false]) (by kernel_rfl) ?_) <;> ((first | (apply A.skipG 16; exact rfl; exact rfl; rotate_left 3; exact rfl; exact rfl; rotate_right 3; kernel_rfl; kernel_rfl; kernel_rfl) | (apply A.takeG 16; exact rfl; exact rfl; rotate_left 3; exact rfl; exact rfl; rotate_right 3; kernel_rfl; kernel_rfl; kernel_rfl; (apply Ok1.fieldAddr; (iterate 5 exact rfl)))); refine A.cast (listed' := #[true, true, true, true, true, true, true, true, true, true, true, true, true, true, true, true, true, false, false, false, false, false, false, false, false, false, false, false, false, false, false, false, false, false, false, false, false, false, false]) (by kernel_rfl) ?_) <;> ((first | (apply A.skipG 17; exact rfl; exact rfl; rotate_left 3; exact rfl; exact rfl; rotate_right 3; kernel_rfl; kernel_rfl; kernel_rfl) | (apply A.takeG 17; exact rfl; exact rfl; rotate_left 3; exact rfl; exact rfl; rotate_right 3; kernel_rfl; kernel_rfl; kernel_rfl; (apply Ok1.load; exact rfl; (apply Ld.own1; exact rfl; exact rfl; exact At.head; exact rfl)))); refine A.cast (listed' := #[true, true, true, true, true, true, true, true, true, true, true, true, true, true, true, true, true, true, false, false, false, false, false, false, false, false, false, false, false, false, false, false, false, false, false, false, false, false, false]) (by kernel_rfl) ?_) <;> (apply A.one 18; kernel_rfl; exact rfl; ((first | (apply R.isG; apply R.guard_run; exact rfl; exact rfl; ((apply R.callW (vs := [.pointer (some ⟨bs, 0, none⟩), .int .i64 c.ser]); (iterate 3 exact rfl); intro w1 hw1; exact hhas w1 hw1.chg; rintro v rfl))) | (apply R.isG; (apply R.guard_not; (iterate 3 exact rfl))))); apply R.nil; refine ⟨?_, ?_⟩; (focus ((repeat' (first | exact trivial | (refine ⟨?_, ?_⟩; exact At.head)))))) <;> ((apply A.take 19; exact rfl; exact rfl; kernel_rfl; kernel_rfl; kernel_rfl; first | (apply Ok1.pick_t; exact rfl; exact rfl) | (apply Ok1.pick_f; exact rfl; exact rfl)); refine A.cast (listed' := #[true, true, true, true, true, true, true, true, true, true, true, true, true, true, true, true, true, true, true, true, false, false, false, false, false, false, false, false, false, false, false, false, false, false, false, false, false, false, false]) (by kernel_rfl) ?_) <;> ((apply A.take 20; exact rfl; exact rfl; kernel_rfl; kernel_rfl; kernel_rfl; (apply Ok1.move; exact rfl)); refine A.cast (listed' := #[true, true, true, true, true, true, true, true, true, true, true, true, true, true, true, true, true, true, true, true, true, false, false, false, false, false, false, false, false, false, false, false, false, false, false, false, false, false, false]) (by kernel_rfl) ?_) <;> ((first | (apply A.skipG 21; exact rfl; exact rfl; rotate_left 3; exact rfl; exact rfl; rotate_right 3; kernel_rfl; kernel_rfl; kernel_rfl) | (apply A.takeG 21; exact rfl; exact rfl; rotate_left 3; exact rfl; exact rfl; rotate_right 3; kernel_rfl; kernel_rfl; kernel_rfl; (apply Ok1.move; exact rfl))); refine A.cast (listed' := #[true, true, true, true, true, true, true, true, true, true, true, true, true, true, true, true, true, true, true, true, true, true, false, false, false, false, false, false, false, false, false, false, false, false, false, false, false, false, false]) (by kernel_rfl) ?_) <;> ((first | (apply A.skipG 22; exact rfl; exact rfl; rotate_left 3; exact rfl; exact rfl; rotate_right 3; kernel_rfl; kernel_rfl; kernel_rfl) | (apply A.takeG 22; exact rfl; exact rfl; rotate_left 3; exact rfl; exact rfl; rotate_right 3; kernel_rfl; kernel_rfl; kernel_rfl; first | (apply Ok1.geq_t; exact rfl; exact rfl; omega) | (apply Ok1.geq_f; exact rfl; exact rfl; omega))); refine A.cast (listed' := #[true, true, true, true, true, true, true, true, true, true, true, true, true, true, true, true, true, true, true, true, true, true, true, false, false, false, false, false, false, false, false, false, false, false, false, false, false, false, false]) (by kernel_rfl) ?_) <;> ((first | (apply A.skipG 23; exact rfl; exact rfl; rotate_left 3; exact rfl; exact rfl; rotate_right 3; kernel_rfl; kernel_rfl; kernel_rfl) | (apply A.takeG 23; exact rfl; exact rfl; rotate_left 3; exact rfl; exact rfl; rotate_right 3; kernel_rfl; kernel_rfl; kernel_rfl; (apply Ok1.move; exact rfl))); refine A.cast (listed' := #[true, true, true, true, true, true, true, true, true, true, true, true, true, true, true, true, true, true, true, true, true, true, true, true, false, false, false, false, false, false, false, false, false, false, false, false, false, false, false]) (by kernel_rfl) ?_) <;> ((first | (apply A.skipG 24; exact rfl; exact rfl; rotate_left 3; exact rfl; exact rfl; rotate_right 3; kernel_rfl; kernel_rfl; kernel_rfl) | (apply A.skipU 24; exact rfl; exact rfl; rotate_left 3; exact rfl; exact rfl; rotate_right 3; kernel_rfl; kernel_rfl; kernel_rfl) | (apply A.takeG 24; exact rfl; exact rfl; rotate_left 3; exact rfl; exact rfl; rotate_right 3; kernel_rfl; kernel_rfl; kernel_rfl; (apply Ok1.move; exact rfl))); refine A.cast (listed' := #[true, true, true, true, true, true, true, true, true, true, true, true, true, true, true, true, true, true, true, true, true, true, true, true, true, false, false, false, false, false, false, false, false, false, false, false, false, false, false]) (by kernel_rfl) ?_) <;> ((first | (apply A.skipG 25; exact rfl; exact rfl; rotate_left 3; exact rfl; exact rfl; rotate_right 3; kernel_rfl; kernel_rfl; kernel_rfl) | (apply A.skipU 25; exact rfl; exact rfl; rotate_left 3; exact rfl; exact rfl; rotate_right 3; kernel_rfl; kernel_rfl; kernel_rfl) | (apply A.takeG 25; exact rfl; exact rfl; rotate_left 3; exact rfl; exact rfl; rotate_right 3; kernel_rfl; kernel_rfl; kernel_rfl; (apply Ok1.nilCheck; exact rfl))); refine A.cast (listed' := #[true, true, true, true, true, true, true, true, true, true, true, true, true, true, true, true, true, true, true, true, true, true, true, true, true, true, false, false, false, false, false, false, false, false, false, false, false, false, false]) (by kernel_rfl) ?_) <;> ((first | (apply A.skipG 26; exact rfl; exact rfl; rotate_left 3; exact rfl; exact rfl; rotate_right 3; kernel_rfl; kernel_rfl; kernel_rfl) | (apply A.skipU 26; exact rfl; exact rfl; rotate_left 3; exact rfl; exact rfl; rotate_right 3; kernel_rfl; kernel_rfl; kernel_rfl) | (apply A.takeG 26; exact rfl; exact rfl; rotate_left 3; exact rfl; exact rfl; rotate_right 3; kernel_rfl; kernel_rfl; kernel_rfl; (apply Ok1.fieldAddr; (iterate 5 exact rfl)))); refine A.cast (listed' := #[true, true, true, true, true, true, true, true, true, true, true, true, true, true, true, true, true, true, true, true, true, true, true, true, true, true, true, false, false, false, false, false, false, false, false, false, false, false, false]) (by kernel_rfl) ?_) <;> ((first | (apply A.skipG 27; exact rfl; exact rfl; rotate_left 3; exact rfl; exact rfl; rotate_right 3; kernel_rfl; kernel_rfl; kernel_rfl) | (apply A.skipU 27; exact rfl; exact rfl; rotate_left 3; exact rfl; exact rfl; rotate_right 3; kernel_rfl; kernel_rfl; kernel_rfl) | (apply A.takeG 27; exact rfl; exact rfl; rotate_left 3; exact rfl; exact rfl; rotate_right 3; kernel_rfl; kernel_rfl; kernel_rfl; (apply Ok1.load; exact rfl; (apply Ld.blk1; exact rfl; exact rfl; assumption; (exact List.not_mem_nil); exact rfl)))); refine A.cast (listed' := #[true, true, true, true, true, true, true, true, true, true, true, true, true, true, true, true, true, true, true, true, true, true, true, true, true, true, true, true, false, false, false, false, false, false, false, false, false, false, false]) (by kernel_rfl) ?_) <;> ((first | (apply A.skipG 28; exact rfl; exact rfl; rotate_left 3; exact rfl; exact rfl; rotate_right 3; kernel_rfl; kernel_rfl; kernel_rfl) | (apply A.skipU 28; exact rfl; exact rfl; rotate_left 3; exact rfl; exact rfl; rotate_right 3; kernel_rfl; kernel_rfl; kernel_rfl) | (apply A.takeG 28; exact rfl; exact rfl; rotate_left 3; exact rfl; exact rfl; rotate_right 3; kernel_rfl; kernel_rfl; kernel_rfl; (apply Ok1.move; exact rfl))); refine A.cast (listed' := #[true, true, true, true, true, true, true, true, true, true, true, true, true, true, true, true, true, true, true, true, true, true, true, true, true, true, true, true, true, false, false, false, false, false, false, false, false, false, false]) (by kernel_rfl) ?_) <;> ((first | (apply A.skipG 29; exact rfl; exact rfl; rotate_left 3; exact rfl; exact rfl; rotate_right 3; kernel_rfl; kernel_rfl; kernel_rfl) | (apply A.skipU 29; exact rfl; exact rfl; rotate_left 3; exact rfl; exact rfl; rotate_right 3; kernel_rfl; kernel_rfl; kernel_rfl) | (apply A.takeG 29; exact rfl; exact rfl; rotate_left 3; exact rfl; exact rfl; rotate_right 3; kernel_rfl; kernel_rfl; kernel_rfl; (apply Ok1.indexAddrP; (iterate 4 exact rfl); (exact hpd); exact rfl; omega; omega))); refine A.cast (listed' := #[true, true, true, true, true, true, true, true, true, true, true, true, true, true, true, true, true, true, true, true, true, true, true, true, true, true, true, true, true, true, false, false, false, false, false, false, false, false, false]) (by kernel_rfl) ?_) <;> ((first | (apply A.skipG 30; exact rfl; exact rfl; rotate_left 3; exact rfl; exact rfl; rotate_right 3; kernel_rfl; kernel_rfl; kernel_rfl) | (apply A.skipU 30; exact rfl; exact rfl; rotate_left 3; exact rfl; exact rfl; rotate_right 3; kernel_rfl; kernel_rfl; kernel_rfl) | (apply A.takeG 30; exact rfl; exact rfl; rotate_left 3; exact rfl; exact rfl; rotate_right 3; kernel_rfl; kernel_rfl; kernel_rfl; (apply Ok1.fieldAddr; (iterate 5 exact rfl)))); refine A.cast (listed' := #[true, true, true, true, true, true, true, true, true, true, true, true, true, true, true, true, true, true, true, true, true, true, true, true, true, true, true, true, true, true, true, false, false, false, false, false, false, false, false]) (by kernel_rfl) ?_) <;> ((first | (apply A.skipG 31; exact rfl; exact rfl; rotate_left 3; exact rfl; exact rfl; rotate_right 3; kernel_rfl; kernel_rfl; kernel_rfl) | (apply A.skipU 31; exact rfl; exact rfl; rotate_left 3; exact rfl; exact rfl; rotate_right 3; kernel_rfl; kernel_rfl; kernel_rfl) | (apply A.takeG 31; exact rfl; exact rfl; rotate_left 3; exact rfl; exact rfl; rotate_right 3; kernel_rfl; kernel_rfl; kernel_rfl; (apply Ok1.fieldAddr; (iterate 5 exact rfl)))); refine A.cast (listed' := #[true, true, true, true, true, true, true, true, true, true, true, true, true, true, true, true, true, true, true, true, true, true, true, true, true, true, true, true, true, true, true, true, false, false, false, false, false, false, false]) (by kernel_rfl) ?_) <;> ((first | (apply A.skipG 32; exact rfl; exact rfl; rotate_left 3; exact rfl; exact rfl; rotate_right 3; kernel_rfl; kernel_rfl; kernel_rfl) | (apply A.skipU 32; exact rfl; exact rfl; rotate_left 3; exact rfl; exact rfl; rotate_right 3; kernel_rfl; kernel_rfl; kernel_rfl) | (apply A.takeG 32; exact rfl; exact rfl; rotate_left 3; exact rfl; exact rfl; rotate_right 3; kernel_rfl; kernel_rfl; kernel_rfl; (apply Ok1.load; exact rfl; (apply Ld.row1 (f := 3) HD; exact rfl; exact List.not_mem_nil; (iterate 3 exact rfl))))); refine A.cast (listed' := #[true, true, true, true, true, true, true, true, true, true, true, true, true, true, true, true, true, true, true, true, true, true, true, true, true, true, true, true, true, true, true, true, true, false, false, false, false, false, false]) (by kernel_rfl) ?_) <;> ((first | (apply A.skipG 33; exact rfl; exact rfl; rotate_left 3; exact rfl; exact rfl; rotate_right 3; kernel_rfl; kernel_rfl; kernel_rfl) | (apply A.skipU 33; exact rfl; exact rfl; rotate_left 3; exact rfl; exact rfl; rotate_right 3; kernel_rfl; kernel_rfl; kernel_rfl) | (apply A.takeG 33; exact rfl; exact rfl; rotate_left 3; exact rfl; exact rfl; rotate_right 3; kernel_rfl; kernel_rfl; kernel_rfl; (apply Ok1.fieldAddr; (iterate 5 exact rfl)))); refine A.cast (listed' := #[true, true, true, true, true, true, true, true, true, true, true, true, true, true, true, true, true, true, true, true, true, true, true, true, true, true, true, true, true, true, true, true, true, true, false, false, false, false, false]) (by kernel_rfl) ?_) <;> ((first | (apply A.skipG 34; exact rfl; exact rfl; rotate_left 3; exact rfl; exact rfl; rotate_right 3; kernel_rfl; kernel_rfl; kernel_rfl) | (apply A.skipU 34; exact rfl; exact rfl; rotate_left 3; exact rfl; exact rfl; rotate_right 3; kernel_rfl; kernel_rfl; kernel_rfl) | (apply A.takeG 34; exact rfl; exact rfl; rotate_left 3; exact rfl; exact rfl; rotate_right 3; kernel_rfl; kernel_rfl; kernel_rfl; (apply Ok1.load; exact rfl; (apply Ld.own1; exact rfl; exact rfl; exact At.head; exact rfl)))); refine A.cast (listed' := #[true, true, true, true, true, true, true, true, true, true, true, true, true, true, true, true, true, true, true, true, true, true, true, true, true, true, true, true, true, true, true, true, true, true, true, false, false, false, false]) (by kernel_rfl) ?_) <;> ((first | (apply A.skipG 35; exact rfl; exact rfl; rotate_left 3; exact rfl; exact rfl; rotate_right 3; kernel_rfl; kernel_rfl; kernel_rfl) | (apply A.skipU 35; exact rfl; exact rfl; rotate_left 3; exact rfl; exact rfl; rotate_right 3; kernel_rfl; kernel_rfl; kernel_rfl) | (apply A.takeG 35; exact rfl; exact rfl; rotate_left 3; exact rfl; exact rfl; rotate_right 3; kernel_rfl; kernel_rfl; kernel_rfl; first | (apply Ok1.geq_t; exact rfl; exact rfl; omega) | (apply Ok1.geq_f; exact rfl; exact rfl; omega))); refine A.cast (listed' := #[true, true, true, true, true, true, true, true, true, true, true, true, true, true, true, true, true, true, true, true, true, true, true, true, true, true, true, true, true, true, true, true, true, true, true, true, false, false, false]) (by kernel_rfl) ?_) <;> ((first | (apply A.skipG 36; exact rfl; exact rfl; rotate_left 3; exact rfl; exact rfl; rotate_right 3; kernel_rfl; kernel_rfl; kernel_rfl) | (apply A.takeG 36; exact rfl; exact rfl; rotate_left 3; exact rfl; exact rfl; rotate_right 3; kernel_rfl; kernel_rfl; kernel_rfl; first | (apply Ok1.pick_t; exact rfl; exact rfl) | (apply Ok1.pick_f; exact rfl; exact rfl))); refine A.cast (listed' := #[true, true, true, true, true, true, true, true, true, true, true, true, true, true, true, true, true, true, true, true, true, true, true, true, true, true, true, true, true, true, true, true, true, true, true, true, true, false, false]) (by kernel_rfl) ?_) <;> ((apply A.take 37; exact rfl; exact rfl; kernel_rfl; kernel_rfl; kernel_rfl; first | (apply Ok1.pick_t; exact rfl; exact rfl) | (apply Ok1.pick_f; exact rfl; exact rfl)); refine A.cast (listed' := #[true, true, true, true, true, true, true, true, true, true, true, true, true, true, true, true, true, true, true, true, true, true, true, true, true, true, true, true, true, true, true, true, true, true, true, true, true, true, false]) (by kernel_rfl) ?_) <;> ((apply A.take 38; exact rfl; exact rfl; kernel_rfl; kernel_rfl; kernel_rfl; (apply Ok1.assign; exact rfl)); refine A.cast (listed' := #[true, true, true, true, true, true, true, true, true, true, true, true, true, true, true, true, true, true, true, true, true, true, true, true, true, true, true, true, true, true, true, true, true, true, true, true, true, true, true]) (by kernel_rfl) ?_) <;> (apply A.done; kernel_rfl))) | apply T.seq | apply T.region | apply T.block | apply T.skip | (apply T.cond_t; exact rfl)))
      all_goals try (
          have hO9 : O = O2 := hO
          clear hO9
          rename_i b11
          cases ov with
          | none =>
            have h00 : O = [] := List.eq_nil_of_length_eq_zero hov.2
            subst h00
            simp only [slV, blkL, List.length_nil]
            repeat' (first | (apply R.is1; first | (apply R.isBin; (apply R.pure; exact rfl; first | (apply Ok1.add64; exact rfl; exact rfl; omega; omega) | (apply Ok1.lss_f; exact rfl; exact rfl; omega))) | (apply R.isCall; (apply R.pure; exact rfl; (apply Ok1.lenS; (iterate 3 exact rfl)))) | (apply R.pure; exact rfl; first | (apply Ok1.move; exact rfl) | (apply Ok1.assign; exact rfl) | (apply Ok1.not_t; exact rfl))) | apply R.nil | (apply T.is; first | apply T.rounds 1 | apply T.seq | apply T.region | apply T.skip | apply T.exit | (apply T.cond_f; exact rfl)))
            refine ⟨(i + 1, none), ?_⟩
            simp only [hO2, ← hO]
            exact ⟨⟨by omega, hov⟩, by omega, ⟨rfl, rfl, rfl, rfl, rfl, rfl, trivial⟩, by (try simp only [blkL]); (focus ((repeat' (exact Keep.nil _)); done))⟩
          | some q =>
            obtain ⟨bq, j, junk⟩ := q
            simp only [slV, blkL]
            apply T.loopK (α := Nat) (I := fun j => j ≤ O.length) (σi := fun k => [(0, .pointer (some ⟨bd, 0, none⟩)), (1, .int .i64 tick), (2, .pointer (some ⟨bs, 0, none⟩)), (3, .slice p l.length cap), (9, .slice (some ⟨bq, 0, none⟩) O.length (O.length + j)), (10, .int .i64 i), (11, .pointer (some ⟨b11, 0, none⟩)), (13, .bool (true)), (14, .int .i64 k)]) (Li := fun _ => (b11, .cells ⟨[.int .i64 c.id, .int .i64 c.roles, .int .i64 c.exp, .int .i64 c.ser]⟩ 65 (0, 0)) :: [(bq, .cells ⟨fl Cl.v O ++ junk⟩ 65 (0, 0))]) (μ := fun j => O.length - j) (i0 := 0)
            · exact Nat.zero_le _
            · exact ⟨rfl, rfl, rfl, rfl, rfl, rfl, rfl, rfl, rfl, trivial⟩
            · (focus ((repeat' (first | exact Keep.nil _ | exact Ext.one _ _ | apply Keep.cons)); done))
            · intro k hk
              rcases Nat.lt_or_ge k O.length with hlk | hgk
              · obtain ⟨y, hy⟩ : ∃ y, O[k]? = some y := ⟨_, List.getElem?_eq_getElem (by omega)⟩
                repeat' (first | (apply R.is1; first | (apply R.isBin; (apply R.pure; exact rfl; first | (apply Ok1.add64; exact rfl; exact rfl; omega; omega) | (apply Ok1.lss_t; exact rfl; exact rfl; omega))) | (apply R.isCall; (apply R.pure; exact rfl; (apply Ok1.lenS; (iterate 3 exact rfl)))) | (apply R.pure; exact rfl; first | (apply Ok1.move; exact rfl) | (apply Ok1.assign; exact rfl))) | apply R.nil | (apply T.is; first | (apply T.drawC (id := 11) [0,1] (by decide); ((apply A.take 0; exact rfl; exact rfl; kernel_rfl; kernel_rfl; kernel_rfl; (apply Ok1.move; exact rfl)) <;> (apply A.take 1; exact rfl; exact rfl; kernel_rfl; kernel_rfl; kernel_rfl; (apply Ok1.move; exact rfl)) <;> ((apply A.skipG 2; exact rfl; exact rfl; rotate_left 3; exact rfl; exact rfl; rotate_right 3; kernel_rfl; kernel_rfl; kernel_rfl)) <;> ((apply A.skipG 3; exact rfl; exact rfl; rotate_left 3; exact rfl; exact rfl; rotate_right 3; kernel_rfl; kernel_rfl; kernel_rfl)) <;> ((apply A.skipG 4; exact rfl; exact rfl; rotate_left 3; exact rfl; exact rfl; rotate_right 3; kernel_rfl; kernel_rfl; kernel_rfl)) <;> ((apply A.skipG 5; exact rfl; exact rfl; rotate_left 3; exact rfl; exact rfl; rotate_right 3; kernel_rfl; kernel_rfl; kernel_rfl)) <;> ((apply A.skipG 6; exact rfl; exact rfl; rotate_left 3; exact rfl; exact rfl; rotate_right 3; kernel_rfl; kernel_rfl; kernel_rfl)) <;> ((apply A.skipG 7; exact rfl; exact rfl; rotate_left 3; exact rfl; exact rfl; rotate_right 3; kernel_rfl; kernel_rfl; kernel_rfl)) <;> ((apply A.skipG 8; exact rfl; exact rfl; rotate_left 3; exact rfl; exact rfl; rotate_right 3; kernel_rfl; kernel_rfl; kernel_rfl)) <;> ((apply A.skipG 9; exact rfl; exact rfl; rotate_left 3; exact rfl; exact rfl; rotate_right 3; kernel_rfl; kernel_rfl; kernel_rfl)) <;> (apply A.take 10; exact rfl; exact rfl; kernel_rfl; kernel_rfl; kernel_rfl; (apply Ok1.pick_t; exact rfl; exact rfl)) <;> (apply A.take 11; exact rfl; exact rfl; kernel_rfl; kernel_rfl; kernel_rfl; (apply Ok1.assign; exact rfl)) <;> (apply A.done; kernel_rfl))) | apply T.seq | apply T.region | apply T.block | apply T.skip | (apply T.cond_t; exact rfl)))
                exact ⟨k + 1, by omega, by omega, ⟨rfl, rfl, rfl, rfl, rfl, rfl, rfl, rfl, rfl, trivial⟩, by (focus ((repeat' (first | exact Keep.nil _ | exact Ext.one _ _ | apply Keep.cons)); done))⟩
              · have hkm : k = O.length := by omega
                subst hkm
                repeat' (first | (apply R.is1; first | (apply R.isBin; (apply R.pure; exact rfl; first | (apply Ok1.add64; exact rfl; exact rfl; omega; omega) | (apply Ok1.lss_f; exact rfl; exact rfl; omega))) | (apply R.isCall; (apply R.pure; exact rfl; (apply Ok1.lenS; (iterate 3 exact rfl)))) | (apply R.pure; exact rfl; first | (apply Ok1.move; exact rfl) | (apply Ok1.assign; exact rfl) | (apply Ok1.not_t; exact rfl))) | apply R.nil | (apply T.is; first | apply T.seq | apply T.region | apply T.skip | apply T.exit | (apply T.cond_f; exact rfl)))
                refine ⟨(i + 1, some (bq, j, junk)), ?_⟩
                simp only [hO2, ← hO]
                exact ⟨⟨by omega, hov⟩, by omega, ⟨rfl, rfl, rfl, rfl, rfl, rfl, trivial⟩, by (try simp only [blkL]); (focus ((repeat' (first | exact Keep.nil _ | exact Ext.one _ _ | apply Keep.cons | apply Ext.cons)); done))⟩)
      all_goals
        rename_i b11
        cases ov with
        | none =>
          have h00 : O = [] := List.eq_nil_of_length_eq_zero hov.2
          subst h00
          simp only [slV, blkL, List.length_nil]
          repeat' (first | (apply R.is1; first | (apply R.isBin; (apply R.pure; exact rfl; (apply Ok1.lss_f; exact rfl; exact rfl; omega))) | (apply R.isCall; (apply R.pure; exact rfl; (apply Ok1.lenS; (iterate 3 exact rfl)))) | (apply R.pure; exact rfl; first | (apply Ok1.move; exact rfl) | (apply Ok1.load; exact rfl; (apply Ld.ownk; exact rfl; exact rfl; exact At.head; exact rfl)) | (apply Ok1.not_f; exact rfl)) | (apply R.buildSlice; (iterate 12 exact rfl); intro)) | apply R.nil | (apply T.is; first | apply T.rounds 1 | apply T.seq | apply T.region | apply T.exit | (apply T.cond_t; exact rfl) | (apply T.cond_f; exact rfl)))
          rw [if_neg (by simp [hasId])] at hO
          subst hO
          repeat' (first | (apply R.is1; first | (apply R.isBin; (apply R.pure; exact rfl; (apply Ok1.add64; exact rfl; exact rfl; omega; omega))) | (apply R.isCall; (apply R.append1; (iterate 12 exact rfl); (focus ((repeat' (exact OwnAt.nil _)); done)); exact At.head; exact rfl; exact rfl; omega; omega; intro b2 j2 k2 hj2)) | (apply R.pure; exact rfl; first | (apply Ok1.move; exact rfl) | (apply Ok1.assign; exact rfl))) | apply R.nil | (apply T.is; apply T.region))
          refine ⟨(i + 1, some (b2, j2, k2)), ?_⟩
          simp only [hO2, List.nil_append, List.length_singleton]
          exact ⟨⟨by omega, ⟨rfl, hj2⟩⟩, by omega, ⟨rfl, rfl, rfl, rfl, rfl, rfl, trivial⟩, by (try simp only [blkL]); (focus ((repeat' (first | exact Keep.nil _ | exact Ext.one _ _ | apply Keep.cons)); done))⟩
        | some q =>
          obtain ⟨bq, j, junk⟩ := q
          simp only [slV, blkL]
          apply T.loopK (α := Nat) (I := fun j => j ≤ O.length) (σi := fun k => [(0, .pointer (some ⟨bd, 0, none⟩)), (1, .int .i64 tick), (2, .pointer (some ⟨bs, 0, none⟩)), (3, .slice p l.length cap), (9, .slice (some ⟨bq, 0, none⟩) O.length (O.length + j)), (10, .int .i64 i), (11, .pointer (some ⟨b11, 0, none⟩)), (13, .bool (hasId (O.take k) c.id)), (14, .int .i64 k)]) (Li := fun _ => (b11, .cells ⟨[.int .i64 c.id, .int .i64 c.roles, .int .i64 c.exp, .int .i64 c.ser]⟩ 65 (0, 0)) :: [(bq, .cells ⟨fl Cl.v O ++ junk⟩ 65 (0, 0))]) (μ := fun j => O.length - j) (i0 := 0)
          · exact Nat.zero_le _
          · exact ⟨rfl, rfl, rfl, rfl, rfl, rfl, rfl, rfl, rfl, trivial⟩
          · (focus ((repeat' (first | exact Keep.nil _ | exact Ext.one _ _ | apply Keep.cons)); done))
          · intro k hk
            rcases Nat.lt_or_ge k O.length with hlk | hgk
            · obtain ⟨y, hy⟩ : ∃ y, O[k]? = some y := ⟨_, List.getElem?_eq_getElem (by omega)⟩
              have ht := hasId_take hy c.id
              cases hq : hasId (O.take k) c.id with
              | true =>
                rw [hq, Bool.true_or] at ht
                repeat' (first | (apply R.is1; first | (apply R.isBin; (apply R.pure; exact rfl; first | (apply Ok1.add64; exact rfl; exact rfl; omega; omega) | (apply Ok1.lss_t; exact rfl; exact rfl; omega))) | (apply R.isCall; (apply R.pure; exact rfl; (apply Ok1.lenS; (iterate 3 exact rfl)))) | (apply R.pure; exact rfl; first | (apply Ok1.move; exact rfl) | (apply Ok1.assign; exact rfl))) | apply R.nil | (apply T.is; first | (apply T.drawC (id := 11) [0,1] (by decide); ((apply A.take 0; exact rfl; exact rfl; kernel_rfl; kernel_rfl; kernel_rfl; (apply Ok1.move; exact rfl)) <;> (apply A.take 1; exact rfl; exact rfl; kernel_rfl; kernel_rfl; kernel_rfl; (apply Ok1.move; exact rfl)) <;> ((apply A.skipG 2; exact rfl; exact rfl; rotate_left 3; exact rfl; exact rfl; rotate_right 3; kernel_rfl; kernel_rfl; kernel_rfl)) <;> ((apply A.skipG 3; exact rfl; exact rfl; rotate_left 3; exact rfl; exact rfl; rotate_right 3; kernel_rfl; kernel_rfl; kernel_rfl)) <;> ((apply A.skipG 4; exact rfl; exact rfl; rotate_left 3; exact rfl; exact rfl; rotate_right 3; kernel_rfl; kernel_rfl; kernel_rfl)) <;> ((apply A.skipG 5; exact rfl; exact rfl; rotate_left 3; exact rfl; exact rfl; rotate_right 3; kernel_rfl; kernel_rfl; kernel_rfl)) <;> ((apply A.skipG 6; exact rfl; exact rfl; rotate_left 3; exact rfl; exact rfl; rotate_right 3; kernel_rfl; kernel_rfl; kernel_rfl)) <;> ((apply A.skipG 7; exact rfl; exact rfl; rotate_left 3; exact rfl; exact rfl; rotate_right 3; kernel_rfl; kernel_rfl; kernel_rfl)) <;> ((apply A.skipG 8; exact rfl; exact rfl; rotate_left 3; exact rfl; exact rfl; rotate_right 3; kernel_rfl; kernel_rfl; kernel_rfl)) <;> ((apply A.skipG 9; exact rfl; exact rfl; rotate_left 3; exact rfl; exact rfl; rotate_right 3; kernel_rfl; kernel_rfl; kernel_rfl)) <;> (apply A.take 10; exact rfl; exact rfl; kernel_rfl; kernel_rfl; kernel_rfl; (apply Ok1.pick_t; exact rfl; exact rfl)) <;> (apply A.take 11; exact rfl; exact rfl; kernel_rfl; kernel_rfl; kernel_rfl; (apply Ok1.assign; exact rfl)) <;> (apply A.done; kernel_rfl))) | apply T.seq | apply T.region | apply T.block | apply T.skip | (apply T.cond_t; exact rfl)))
                refine ⟨k + 1, by omega, by omega, ?_⟩
                simp only [ht]
                exact ⟨⟨rfl, rfl, rfl, rfl, rfl, rfl, rfl, rfl, rfl, trivial⟩, by (focus ((repeat' (first | exact Keep.nil _ | exact Ext.one _ _ | apply Keep.cons)); done))⟩
              | false =>
                rw [hq, Bool.false_or] at ht
                by_cases hyc : y.id = c.id
                · rw [decide_eq_true hyc] at ht
                  repeat' (first | (apply R.is1; first | (apply R.isBin; (apply R.pure; exact rfl; first | (apply Ok1.add64; exact rfl; exact rfl; omega; omega) | (apply Ok1.lss_t; exact rfl; exact rfl; omega))) | (apply R.isCall; (apply R.pure; exact rfl; (apply Ok1.lenS; (iterate 3 exact rfl)))) | (apply R.pure; exact rfl; first | (apply Ok1.move; exact rfl) | (apply Ok1.assign; exact rfl))) | apply R.nil | (apply T.is; first | (apply T.drawC (id := 11) [0,1] (by decide); ((apply A.take 0; exact rfl; exact rfl; kernel_rfl; kernel_rfl; kernel_rfl; (apply Ok1.move; exact rfl)) <;> (apply A.take 1; exact rfl; exact rfl; kernel_rfl; kernel_rfl; kernel_rfl; (apply Ok1.move; exact rfl)) <;> ((apply A.takeG 2; exact rfl; exact rfl; rotate_left 3; exact rfl; exact rfl; rotate_right 3; kernel_rfl; kernel_rfl; kernel_rfl; (apply Ok1.move; exact rfl))) <;> ((apply A.takeG 3; exact rfl; exact rfl; rotate_left 3; exact rfl; exact rfl; rotate_right 3; kernel_rfl; kernel_rfl; kernel_rfl; (apply Ok1.move; exact rfl))) <;> ((apply A.takeG 4; exact rfl; exact rfl; rotate_left 3; exact rfl; exact rfl; rotate_right 3; kernel_rfl; kernel_rfl; kernel_rfl; (apply Ok1.indexAddr; (iterate 5 exact rfl); omega; omega))) <;> ((apply A.takeG 5; exact rfl; exact rfl; rotate_left 3; exact rfl; exact rfl; rotate_right 3; kernel_rfl; kernel_rfl; kernel_rfl; (apply Ok1.fieldAddr; (iterate 5 exact rfl)))) <;> ((apply A.takeG 6; exact rfl; exact rfl; rotate_left 3; exact rfl; exact rfl; rotate_right 3; kernel_rfl; kernel_rfl; kernel_rfl; (apply Ok1.load; exact rfl; (apply Ld.ownrow1 (f := 0); (focus ((repeat' (first | exact At.head | apply At.tail)); done)); exact Cl.v_len4; exact hy; (focus ((simp; done))); (iterate 3 exact rfl))))) <;> ((apply A.takeG 7; exact rfl; exact rfl; rotate_left 3; exact rfl; exact rfl; rotate_right 3; kernel_rfl; kernel_rfl; kernel_rfl; (apply Ok1.fieldAddr; (iterate 5 exact rfl)))) <;> ((apply A.takeG 8; exact rfl; exact rfl; rotate_left 3; exact rfl; exact rfl; rotate_right 3; kernel_rfl; kernel_rfl; kernel_rfl; (apply Ok1.load; exact rfl; (apply Ld.own1; exact rfl; exact rfl; exact At.head; exact rfl)))) <;> ((apply A.takeG 9; exact rfl; exact rfl; rotate_left 3; exact rfl; exact rfl; rotate_right 3; kernel_rfl; kernel_rfl; kernel_rfl; (apply Ok1.eql_t; exact rfl; exact rfl; omega))) <;> (apply A.take 10; exact rfl; exact rfl; kernel_rfl; kernel_rfl; kernel_rfl; (apply Ok1.pick_f; exact rfl; exact rfl)) <;> (apply A.take 11; exact rfl; exact rfl; kernel_rfl; kernel_rfl; kernel_rfl; (apply Ok1.assign; exact rfl)) <;> (apply A.done; kernel_rfl))) | apply T.seq | apply T.region | apply T.block | apply T.skip | (apply T.cond_t; exact rfl)))
                  refine ⟨k + 1, by omega, by omega, ?_⟩
                  simp only [ht]
                  exact ⟨⟨rfl, rfl, rfl, rfl, rfl, rfl, rfl, rfl, rfl, trivial⟩, by (focus ((repeat' (first | exact Keep.nil _ | exact Ext.one _ _ | apply Keep.cons)); done))⟩
                · rw [decide_eq_false hyc] at ht
                  repeat' (first | (apply R.is1; first | (apply R.isBin; (apply R.pure; exact rfl; first | (apply Ok1.add64; exact rfl; exact rfl; omega; omega) | (apply Ok1.lss_t; exact rfl; exact rfl; omega))) | (apply R.isCall; (apply R.pure; exact rfl; (apply Ok1.lenS; (iterate 3 exact rfl)))) | (apply R.pure; exact rfl; first | (apply Ok1.move; exact rfl) | (apply Ok1.assign; exact rfl))) | apply R.nil | (apply T.is; first | (apply T.drawC (id := 11) [0,1] (by decide); ((apply A.take 0; exact rfl; exact rfl; kernel_rfl; kernel_rfl; kernel_rfl; (apply Ok1.move; exact rfl)) <;> (apply A.take 1; exact rfl; exact rfl; kernel_rfl; kernel_rfl; kernel_rfl; (apply Ok1.move; exact rfl)) <;> ((apply A.takeG 2; exact rfl; exact rfl; rotate_left 3; exact rfl; exact rfl; rotate_right 3; kernel_rfl; kernel_rfl; kernel_rfl; (apply Ok1.move; exact rfl))) <;> ((apply A.takeG 3; exact rfl; exact rfl; rotate_left 3; exact rfl; exact rfl; rotate_right 3; kernel_rfl; kernel_rfl; kernel_rfl; (apply Ok1.move; exact rfl))) <;> ((apply A.takeG 4; exact rfl; exact rfl; rotate_left 3; exact rfl; exact rfl; rotate_right 3; kernel_rfl; kernel_rfl; kernel_rfl; (apply Ok1.indexAddr; (iterate 5 exact rfl); omega; omega))) <;> ((apply A.takeG 5; exact rfl; exact rfl; rotate_left 3; exact rfl; exact rfl; rotate_right 3; kernel_rfl; kernel_rfl; kernel_rfl; (apply Ok1.fieldAddr; (iterate 5 exact rfl)))) <;> ((apply A.takeG 6; exact rfl; exact rfl; rotate_left 3; exact rfl; exact rfl; rotate_right 3; kernel_rfl; kernel_rfl; kernel_rfl; (apply Ok1.load; exact rfl; (apply Ld.ownrow1 (f := 0); (focus ((repeat' (first | exact At.head | apply At.tail)); done)); exact Cl.v_len4; exact hy; (focus ((simp; done))); (iterate 3 exact rfl))))) <;> ((apply A.takeG 7; exact rfl; exact rfl; rotate_left 3; exact rfl; exact rfl; rotate_right 3; kernel_rfl; kernel_rfl; kernel_rfl; (apply Ok1.fieldAddr; (iterate 5 exact rfl)))) <;> ((apply A.takeG 8; exact rfl; exact rfl; rotate_left 3; exact rfl; exact rfl; rotate_right 3; kernel_rfl; kernel_rfl; kernel_rfl; (apply Ok1.load; exact rfl; (apply Ld.own1; exact rfl; exact rfl; exact At.head; exact rfl)))) <;> ((apply A.takeG 9; exact rfl; exact rfl; rotate_left 3; exact rfl; exact rfl; rotate_right 3; kernel_rfl; kernel_rfl; kernel_rfl; (apply Ok1.eql_f; exact rfl; exact rfl; omega))) <;> (apply A.take 10; exact rfl; exact rfl; kernel_rfl; kernel_rfl; kernel_rfl; (apply Ok1.pick_f; exact rfl; exact rfl)) <;> (apply A.take 11; exact rfl; exact rfl; kernel_rfl; kernel_rfl; kernel_rfl; (apply Ok1.assign; exact rfl)) <;> (apply A.done; kernel_rfl))) | apply T.seq | apply T.region | apply T.block | apply T.skip | (apply T.cond_t; exact rfl)))
                  refine ⟨k + 1, by omega, by omega, ?_⟩
                  simp only [ht]
                  exact ⟨⟨rfl, rfl, rfl, rfl, rfl, rfl, rfl, rfl, rfl, trivial⟩, by (focus ((repeat' (first | exact Keep.nil _ | exact Ext.one _ _ | apply Keep.cons)); done))⟩
            · have hkm : k = O.length := by omega
              subst hkm
              rw [List.take_length]
              cases hq : hasId O c.id with
              | true =>
                rw [hq, if_pos rfl] at hO
                replace hO := hO.symm
                repeat' (first | (apply R.is1; first | (apply R.isBin; (apply R.pure; exact rfl; first | (apply Ok1.add64; exact rfl; exact rfl; omega; omega) | (apply Ok1.lss_f; exact rfl; exact rfl; omega))) | (apply R.isCall; (apply R.pure; exact rfl; (apply Ok1.lenS; (iterate 3 exact rfl)))) | (apply R.pure; exact rfl; first | (apply Ok1.move; exact rfl) | (apply Ok1.assign; exact rfl) | (apply Ok1.not_t; exact rfl))) | apply R.nil | (apply T.is; first | apply T.seq | apply T.region | apply T.skip | apply T.exit | (apply T.cond_f; exact rfl)))
                refine ⟨(i + 1, some (bq, j, junk)), ?_⟩
                simp only [hO2, ← hO]
                exact ⟨⟨by omega, hov⟩, by omega, ⟨rfl, rfl, rfl, rfl, rfl, rfl, trivial⟩, by (try simp only [blkL]); (focus ((repeat' (first | exact Keep.nil _ | exact Ext.one _ _ | apply Keep.cons | apply Ext.cons)); done))⟩
              | false =>
                rw [hq, if_neg (by simp)] at hO
                subst hO
                repeat' (first | (apply R.is1; first | (apply R.isBin; (apply R.pure; exact rfl; first | (apply Ok1.add64; exact rfl; exact rfl; omega; omega) | (apply Ok1.lss_f; exact rfl; exact rfl; omega))) | (apply R.isCall; first | (apply R.append1; (iterate 12 exact rfl); (focus ((repeat' (first | exact OwnAt.mid hov | apply OwnAt.tail)); done)); exact At.head; exact rfl; exact rfl; omega; omega; intro b2 j2 k2 hj2) | (apply R.pure; exact rfl; (apply Ok1.lenS; (iterate 3 exact rfl)))) | (apply R.pure; exact rfl; first | (apply Ok1.move; exact rfl) | (apply Ok1.load; exact rfl; (apply Ld.ownk; exact rfl; exact rfl; exact At.head; exact rfl)) | (apply Ok1.assign; exact rfl) | (apply Ok1.not_f; exact rfl)) | (apply R.buildSlice; (iterate 12 exact rfl); intro)) | apply R.nil | (apply T.is; first | apply T.seq | apply T.region | apply T.exit | (apply T.cond_t; exact rfl) | (apply T.cond_f; exact rfl)))
                refine ⟨(i + 1, some (b2, j2, k2)), ?_⟩
                simp only [hO2, List.length_append, List.length_singleton, fl_snoc]
                exact ⟨⟨by omega, OvOk.some (b := b2) hov (m := 1) rfl hj2⟩, by omega, ⟨rfl, rfl, rfl, rfl, rfl, rfl, trivial⟩, by (try simp only [blkL]); (focus ((repeat' (first | exact Keep.nil _ | exact Ext.one _ _ | apply Keep.cons)); done))⟩
    · have him : i = l.length := by omega
      subst him
      rw [List.take_length] at hov ⊢
      repeat' (first | (apply R.is1; first | (apply R.isBin; (apply R.pure; exact rfl; (apply Ok1.lss_f; exact rfl; exact rfl; omega))) | (apply R.isCall; (apply R.pure; exact rfl; (apply Ok1.lenS; (iterate 3 exact rfl)))) | (apply R.pure; exact rfl; first | (apply Ok1.move; exact rfl) | (apply Ok1.assign; exact rfl))) | apply R.nil | (apply T.is; first | apply T.seq | apply T.region | apply T.exit | apply T.ret | (apply T.cond_f; exact rfl)))
      (apply RetOk.t; exact rfl)
      exact ⟨_, by (focus ((repeat' (first | exact Ext.all _ | apply Keep.last)); done)), ov, hov, rfl, rfl⟩
end Go.Proofs.YtplhnkmmhndkjaaGreat
set_option linter.unusedSimpArgs false
set_option linter.unusedVariables false
namespace Go.Proofs.YtplhnkmmhndkjaaGreat
open Go.RowKit Go.Shelf
set_option pp.deepTerms.threshold 8
set_option maxRecDepth 100000
theorem VSame.new : VSame [] 0 [] := ⟨fun k => rfl, rfl, List.nodup_nil, List.nodup_nil, by simp, by simp, List.Pairwise.nil, by simp⟩
theorem lcat_lgs9 {gs ds : List Lg} (h : lgs gs = lgs ds) : lcat gs = lcat ds := by
  have h1 : ∀ gs : List Lg, lcat gs = (lgs gs).flatten := fun gs => by simp [lcat, lgs, List.flatMap]
  rw [h1, h1, h]
theorem candF_mem (own : Cl) (dl : List Cl) (tick : Int) (rl : List Int) (l : List Cl) : ∀ x ∈ candF own dl tick rl l, ¬ tick ≥ x.exp ∧ x.ser ∉ rl := by
  have : ∀ (l out : List Cl), (∀ x ∈ out, ¬ tick ≥ x.exp ∧ x.ser ∉ rl) → ∀ x ∈ l.foldl (fun out c => if cskip own dl tick rl out c = true then out else out ++ [c]) out, ¬ tick ≥ x.exp ∧ x.ser ∉ rl := by
    intro l
    induction l with
    | nil => intro out h; exact h
    | cons c r ih =>
      intro out h
      rw [List.foldl_cons]
      apply ih
      split
      · exact h
      · rename_i hc
        intro x hx
        rcases List.mem_append.1 hx with h1 | h1
        · exact h x h1
        · rw [List.mem_singleton.1 h1]
          simp only [cskip, Bool.or_eq_true, decide_eq_true_eq, not_or] at hc
          exact ⟨hc.1.1.1.2, hc.1.1.2⟩
  exact this l [] (by simp)
section
variable {X : Cx} {σ : Env} {L : Lst} {d : Option Nat} {g : Option (Nat × Bool)} {t e : TypeId} {ty : TypeId} {pos : String} {af : Array Edge} {x hi : Operand} {r re : TRow}
theorem Ok1.sliceHd {p : Option Addr} {len cap n : Nat} (ht : X.tb.row t = some r) (hk : r.k = .slice e) (he : X.tb.row e = some re) (hx : ev σ x = some (.slice p len cap)) (hh : ev σ hi = some (.int .i64 n)) (h1 : n ≤ cap) : Ok1 X ⟨d, .slice t x none (some hi) none, ty, pos, af, g⟩ σ L (.slice p n cap) := .mk fun a w ha hw => by
  rw [slice_run (l := 0) (h := n) (m := cap) X.tb ht hk he ha hx rfl (by simp [bd, hh]) rfl (by omega) (by omega) (by omega) (by omega) (.inl rfl)]
  cases p with
  | none => simp
  | some a => cases a; simp [Addr.add]
end
theorem scand_ok (own : Cl) (pI : Option Addr) (cI : Nat) (ins : List Cl) (p : Option Addr) (cap : Nat) (l : List Cl) (hcap : l.length ≤ cap) (hpn : p = none → cap = 0) (pV : Option Addr) (cV : Nat) (rv : List Int) (tick : Int) (w : World) (hI : RdSl w pI Cl.v ins) (hp : RdSl w p Cl.v l) (hV : RdSl w pV iV rv) :
    CallW Tryz.prog 4 [kvC own, .slice pI ins.length cI, .slice p l.length cap, .slice pV rv.length cV, .int .i64 tick] w fun v _ => v = .bool true := by
  obtain ⟨own', hor, ho⟩ : ∃ own' : Cl, own'.right ∧ own' = if own.right then own else ⟨3, 0, 0, 1⟩ := by
    by_cases h : own.right
    · exact ⟨own, h, by rw [if_pos h]⟩
    · exact ⟨⟨3, 0, 0, 1⟩, by decide, by rw [if_neg h]⟩
  have hrg := right_ok own.id own.roles own.exp own.ser
  have hto := to5_ok own'.id own'.roles own'.exp own'.ser
  have hnw := fun w1 => vnew_ok own' hor w1
  simp only [kvC] at hnw ⊢
  refine enterW (tb := tb) Tryz.func4 rfl Tryz.ntmps4 rfl ?_
  obtain ⟨G0, hG0⟩ : ∃ G, G = [lg0, lg0, lg0, lg0] := ⟨_, rfl⟩
  have hGg : GOk G0 := hG0 ▸ GOk.new
  have hrn := fun w1 => rnew_ok w1
  simp only [← hG0] at hrn
  repeat' (first | (apply R.is1; first | (apply R.pure; exact rfl; first | (apply Ok1.load; exact rfl; (apply Ld.ownk; exact rfl; exact rfl; exact At.head; exact rfl)) | (apply Ok1.assign; exact rfl)) | (apply R.box; (iterate 3 exact rfl); intro)) | apply R.nil | (apply T.is; first | (refine T.meetK (x := .seq (.region 1 _ _) _) (α := Nat) (I := fun _ => True) (σi := fun b => [(1, .slice pI ins.length cI), (2, .slice p l.length cap), (3, .slice pV rv.length cV), (4, .int .i64 tick), (5, .pointer (some ⟨b, 0, none⟩))]) (Li := fun b => [(b, .cells ⟨[.int .i64 own'.id, .int .i64 own'.roles, .int .i64 own'.exp, .int .i64 own'.ser]⟩ 65 (0, 0))]) ?_ ?_) | apply T.seq | apply T.region))
  · by_cases hr : own.right
    all_goals first | rw [if_pos hr] at ho | rw [if_neg hr] at ho
    all_goals first | rw [decide_eq_true (p := Cl.right ⟨own.id, own.roles, own.exp, own.ser⟩) hr] at hrg | rw [decide_eq_false (p := Cl.right ⟨own.id, own.roles, own.exp, own.ser⟩) hr] at hrg
    all_goals subst ho
    all_goals repeat' (first | (apply R.is1; first | (apply R.isCall; apply R.callP rfl rfl rfl hrg) | (apply R.pure; exact rfl; first | (apply Ok1.build; (iterate 5 exact rfl)) | (apply Ok1.not_t; exact rfl) | (apply Ok1.not_f; exact rfl))) | (apply R.is0; (apply R.store; (iterate 6 exact rfl); exact Upd.head; exact rfl)) | apply R.nil | (apply T.is; first | apply T.region | apply T.skip | (apply T.cond_t; exact rfl) | (apply T.cond_f; exact rfl)))
    all_goals exact ⟨_, trivial, ⟨rfl, rfl, rfl, rfl, rfl, trivial⟩, by (focus ((repeat' (first | exact Keep.nil _ | exact Ext.one _ _ | apply Keep.cons)); done))⟩
  · intro b5 _
    repeat' (first | (apply R.is1; first | (apply R.isBin; (apply R.pure; exact rfl; first | (apply Ok1.neq_f; exact rfl; exact rfl; omega) | (apply Ok1.eqlP; (iterate 5 exact rfl)))) | (apply R.isCall; first | apply R.callP rfl rfl rfl hto | (apply R.callE (vs := [.agg ⟨[.int .i64 own'.id, .int .i64 own'.roles, .int .i64 own'.exp, .int .i64 own'.ser]⟩]); (iterate 3 exact rfl); exact Ext.none _; intro w1 hw1; exact hnw w1; rintro v Lo ⟨bv, bm, rfl, rfl⟩) | (apply R.callE (vs := []); (iterate 3 exact rfl); exact Ext.none _; intro w1 hw1; exact hrn w1; rintro v Lo ⟨bs, rfl, rfl⟩)) | (apply R.pure; exact rfl; first | (apply Ok1.move; exact rfl) | (apply Ok1.load; exact rfl; (apply Ld.ownk; exact rfl; exact rfl; (focus ((repeat' (first | exact At.head | apply At.tail)); done)); exact rfl)) | (apply Ok1.assign; exact rfl) | (apply Ok1.build; (iterate 5 exact rfl)) | (apply Ok1.extract; exact rfl; exact rfl) | (apply Ok1.pick_f; exact rfl; exact rfl)) | (apply R.box; (iterate 3 exact rfl); intro)) | (apply R.isG; (apply R.guard_run; exact rfl; exact rfl)) | apply R.nil | (apply T.is; first | (apply T.stop 8) | apply T.seq | apply T.region | apply T.skip | (apply T.cond_f; exact rfl)))
    refine ⟨?_⟩
    rename_i bd bds
    have hV0 : DVL bd own' none [] = [(bd, .cells ⟨[.int .i64 own'.id, .int .i64 own'.roles, .int .i64 own'.exp, .int .i64 own'.ser, .slice none 0 0]⟩ 76 (0, 0))] := rfl
    have hD0 : DSL bds G0 = [(bds, .cells ⟨[.slice none 0 0, .slice none 0 0, .slice none 0 0, .slice none 0 0]⟩ 82 (0, 0))] := by rw [hG0]; rfl
    refine T.meetK (x := .seq (.region 8 _ _) _) (α := VMs × Nat × Ov × List Cl) (I := fun y => VSame y.1 y.2.1 y.2.2.2 ∧ OvOk 8 y.2.2.1 y.2.2.2.length (fl evC y.2.2.2)) (σi := fun y => [(2, .slice p l.length cap), (3, .slice pV rv.length cV), (4, .int .i64 tick), (11, .pointer (some ⟨bv, 0, none⟩)), (13, .pointer (some ⟨bd, 0, none⟩)), (14, .pointer (some ⟨bs, 0, none⟩)), (15, .pointer (some ⟨bds, 0, none⟩))]) (Li := fun y => VL bv bm own' y.1 y.2.1 ++ (DVL bd own' y.2.2.1 y.2.2.2 ++ (SetL bs G0 ++ DSL bds G0))) ?_ ?_
    · repeat' (first | (apply R.is1; (apply R.pure; exact rfl; (apply Ok1.assign; exact rfl))) | apply R.nil | (apply T.is; first | apply T.seq | apply T.region | apply T.block))
      apply T.loopK (α := Nat × VMs × Nat × Ov × List Cl) (I := fun y => (y.1 ≤ ins.length ∧ y.1 ≤ 20) ∧ VSame y.2.1 y.2.2.1 y.2.2.2.2 ∧ OvOk 8 y.2.2.2.1 y.2.2.2.2.length (fl evC y.2.2.2.2)) (σi := fun y => [(1, .slice pI ins.length cI), (2, .slice p l.length cap), (3, .slice pV rv.length cV), (4, .int .i64 tick), (11, .pointer (some ⟨bv, 0, none⟩)), (13, .pointer (some ⟨bd, 0, none⟩)), (14, .pointer (some ⟨bs, 0, none⟩)), (15, .pointer (some ⟨bds, 0, none⟩)), (16, .int .i64 y.1)]) (Li := fun y => VL bv bm own' y.2.1 y.2.2.1 ++ (DVL bd own' y.2.2.2.1 y.2.2.2.2 ++ (SetL bs G0 ++ DSL bds G0))) (μ := fun y => 20 - y.1) (i0 := (0, [], 0, none, []))
      · exact ⟨⟨Nat.zero_le _, Nat.zero_le _⟩, VSame.new, OvOk.start 8⟩
      · exact ⟨rfl, rfl, rfl, rfl, rfl, rfl, rfl, rfl, rfl, trivial⟩
      · simp only [hV0, hD0]
        (focus ((repeat' (first | exact Keep.nil _ | exact Ext.one _ _ | exact Ext.here _ _ | apply Keep.cons | apply Keep.app | apply Ext.cons | apply Ext.app)); done))
      · rintro ⟨i, ms, clk, ov, dl⟩ ⟨⟨hi, hi20⟩, hs, hov⟩
        simp only at hi hi20 hs hov ⊢
        have hfw := hs.few
        by_cases hlt : i < ins.length ∧ i < 20
        · obtain ⟨hlt1, hlt2⟩ := hlt
          obtain ⟨c, hc⟩ : ∃ c, ins[i]? = some c := ⟨_, List.getElem?_eq_getElem (by omega)⟩
          obtain ⟨bb, o, hpe, H⟩ := hI.at hc
          replace H := H 4 Cl.v_len4
          have htc := to5_ok c.id c.roles c.exp c.ser
          have hva := fun w1 => vadd_ok bv bm own' ms clk dl hs c w1
          have hda := fun w1 => dadd_ok bd own' ov dl hov hfw hs.sorted c w1
          simp only [Cl.v] at H
          simp only [kvC] at hva hda
          generalize VL bv bm own' ms clk = LV at *
          generalize DVL bd own' ov dl = LD at *
          repeat' (first | (apply R.is1; first | (apply R.isBin; (apply R.pure; exact rfl; first | (apply Ok1.add64; exact rfl; exact rfl; omega; omega) | (apply Ok1.lss_t; exact rfl; exact rfl; omega))) | (apply R.isCall; first | apply R.callP rfl rfl rfl htc | (apply R.callE (Li := LV) (vs := [.pointer (some ⟨bv, 0, none⟩), .agg ⟨[.int .i64 c.id, .int .i64 c.roles, .int .i64 c.exp, .int .i64 c.ser]⟩, .int .i64 0]); (iterate 3 exact rfl); (focus ((repeat' (exact Ext.here _ _)); done)); intro w1 hw1; exact hva w1; rintro v Lo ⟨ms', clk', hs', rfl⟩) | (apply R.callE (Li := LD) (vs := [.pointer (some ⟨bd, 0, none⟩), .agg ⟨[.int .i64 c.id, .int .i64 c.roles, .int .i64 c.exp, .int .i64 c.ser]⟩, .int .i64 0]); (iterate 3 exact rfl); (focus ((repeat' (first | exact Ext.here _ _ | apply Ext.cons | apply Ext.app)); done)); intro w1 hw1; exact hda w1; rintro v Lo ⟨ov', hov', rfl⟩) | (apply R.pure; exact rfl; (apply Ok1.lenS; (iterate 3 exact rfl)))) | (apply R.pure; exact rfl; first | (apply Ok1.indexAddrP; (iterate 4 exact rfl); exact hpe; exact rfl; omega; omega) | (apply Ok1.load; exact rfl; apply Ld.rowk0 H; exact rfl; exact List.not_mem_nil; (iterate 3 exact rfl)) | (apply Ok1.move; exact rfl) | (apply Ok1.assign; exact rfl) | (apply Ok1.pick_t; exact rfl; exact rfl))) | (apply R.isG; (apply R.guard_run; exact rfl; exact rfl)) | apply R.nil | (apply T.is; first | apply T.seq | apply T.region | apply T.block | apply T.skip | (apply T.cond_t; exact rfl)))
          exact ⟨(i + 1, ms', clk', ov', vadd own' dl c), ⟨⟨by simp only; omega, by simp only; omega⟩, hs', hov'⟩, by simp only; omega, ⟨rfl, rfl, rfl, rfl, rfl, rfl, rfl, rfl, rfl, trivial⟩, by (focus ((repeat' (first | exact Ext.one _ _ | exact Ext.here _ _ | exact Ext.all _ | apply Keep.cons | apply Keep.app | apply Keep.last | apply Ext.cons | apply Ext.app)); done))⟩
        · rcases Nat.lt_or_ge i ins.length with h1 | h1
          · have h2 : 20 ≤ i := by omega
            repeat' (first | (apply R.is1; first | (apply R.isBin; (apply R.pure; exact rfl; first | (apply Ok1.lss_t; exact rfl; exact rfl; omega) | (apply Ok1.lss_f; exact rfl; exact rfl; omega))) | (apply R.isCall; (apply R.pure; exact rfl; (apply Ok1.lenS; (iterate 3 exact rfl)))) | (apply R.pure; exact rfl; first | (apply Ok1.move; exact rfl) | (apply Ok1.pick_t; exact rfl; exact rfl))) | (apply R.isG; (apply R.guard_run; exact rfl; exact rfl)) | apply R.nil | (apply T.is; first | apply T.seq | apply T.region | apply T.exit | (apply T.cond_f; exact rfl)))
            exact ⟨(ms, clk, ov, dl), ⟨hs, hov⟩, ⟨rfl, rfl, rfl, rfl, rfl, rfl, rfl, trivial⟩, by (focus ((repeat' (first | exact Ext.one _ _ | exact Ext.here _ _ | exact Ext.all _ | apply Keep.cons | apply Keep.app | apply Keep.last)); done))⟩
          · repeat' (first | (apply R.is1; first | (apply R.isBin; (apply R.pure; exact rfl; (apply Ok1.lss_f; exact rfl; exact rfl; omega))) | (apply R.isCall; (apply R.pure; exact rfl; (apply Ok1.lenS; (iterate 3 exact rfl)))) | (apply R.pure; exact rfl; first | (apply Ok1.move; exact rfl) | (apply Ok1.pick_f; exact rfl; exact rfl))) | (apply R.isG; (apply R.guard_not; (iterate 3 exact rfl))) | apply R.nil | (apply T.is; first | apply T.seq | apply T.region | apply T.exit | (apply T.cond_f; exact rfl)))
            exact ⟨(ms, clk, ov, dl), ⟨hs, hov⟩, ⟨rfl, rfl, rfl, rfl, rfl, rfl, rfl, trivial⟩, by (focus ((repeat' (first | exact Ext.one _ _ | exact Ext.here _ _ | exact Ext.all _ | apply Keep.cons | apply Keep.app | apply Keep.last)); done))⟩
    · rintro ⟨ms, clk, ov, dl⟩ ⟨hs, hov⟩
      simp only at hs hov ⊢
      refine T.meetK (x := .seq (.region 13 _ _) _) (α := List Lg × List Lg) (I := fun y => GOk y.1 ∧ GOk y.2 ∧ lgs y.1 = lgs y.2) (σi := fun y => [(2, .slice p l.length cap), (4, .int .i64 tick), (11, .pointer (some ⟨bv, 0, none⟩)), (13, .pointer (some ⟨bd, 0, none⟩)), (14, .pointer (some ⟨bs, 0, none⟩)), (15, .pointer (some ⟨bds, 0, none⟩))]) (Li := fun y => VL bv bm own' ms clk ++ (DVL bd own' ov dl ++ (SetL bs y.1 ++ DSL bds y.2))) ?_ ?_
      · generalize VL bv bm own' ms clk = LV at *
        generalize DVL bd own' ov dl = LD at *
        repeat' (first | (apply R.is1; (apply R.pure; exact rfl; (apply Ok1.assign; exact rfl))) | apply R.nil | (apply T.is; first | apply T.seq | apply T.region | apply T.block))
        apply T.loopK (α := Nat × List Lg × List Lg) (I := fun y => (y.1 ≤ rv.length ∧ y.1 ≤ 6) ∧ GOk y.2.1 ∧ GOk y.2.2 ∧ lgs y.2.1 = lgs y.2.2) (σi := fun y => [(2, .slice p l.length cap), (3, .slice pV rv.length cV), (4, .int .i64 tick), (11, .pointer (some ⟨bv, 0, none⟩)), (13, .pointer (some ⟨bd, 0, none⟩)), (14, .pointer (some ⟨bs, 0, none⟩)), (15, .pointer (some ⟨bds, 0, none⟩)), (17, .int .i64 y.1)]) (Li := fun y => LV ++ (LD ++ (SetL bs y.2.1 ++ DSL bds y.2.2))) (μ := fun y => 6 - y.1) (i0 := (0, G0, G0))
        · exact ⟨⟨Nat.zero_le _, Nat.zero_le _⟩, hGg, hGg, rfl⟩
        · exact ⟨rfl, rfl, rfl, rfl, rfl, rfl, rfl, rfl, trivial⟩
        · (focus ((repeat' (first | exact Ext.one _ _ | exact Ext.here _ _ | exact Ext.all _ | apply Keep.cons | apply Keep.app | apply Keep.last)); done))
        · rintro ⟨i, gs, ds⟩ ⟨⟨hi, hi6⟩, hg, hd, he⟩
          simp only at hi hi6 hg hd he ⊢
          by_cases hlt : i < rv.length ∧ i < 6
          · obtain ⟨hlt1, hlt2⟩ := hlt
            obtain ⟨x, hx⟩ : ∃ x, rv[i]? = some x := ⟨_, List.getElem?_eq_getElem (by omega)⟩
            obtain ⟨bb, o, hpe, H⟩ := hV.at hx
            replace H := H 1 iV_len
            have hrv := fun b w1 h1 h2 => revoke_ok bs gs hg 0 (some ⟨b, 0, none⟩) 1 1 [x] rfl (by decide) w1 h1 h2
            have hdv := fun b w1 h1 h2 => drevoke_ok bds ds hd 0 (some ⟨b, 0, none⟩) 1 1 [x] rfl (by decide) w1 h1 h2
            generalize hLS : SetL bs gs = LS at *
            generalize hLT : DSL bds ds = LT at *
            repeat' (first | (apply R.is1; first | (apply R.isBin; (apply R.pure; exact rfl; first | (apply Ok1.add64; exact rfl; exact rfl; omega; omega) | (apply Ok1.lss_t; exact rfl; exact rfl; omega))) | (apply R.isCall; first | (apply R.callE (Li := LS); (iterate 3 exact rfl); (focus ((repeat' (first | exact Ext.here _ _ | apply Ext.cons | apply Ext.app)); done)); intro w1 hw1; exact hrv _ w1 (RdSl.of hw1 At.head (rfl : [Value.int .i64 x] = fl iV [x] ++ [])) (fun _ => Off.of hw1 (by (focus ((repeat' (first | exact Ext.here _ _ | apply Ext.cons | apply Ext.app)); done))) (by exact At.head)); rintro v Lo ⟨gs', rfl, hgl, hg', rfl⟩) | (apply R.callE (Li := LT); (iterate 3 exact rfl); (focus ((repeat' (first | exact Ext.all _ | apply Ext.cons | apply Ext.app)); done)); intro w1 hw1; exact hdv _ w1 (RdSl.of hw1 At.head (rfl : [Value.int .i64 x] = fl iV [x] ++ [])) (fun _ => Off.of hw1 (by (focus ((repeat' (first | exact Ext.all _ | apply Ext.cons | apply Ext.app)); done))) (by exact At.head)); rintro v Lo ⟨ds', rfl, hdl, hd', rfl⟩) | (apply R.pure; exact rfl; (apply Ok1.lenS; (iterate 3 exact rfl)))) | (apply R.pure; exact rfl; first | (apply Ok1.indexAddrP; (iterate 4 exact rfl); exact hpe; exact rfl; omega; omega) | (apply Ok1.load; exact rfl; apply Ld.row0 H; exact rfl; exact List.not_mem_nil; (iterate 3 exact rfl)) | (apply Ok1.move; exact rfl) | (apply Ok1.assign; exact rfl) | (apply Ok1.pick_t; exact rfl; exact rfl)) | (apply R.buildSlice; (iterate 12 exact rfl); intro)) | (apply R.isG; (apply R.guard_run; exact rfl; exact rfl)) | apply R.nil | (apply T.is; first | apply T.seq | apply T.region | apply T.block | apply T.skip | (apply T.cond_t; exact rfl)))
            exact ⟨(i + 1, gs', ds'), ⟨⟨by simp only; omega, by simp only; omega⟩, hg', hd', hgl.trans ((congrArg (fun z => revL z 0 [x]) he).trans hdl.symm)⟩, by simp only; omega, ⟨rfl, rfl, rfl, rfl, rfl, rfl, rfl, rfl, trivial⟩, by simp only [SetL, List.cons_append]; (focus ((repeat' (first | exact Ext.one _ _ | exact Ext.here _ _ | apply Keep.cons | apply Keep.app | apply Keep.last | apply Ext.cons | apply Ext.app)); done))⟩
          · rcases Nat.lt_or_ge i rv.length with h1 | h1
            · have h2 : 6 ≤ i := by omega
              repeat' (first | (apply R.is1; first | (apply R.isBin; (apply R.pure; exact rfl; first | (apply Ok1.lss_t; exact rfl; exact rfl; omega) | (apply Ok1.lss_f; exact rfl; exact rfl; omega))) | (apply R.isCall; (apply R.pure; exact rfl; (apply Ok1.lenS; (iterate 3 exact rfl)))) | (apply R.pure; exact rfl; first | (apply Ok1.move; exact rfl) | (apply Ok1.pick_t; exact rfl; exact rfl))) | (apply R.isG; (apply R.guard_run; exact rfl; exact rfl)) | apply R.nil | (apply T.is; first | apply T.seq | apply T.region | apply T.exit | (apply T.cond_f; exact rfl)))
              exact ⟨(gs, ds), ⟨hg, hd, he⟩, ⟨rfl, rfl, rfl, rfl, rfl, rfl, trivial⟩, by (focus ((repeat' (first | exact Ext.one _ _ | exact Ext.here _ _ | exact Ext.all _ | apply Keep.cons | apply Keep.app | apply Keep.last)); done))⟩
            · repeat' (first | (apply R.is1; first | (apply R.isBin; (apply R.pure; exact rfl; (apply Ok1.lss_f; exact rfl; exact rfl; omega))) | (apply R.isCall; (apply R.pure; exact rfl; (apply Ok1.lenS; (iterate 3 exact rfl)))) | (apply R.pure; exact rfl; first | (apply Ok1.move; exact rfl) | (apply Ok1.pick_f; exact rfl; exact rfl))) | (apply R.isG; (apply R.guard_not; (iterate 3 exact rfl))) | apply R.nil | (apply T.is; first | apply T.seq | apply T.region | apply T.exit | (apply T.cond_f; exact rfl)))
              exact ⟨(gs, ds), ⟨hg, hd, he⟩, ⟨rfl, rfl, rfl, rfl, rfl, rfl, trivial⟩, by (focus ((repeat' (first | exact Ext.one _ _ | exact Ext.here _ _ | exact Ext.all _ | apply Keep.cons | apply Keep.app | apply Keep.last)); done))⟩
      · rintro ⟨gs, ds⟩ ⟨hg, hd, he⟩
        simp only at hg hd he ⊢
        clear hnw hrn hto hrg
        obtain ⟨l2, hl2⟩ : ∃ l2, l2 = l.take 18 := ⟨_, rfl⟩
        have hl2n : l2.length = min 18 l.length := by rw [hl2, List.length_take]
        have hp2 : RdSl w p Cl.v l2 := hl2 ▸ hp.pre Cl.v_len4 18
        have hmin : min ((l.length : Nat) : Int) 18 = ((l2.length : Nat) : Int) := by omega
        have hfw := hs.few
        repeat' (first | (apply R.is1; first | (apply R.isCall; first | (apply R.pure; exact rfl; apply Ok1.min2E; exact rfl; exact rfl; exact hmin) | (apply R.pure; exact rfl; (apply Ok1.lenS; (iterate 3 exact rfl)))) | (apply R.pure; exact rfl; first | (apply Ok1.sliceHd; (iterate 5 exact rfl); omega) | (apply Ok1.move; exact rfl) | (apply Ok1.assign; exact rfl))) | apply R.nil | (apply T.is; first | (apply T.stop 20) | apply T.seq | apply T.region))
        refine ⟨?_⟩
        refine T.meetK (x := .seq (.region 20 _ _) _) (α := Ov) (I := fun y => OvOk 4 y dl.length (fl Cl.v dl)) (σi := fun y => [(2, .slice p l2.length cap), (4, .int .i64 tick), (11, .pointer (some ⟨bv, 0, none⟩)), (13, .pointer (some ⟨bd, 0, none⟩)), (14, .pointer (some ⟨bs, 0, none⟩)), (15, .pointer (some ⟨bds, 0, none⟩)), (18, slV y dl.length)]) (Li := fun y => VL bv bm own' ms clk ++ (DVL bd own' ov dl ++ (SetL bs gs ++ (DSL bds ds ++ blkL 65 y (fl Cl.v dl))))) ?_ ?_
        · generalize VL bv bm own' ms clk = LV at *
          generalize hLS : SetL bs gs = LS at *
          generalize hLT : DSL bds ds = LT at *
          cases ov with
          | none =>
            have h00 : dl = [] := List.eq_nil_of_length_eq_zero hov.2
            subst h00
            simp only [DVL, slV, blkL, List.length_nil]
            repeat' (first | (apply R.is1; first | (apply R.isBin; (apply R.pure; exact rfl; (apply Ok1.lss_f; exact rfl; exact rfl; omega))) | (apply R.isCall; (apply R.pure; exact rfl; (apply Ok1.lenS; (iterate 3 exact rfl)))) | (apply R.pure; exact rfl; first | (apply Ok1.move; exact rfl) | (apply Ok1.fieldAddr; (iterate 5 exact rfl)) | (apply Ok1.load; exact rfl; (apply Ld.own1; exact rfl; exact rfl; (focus ((repeat' (first | exact At.head | apply At.right)); done)); exact rfl)) | (apply Ok1.assign; exact rfl) | (apply Ok1.nilCheck; exact rfl))) | apply R.nil | (apply T.is; first | apply T.rounds 1 | apply T.seq | apply T.region | apply T.block | apply T.exit | (apply T.cond_f; exact rfl)))
            exact ⟨none, OvOk.start 4, ⟨rfl, rfl, rfl, rfl, rfl, rfl, rfl, trivial⟩, by simp only [blkL]; (focus ((repeat' (first | exact Keep.nil _ | exact Ext.one _ _ | exact Ext.here _ _ | exact Ext.all _ | apply Keep.cons | apply Keep.app)); done))⟩
          | some q =>
            obtain ⟨bq, j, junk⟩ := q
            simp only [DVL, slV, blkL]
            repeat' (first | (apply R.is1; (apply R.pure; exact rfl; (apply Ok1.assign; exact rfl))) | apply R.nil | (apply T.is; first | apply T.seq | apply T.region | apply T.block))
            apply T.loopK (α := Nat × Ov) (I := fun y => y.1 ≤ dl.length ∧ OvOk 4 y.2 y.1 (fl Cl.v (dl.take y.1))) (σi := fun y => [(2, .slice p l2.length cap), (4, .int .i64 tick), (11, .pointer (some ⟨bv, 0, none⟩)), (13, .pointer (some ⟨bd, 0, none⟩)), (14, .pointer (some ⟨bs, 0, none⟩)), (15, .pointer (some ⟨bds, 0, none⟩)), (18, slV y.2 y.1), (19, .int .i64 y.1)]) (Li := fun y => (bd, .cells ⟨[.int .i64 own'.id, .int .i64 own'.roles, .int .i64 own'.exp, .int .i64 own'.ser, .slice (some ⟨bq, 0, none⟩) dl.length (dl.length + j)]⟩ 76 (0, 0)) :: (bq, .cells ⟨fl evC dl ++ junk⟩ 88 (0, 0)) :: (LV ++ (LS ++ (LT ++ blkL 65 y.2 (fl Cl.v (dl.take y.1)))))) (μ := fun y => dl.length - y.1) (i0 := (0, none))
            · exact ⟨Nat.zero_le _, OvOk.start 4⟩
            · exact ⟨rfl, rfl, rfl, rfl, rfl, rfl, rfl, rfl, trivial⟩
            · simp only [blkL]
              (focus ((repeat' (first | exact Keep.nil _ | exact Ext.one _ _ | exact Ext.here _ _ | exact Ext.all _ | apply Keep.cons | apply Keep.app | apply Ext.app)); done))
            · rintro ⟨i, ovt⟩ ⟨hi, hovt⟩
              simp only at hi hovt ⊢
              rcases Nat.lt_or_ge i dl.length with hlt | hge
              · obtain ⟨c, hc⟩ : ∃ c, dl[i]? = some c := ⟨_, List.getElem?_eq_getElem (by omega)⟩
                repeat' (first | (apply R.is1; first | (apply R.isBin; (apply R.pure; exact rfl; first | (apply Ok1.add64; exact rfl; exact rfl; omega; omega) | (apply Ok1.lss_t; exact rfl; exact rfl; omega))) | (apply R.isCall; first | (apply R.append1; (iterate 12 exact rfl); (focus ((repeat' (first | exact OwnAt.base hovt | apply OwnAt.tail | apply OwnAt.right)); done)); exact At.head; exact rfl; exact rfl; omega; omega; intro b2 j2 k2 hj2) | (apply R.pure; exact rfl; (apply Ok1.lenS; (iterate 3 exact rfl)))) | (apply R.pure; exact rfl; first | (apply Ok1.load; exact rfl; (apply Ld.ownrowk (f := 0); (focus ((repeat' (first | exact At.head | apply At.tail | apply At.right)); done)); exact evC_len; exact hc; (focus ((simp; done))); (iterate 3 exact rfl))) | (apply Ok1.move; exact rfl) | (apply Ok1.fieldAddr; (iterate 5 exact rfl)) | (apply Ok1.load; exact rfl; (apply Ld.own1; exact rfl; exact rfl; exact At.head; exact rfl)) | (apply Ok1.assign; exact rfl) | (apply Ok1.indexAddr; (iterate 5 exact rfl); omega; omega) | (apply Ok1.nilCheck; exact rfl)) | (apply R.buildSlice; (iterate 12 exact rfl); intro)) | apply R.nil | (apply T.is; first | apply T.seq | apply T.region | apply T.block | apply T.skip | (apply T.cond_t; exact rfl)))
                refine ⟨(i + 1, some (b2, j2, k2)), ⟨by simp only; omega, ?_⟩, by simp only; omega, ⟨rfl, rfl, rfl, rfl, rfl, rfl, rfl, rfl, trivial⟩, ?_⟩
                · simp only [fl_take hc]; exact OvOk.some (b := b2) hovt (m := 1) rfl hj2
                · simp only [fl_take hc, blkL]; (focus ((repeat' (first | exact Keep.nil _ | exact Ext.one _ _ | exact Ext.here _ _ | apply Keep.cons | apply Keep.app | apply Ext.cons)); done))
              · have him : i = dl.length := by omega
                subst him
                rw [List.take_length] at hovt ⊢
                repeat' (first | (apply R.is1; first | (apply R.isBin; (apply R.pure; exact rfl; (apply Ok1.lss_f; exact rfl; exact rfl; omega))) | (apply R.isCall; (apply R.pure; exact rfl; (apply Ok1.lenS; (iterate 3 exact rfl)))) | (apply R.pure; exact rfl; first | (apply Ok1.move; exact rfl) | (apply Ok1.fieldAddr; (iterate 5 exact rfl)) | (apply Ok1.load; exact rfl; (apply Ld.own1; exact rfl; exact rfl; exact At.head; exact rfl)) | (apply Ok1.nilCheck; exact rfl))) | apply R.nil | (apply T.is; first | apply T.seq | apply T.region | apply T.exit | (apply T.cond_f; exact rfl)))
                exact ⟨ovt, hovt, ⟨rfl, rfl, rfl, rfl, rfl, rfl, rfl, trivial⟩, by simp only [blkL, List.cons_append, List.nil_append]; (focus ((repeat' (first | exact Ext.one _ _ | exact Ext.here _ _ | exact Ext.all _ | apply Keep.cons | apply Keep.app | apply Keep.last | apply Ext.cons)); done))⟩
        · intro ovt hovt
          have hVR : ∀ (L : Lst) w1, Hp w [] L w1 → (∀ z ∈ VL bv bm own' ms clk, z ∈ L) → VR9 w1 bv bm own' ms clk := fun L w1 h1 h2 => VR9.of h1 h2
          have hDR : ∀ (L : Lst) w1, Hp w [] L w1 → (∀ z ∈ DVL bd own' ov dl, z ∈ L) → DVR9 w1 bd own' ov dl := fun L w1 h1 h2 => ⟨fun z hz => h1.get _ _ (h2 z hz)⟩
          have hSR : ∀ (L : Lst) w1, Hp w [] L w1 → (∀ z ∈ SetL bs gs, z ∈ L) → SetR w1 bs gs := fun L w1 h1 h2 => SetR.of hg h1 h2
          have hTR : ∀ (L : Lst) w1, Hp w [] L w1 → (∀ z ∈ DSL bds ds, z ∈ L) → DSR w1 bds ds := fun L w1 h1 h2 => DSR.of hd h1 h2
          have hpl := fun w1 (hc : Chg [] w w1) => people_ok p cap l2 w1 (hp2.chg' hc (fun _ => Off.nil _))
          have hl2t : l2.take 18 = l2 := List.take_of_length_le (by omega)
          have hl2m : min l2.length 18 = l2.length := by omega
          simp only [hl2t, hl2m] at hpl
          have hcd := fun ovp9 cap9 w1 h1 h2 h3 => cands_ok bv bm own' ms clk dl hs tick bs gs hg ovp9 cap9 l2 (by omega) w1 h1 h2 h3
          have hsp := fun w1 => speople_ok bv bm own' ms clk dl hs w1
          have hdc := fun w1 h1 h2 h3 => dcands_ok bd own' ov dl hov hfw tick bds ds hd p cap l2 (by omega) w1 h1 h2 h3
          rw [← lcat_lgs9 he] at hdc
          have hNm := candF_mem own' dl tick (lcat gs) l2
          have hNl := candF_len own' dl tick (lcat gs) l2
          generalize candF own' dl tick (lcat gs) l2 = N at *
          generalize VL bv bm own' ms clk = LV at *
          generalize DVL bd own' ov dl = LD at *
          generalize SetL bs gs = LS at *
          generalize DSL bds ds = LT at *
          repeat' (first | (apply R.is1; first | (apply R.isCall; first | (apply R.callE (vs := [.slice p l2.length cap]); (iterate 3 exact rfl); exact Ext.none _; intro w1 hw1; exact hpl w1 hw1.chg; rintro v Lo ⟨ovp1, hovp, rfl, rfl⟩; rw [slV_eq hovp]) | (apply R.callE (vs := [.pointer (some ⟨bv, 0, none⟩), .int .i64 tick, .pointer (some ⟨bs, 0, none⟩), .slice (ovp ovp1) l2.length (ovc ovp1 l2.length)]); (iterate 3 exact rfl); exact Ext.none _; intro w1 hw1; exact hcd _ _ w1 (hVR _ w1 hw1 (Ext.mem (by (focus ((repeat' (first | exact Ext.here _ _ | apply Ext.app)); done))))) (hSR _ w1 hw1 (Ext.mem (by (focus ((repeat' (first | exact Ext.here _ _ | apply Ext.app)); done))))) (RdSl.own' hw1 (Ext.mem (by (focus ((repeat' (exact Ext.here _ _)); done)))) hovp Cl.v_len4); rintro v Lo ⟨ovn, hovn, rfl, rfl⟩)) | (apply R.pure; exact rfl; first | (apply Ok1.move; exact rfl) | (apply Ok1.assign; exact rfl))) | apply R.nil | (apply T.is; first | (apply T.stop 25) | apply T.seq | apply T.region))
          refine ⟨?_⟩
          refine T.meetK (x := .seq (.region 25 _ _) _) (α := Unit) (I := fun _ => True) (σi := fun _ => [(2, .slice p l2.length cap), (4, .int .i64 tick), (11, .pointer (some ⟨bv, 0, none⟩)), (13, .pointer (some ⟨bd, 0, none⟩)), (14, .pointer (some ⟨bs, 0, none⟩)), (15, .pointer (some ⟨bds, 0, none⟩)), (18, slV ovt dl.length), (20, slV ovn N.length)]) (Li := fun _ => LV ++ (LD ++ (LS ++ (LT ++ (blkL 65 ovt (fl Cl.v dl) ++ blkL 71 ovn (fl Cl.v N)))))) ?_ ?_
          · generalize blkL 65 ovt (fl Cl.v dl) = LB at *
            cases ovn with
            | none =>
              have h00 : N = [] := List.eq_nil_of_length_eq_zero hovn.2
              subst h00
              simp only [slV, blkL, List.length_nil]
              repeat' (first | (apply R.is1; first | (apply R.isBin; (apply R.pure; exact rfl; (apply Ok1.lss_f; exact rfl; exact rfl; omega))) | (apply R.isCall; (apply R.pure; exact rfl; (apply Ok1.lenS; (iterate 3 exact rfl)))) | (apply R.pure; exact rfl; first | (apply Ok1.move; exact rfl) | (apply Ok1.assign; exact rfl))) | apply R.nil | (apply T.is; first | apply T.rounds 1 | apply T.seq | apply T.region | apply T.block | apply T.exit | (apply T.cond_f; exact rfl)))
              exact ⟨(), trivial, ⟨rfl, rfl, rfl, rfl, rfl, rfl, rfl, rfl, trivial⟩, by (focus ((repeat' (first | exact Keep.nil _ | exact Ext.here _ _ | exact Ext.all _ | apply Keep.app | apply Ext.app)); done))⟩
            | some q =>
              obtain ⟨bq, j, junk⟩ := q
              simp only [slV, blkL]
              repeat' (first | (apply R.is1; (apply R.pure; exact rfl; (apply Ok1.assign; exact rfl))) | apply R.nil | (apply T.is; first | apply T.seq | apply T.region | apply T.block))
              apply T.loopK (α := Nat) (I := fun i => i ≤ N.length) (σi := fun i => [(2, .slice p l2.length cap), (4, .int .i64 tick), (11, .pointer (some ⟨bv, 0, none⟩)), (13, .pointer (some ⟨bd, 0, none⟩)), (14, .pointer (some ⟨bs, 0, none⟩)), (15, .pointer (some ⟨bds, 0, none⟩)), (18, slV ovt dl.length), (20, .slice (some ⟨bq, 0, none⟩) N.length (N.length + j)), (21, .int .i64 i)]) (Li := fun _ => (bq, .cells ⟨fl Cl.v N ++ junk⟩ 71 (0, 0)) :: (LV ++ (LD ++ (LS ++ (LT ++ LB))))) (μ := fun i => N.length - i) (i0 := 0)
              · exact Nat.zero_le _
              · exact ⟨rfl, rfl, rfl, rfl, rfl, rfl, rfl, rfl, rfl, trivial⟩
              · (focus ((repeat' (first | exact Ext.one _ _ | exact Ext.here _ _ | exact Ext.all _ | apply Keep.cons | apply Keep.app | apply Keep.last | apply Ext.app)); done))
              · intro i hi
                rcases Nat.lt_or_ge i N.length with hlt | hge
                · obtain ⟨c, hc⟩ : ∃ c, N[i]? = some c := ⟨_, List.getElem?_eq_getElem (by omega)⟩
                  obtain ⟨hc1, hc2⟩ := hNm c (List.mem_of_getElem? hc)
                  have hexp := expd_ok c tick
                  rw [decide_eq_false hc1] at hexp
                  have hhas := fun w1 h1 => has_w bs gs hg c.ser w1 h1
                  rw [decide_eq_false hc2] at hhas
                  simp only [kvC] at hexp
                  repeat' (first | (apply R.is1; first | (apply R.isBin; (apply R.pure; exact rfl; first | (apply Ok1.add64; exact rfl; exact rfl; omega; omega) | (apply Ok1.lss_t; exact rfl; exact rfl; omega))) | (apply R.isCall; first | apply R.callP rfl rfl rfl hexp | (apply R.callW (vs := [.pointer (some ⟨bs, 0, none⟩), .int .i64 c.ser]); (iterate 3 exact rfl); intro w1 hw1; exact hhas w1 (hSR _ w1 hw1 (Ext.mem (by (focus ((repeat' (first | exact Ext.here _ _ | apply Ext.cons | apply Ext.app)); done))))); rintro v rfl) | (apply R.pure; exact rfl; (apply Ok1.lenS; (iterate 3 exact rfl)))) | (apply R.pure; exact rfl; first | (apply Ok1.load; exact rfl; first | (apply Ld.ownrowk (f := 0); exact At.head; exact Cl.v_len4; exact hc; (focus ((simp; done))); (iterate 3 exact rfl)) | (apply Ld.ownrow1 (f := 3); exact At.head; exact Cl.v_len4; exact hc; (focus ((simp; done))); (iterate 3 exact rfl))) | (apply Ok1.move; exact rfl) | (apply Ok1.fieldAddr; (iterate 5 exact rfl)) | (apply Ok1.assign; exact rfl) | (apply Ok1.indexAddr; (iterate 5 exact rfl); omega; omega) | (apply Ok1.pick_f; exact rfl; exact rfl))) | (apply R.isG; (apply R.guard_run; exact rfl; exact rfl)) | apply R.nil | (apply T.is; first | apply T.seq | apply T.region | apply T.block | apply T.skip | (apply T.cond_t; exact rfl) | (apply T.cond_f; exact rfl)))
                  exact ⟨i + 1, by omega, by omega, ⟨rfl, rfl, rfl, rfl, rfl, rfl, rfl, rfl, rfl, trivial⟩, by (focus ((repeat' (first | exact Ext.one _ _ | exact Ext.here _ _ | exact Ext.all _ | apply Keep.cons | apply Keep.app | apply Keep.last)); done))⟩
                · have him : i = N.length := by omega
                  subst him
                  repeat' (first | (apply R.is1; first | (apply R.isBin; (apply R.pure; exact rfl; (apply Ok1.lss_f; exact rfl; exact rfl; omega))) | (apply R.isCall; (apply R.pure; exact rfl; (apply Ok1.lenS; (iterate 3 exact rfl)))) | (apply R.pure; exact rfl; (apply Ok1.move; exact rfl))) | apply R.nil | (apply T.is; first | apply T.seq | apply T.region | apply T.exit | (apply T.cond_f; exact rfl)))
                  exact ⟨(), trivial, ⟨rfl, rfl, rfl, rfl, rfl, rfl, rfl, rfl, trivial⟩, by (focus ((repeat' (first | exact Keep.nil _ | exact Ext.one _ _ | exact Ext.here _ _ | exact Ext.all _ | apply Keep.cons | apply Keep.app | apply Ext.cons)); done))⟩
          · intro _ _
            have hsame : ∀ (xs : List Cl), xs.length ≤ 1000000 → ∀ p1 p2 c1 c2 w1, RdSl w1 p1 Cl.v xs → RdSl w1 p2 Cl.v xs → CallW Tryz.prog 33 [.slice p1 xs.length c1, .slice p2 xs.length c2] w1 fun v _ => v = .bool true := by
              intro xs hx p1 p2 c1 c2 w1 h1 h2
              have h := csame_ok p1 p2 c1 c2 xs xs hx w1 h1 h2
              rw [decide_eq_true (rfl : xs = xs)] at h
              exact h
            have hs1 := hsame N (by omega)
            have hs2 := hsame dl (by omega)
            have hkn := known25_ok
            rw [slV_eq hovn, slV_eq hovt]
            repeat' (first | (apply R.is1; first | (apply R.isCall; first | apply R.callP rfl rfl rfl hkn | (apply R.callE (vs := [.pointer (some ⟨bd, 0, none⟩), .int .i64 tick, .pointer (some ⟨bds, 0, none⟩), .slice p l2.length cap]); (iterate 3 exact rfl); exact Ext.none _; intro w1 hw1; exact hdc w1 (hDR _ w1 hw1 (Ext.mem (by (focus ((repeat' (first | exact Ext.here _ _ | apply Ext.app)); done))))) (hTR _ w1 hw1 (Ext.mem (by (focus ((repeat' (first | exact Ext.here _ _ | apply Ext.app)); done))))) (hp2.chg' hw1.chg (fun _ => Off.nil _)); rintro v Lo ⟨ovd, hovd, rfl, rfl⟩; rw [slV_eq hovd]) | (apply R.callW; (iterate 3 exact rfl); intro w1 hw1; exact hs1 _ _ _ _ w1 (RdSl.own' hw1 (Ext.mem (by (focus ((repeat' (first | exact Ext.all _ | apply Ext.app)); done)))) hovn Cl.v_len4) (RdSl.own' hw1 (Ext.mem (by (focus ((repeat' (exact Ext.here _ _)); done)))) hovd Cl.v_len4); rintro v rfl)) | (apply R.pure; exact rfl; first | (apply Ok1.move; exact rfl) | (apply Ok1.pick_t; exact rfl; exact rfl))) | (apply R.isG; (apply R.guard_run; exact rfl; exact rfl)) | (apply T.is; first | apply T.seq | apply T.region))
            have hcn := fun q n c => candsN_ok tick bs q n c
            repeat' (first | (apply R.is1; first | (apply R.isBin; (apply R.pure; exact rfl; (apply Ok1.eql_t; exact rfl; exact rfl; omega))) | (apply R.isCall; first | apply R.callP rfl rfl rfl vpeopleN | apply R.callP rfl rfl rfl (hcn _ _ _) | (apply R.callE (Li := LV) (vs := [.pointer (some ⟨bv, 0, none⟩)]); (iterate 3 exact rfl); (focus ((repeat' (first | exact Ext.here _ _ | apply Ext.app)); done)); intro w1 hw1; exact hsp w1; rintro v Lo ⟨ovs, hovs, rfl, rfl⟩; rw [slV_eq hovs, List.append_assoc]) | (apply R.callW; (iterate 3 exact rfl); intro w1 hw1; exact hs2 _ _ _ _ w1 (RdSl.own' hw1 (Ext.mem (by (focus ((repeat' (first | exact Ext.here _ _ | apply Ext.app)); done)))) hovs Cl.v_len4) (RdSl.own' hw1 (Ext.mem (by (focus ((repeat' (first | exact Ext.here _ _ | apply Ext.app)); done)))) hovt Cl.v_len4); rintro v rfl) | (apply R.callE (vs := [.slice p l2.length cap]); (iterate 3 exact rfl); exact Ext.none _; intro w1 hw1; exact hpl w1 hw1.chg; rintro v Lo ⟨ovp2, hovp2, rfl, rfl⟩; rw [slV_eq hovp2]) | (apply R.pure; exact rfl; (apply Ok1.lenS; (iterate 3 exact rfl)))) | (apply R.pure; exact rfl; first | (apply Ok1.move; exact rfl) | (apply Ok1.assign; exact rfl) | (apply Ok1.pick_t; exact rfl; exact rfl))) | (apply R.isG; (apply R.guard_run; exact rfl; exact rfl)) | apply R.nil | (apply T.is; apply T.ret))
            (apply RetOk.t; exact rfl)
            rfl
end Go.Proofs.YtplhnkmmhndkjaaGreat
set_option linter.unusedSimpArgs false
set_option linter.unusedVariables false
namespace Go.Proofs.YtplhnkmmhndkjaaGreat
open Go.ChangeShapes Go.WideShapes Go.ChangeAt Go.RowKit
theorem ownY : ownKnob Tryz.prog.godebug = none := by kernel_rfl
theorem laidY : laidOutB Tryz.prog = true := by kernel_rfl
instance : Inhabited Rm := ⟨⟨0, ⟨0, 0, 0, 0⟩, 0⟩⟩
def clKs : List TK := [.int .i64, .int .i64, .int .i64, .int .i64]
theorem cl_dec : ∀ cs, allW clKs cs → ∃ c : Cl, c.v = cs := by
  rintro cs h
  simp only [clKs] at h
  match cs, h with
  | [.int k1 a, .int k2 b, .int k3 c, .int k4 d], h =>
    obtain ⟨⟨rfl, _⟩, ⟨rfl, _⟩, ⟨rfl, _⟩, ⟨rfl, _⟩, _⟩ := h
    exact ⟨⟨a, b, c, d⟩, rfl⟩
section
variable {H : Type} {enc : TypeId × Value → H} {P : Program} {w : World} {base : Nat} {spare : Nat → Bool} {held : Bool}
end
end Go.Proofs.YtplhnkmmhndkjaaGreat
