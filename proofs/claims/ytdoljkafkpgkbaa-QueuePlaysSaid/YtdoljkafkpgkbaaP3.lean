/- Plain laws of the queue: what taking does; each rumour is told hv often hv it is to be. -/
import Derived.Test.YtdoljkafkpgkbaaP1
set_option linter.unusedSimpArgs false
set_option linter.unusedVariables false
namespace Go.Proofs.Ytdoljkafkpgkbaa
open Go.RowKit Go.Shelf Go.Sort

def take1 (s : QMs × Nat) (e : Rm × Int) : QMs × Nat := if e.2 - 1 = 0 then (mdel e.1.cl (mset e.1.cl (e.1, e.2 - 1) s.1), s.2) else (mset e.1.cl (e.1, e.2 - 1) s.1, s.2)
def takeL (s : QMs × Nat) (es : List (Rm × Int)) : QMs × Nat := es.foldl take1 s
def less1 (e : Rm × Int) : Option (Rm × Int) := if e.2 - 1 = 0 then none else some (e.1, e.2 - 1)
def QPos (s : QMs × Nat) : Prop := ∀ c x, mget c s.1 = some x → 1 ≤ x.2
theorem take1_get {s : QMs × Nat} (h : QOk s) {e : Rm × Int} (he : mget e.1.cl s.1 = some e) (c : Cl) : mget c (take1 s e).1 = if e.1.cl = c then less1 e else mget c s.1 := by
  unfold take1 less1
  by_cases h0 : e.2 - 1 = 0
  · rw [if_pos h0, if_pos h0]
    rw [mget_mdel c (by rw [mset_keys]; exact h.wf.keys), mget_mset c he]
    by_cases hc : e.1.cl = c
    · rw [if_pos hc, if_pos hc]
    · rw [if_neg hc, if_neg hc, if_neg hc]
  · rw [if_neg h0, if_neg h0, mget_mset c he]
theorem QOk.take1 {s : QMs × Nat} (h : QOk s) {e : Rm × Int} (he : mget e.1.cl s.1 = some e) (hp : 1 ≤ e.2) : QOk (take1 s e) := by
  obtain ⟨b, hb⟩ := mget_mem he
  have h1 := h.bd _ hb
  have h2 : QOk (mset e.1.cl (e.1, e.2 - 1) s.1, s.2) := h.set (x := (e.1, e.2 - 1)) ⟨by simp only; omega, by have := h1.2; simp only at this ⊢; omega⟩
  unfold Go.Proofs.Ytdoljkafkpgkbaa.take1
  split
  · exact h2.del _
  · exact h2
theorem QPos.take1 {s : QMs × Nat} (h : QOk s) (hp : QPos s) {e : Rm × Int} (he : mget e.1.cl s.1 = some e) : QPos (take1 s e) := by
  intro c x hx
  rw [take1_get h he] at hx
  by_cases hc : e.1.cl = c
  · rw [if_pos hc] at hx
    unfold less1 at hx
    have := hp _ _ he
    split at hx
    · cases hx
    · cases hx; simp only; omega
  · rw [if_neg hc] at hx; exact hp c x hx
def hasC (es : List (Rm × Int)) (c : Cl) : Option (Rm × Int) := es.find? fun e => decide (e.1.cl = c)
theorem takeL_ok : ∀ (es : List (Rm × Int)) {s : QMs × Nat}, QOk s → QPos s → es.Pairwise (fun a b => a.1.cl ≠ b.1.cl) → (∀ e ∈ es, mget e.1.cl s.1 = some e) →
    QOk (takeL s es) ∧ QPos (takeL s es) ∧ ∀ c, mget c (takeL s es).1 = match hasC es c with | some e => less1 e | none => mget c s.1
  | [], s, h, hp, _, _ => ⟨h, hp, fun _ => rfl⟩
  | e :: es, s, h, hp, hd, hm => by
    have he := hm e List.mem_cons_self
    obtain ⟨hd1, hd2⟩ := List.pairwise_cons.1 hd
    have h1 := h.take1 he (hp _ _ he)
    obtain ⟨i1, i2, i3⟩ := takeL_ok es h1 (hp.take1 h he) hd2 (fun x hx => by rw [take1_get h he, if_neg (hd1 x hx)]; exact hm x (List.mem_cons_of_mem _ hx))
    refine ⟨i1, i2, fun c => ?_⟩
    show mget c (takeL (Go.Proofs.Ytdoljkafkpgkbaa.take1 s e) es).1 = _
    rw [i3 c, take1_get h he]
    by_cases hc : e.1.cl = c
    · have hn : hasC es c = none := List.find?_eq_none.2 fun x hx => by simpa [← hc] using fun e' => hd1 x hx e'.symm
      have hn' : es.find? (fun e => decide (e.1.cl = c)) = none := hn
      simp only [hasC, List.find?_cons, hc, decide_true, if_true, hn']
    · simp only [hasC, List.find?_cons, hc, decide_false, if_false]
theorem rs_distinct {s : QMs × Nat} (h : QOk s) {rs : List (Rm × Int)} (p : rs.Perm (s.1.map (·.2.1))) : rs.Pairwise (fun a b => a.1.cl ≠ b.1.cl) := by
  have h1 : ((s.1.map (·.2.1)).map (·.1.cl)) = mkeys s.1 := by
    rw [List.map_map]
    exact List.map_congr_left fun e he => (h.key e he).symm
  have h2 := h.wf.keys
  rw [← h1] at h2
  exact List.pairwise_map.1 (((p.map fun x : Rm × Int => x.1.cl).nodup_iff).2 h2)
theorem rs_get {s : QMs × Nat} (h : QOk s) {rs : List (Rm × Int)} (p : rs.Perm (s.1.map (·.2.1))) {e : Rm × Int} (he : e ∈ rs) : mget e.1.cl s.1 = some e := (h.vals e).1 (p.mem_iff.1 he)
theorem takeL_at {s : QMs × Nat} (h : QOk s) (hp : QPos s) {rs : List (Rm × Int)} (p : rs.Perm (s.1.map (·.2.1))) (i : Nat) :
    QOk (takeL s (rs.take i)) ∧ QPos (takeL s (rs.take i)) ∧ (∀ c, mget c (takeL s (rs.take i)).1 = match hasC (rs.take i) c with | some e => less1 e | none => mget c s.1) ∧ ∀ e, rs[i]? = some e → mget e.1.cl (takeL s (rs.take i)).1 = some e := by
  have hd := rs_distinct h p
  obtain ⟨h1, h2, h3⟩ := takeL_ok (rs.take i) h hp (hd.sublist (List.take_sublist _ _)) (fun e he => rs_get h p ((List.take_sublist _ _).subset he))
  refine ⟨h1, h2, h3, fun e he => ?_⟩
  have hn : hasC (rs.take i) e.1.cl = none := by
    refine List.find?_eq_none.2 fun x hx => ?_
    obtain ⟨j, hj, rfl⟩ := List.getElem_of_mem hx
    simp only [List.length_take] at hj
    obtain ⟨hi, rfl⟩ := List.getElem?_eq_some_iff.1 he
    have := List.pairwise_iff_getElem.1 hd j i (by omega) hi (by omega)
    simpa using this
  rw [h3, hn]
  exact rs_get h p (List.mem_of_getElem? he)
theorem takeL_snoc {s : QMs × Nat} {rs : List (Rm × Int)} {i : Nat} {e : Rm × Int} (h : rs[i]? = some e) : takeL s (rs.take (i + 1)) = take1 (takeL s (rs.take i)) e := by
  simp [takeL, List.take_add_one, h]
/-- How often is one told by a taking of es. -/
def toldBy (es : List (Rm × Int)) (r : Rm) : Int := ((es.filter fun e => decide (r = e.1)).length : Nat)
theorem toldBy_snoc {rs : List (Rm × Int)} {i : Nat} {e : Rm × Int} (h : rs[i]? = some e) (r : Rm) : toldBy (rs.take (i + 1)) r = toldBy (rs.take i) r + if r = e.1 then 1 else 0 := by
  simp only [toldBy, List.take_add_one, h, Option.toList_some, List.filter_append, List.length_append]
  by_cases hr : r = e.1 <;> simp [hr]
theorem toldBy_one {es : List (Rm × Int)} (hd : es.Pairwise (fun a b => a.1.cl ≠ b.1.cl)) (r : Rm) : toldBy es r = if (∃ e ∈ es, e.1 = r) then 1 else 0 := by
  induction es with
  | nil => simp [toldBy]
  | cons e es ih =>
    obtain ⟨hd1, hd2⟩ := List.pairwise_cons.1 hd
    have ih := ih hd2
    simp only [toldBy] at ih ⊢
    by_cases hr : r = e.1
    · have h0 : ¬ ∃ x ∈ es, x.1 = r := by
        rintro ⟨x, hx, e'⟩
        exact hd1 x hx (by rw [e', hr])
      rw [if_neg h0] at ih
      rw [if_pos ⟨e, List.mem_cons_self, hr.symm⟩]
      simp only [List.filter_cons, hr, decide_true, if_true, List.length_cons] at ih ⊢
      omega
    · simp only [List.filter_cons, hr, decide_false, Bool.false_eq_true, if_false]
      rw [ih]
      congr 1
      simp only [List.mem_cons, exists_eq_or_imp, eq_iff_iff]
      exact ⟨fun h => .inr h, fun h => h.resolve_left fun e' => hr e'.symm⟩
/-- The queue s has none but rumours of hv, which are of unlike claims. -/
structure Of (hv : List Rm) (s : QMs × Nat) : Prop where
  ok : QOk s
  pos : QPos s
  sub : ∀ c x, mget c s.1 = some x → x.1 ∈ hv
theorem Of.take {hv : List Rm} (hda : hv.Pairwise fun a b => a.cl ≠ b.cl) {s : QMs × Nat} (h : Of hv s) {rs : List (Rm × Int)} (p : rs.Perm (s.1.map (·.2.1))) (i : Nat) :
    Of hv (takeL s (rs.take i)) ∧ ∀ r ∈ hv, lefte (takeL s (rs.take i)).1 r.cl = lefte s.1 r.cl - toldBy (rs.take i) r := by
  obtain ⟨h1, h2, h3, _⟩ := takeL_at h.ok h.pos p i
  have hd := (rs_distinct h.ok p).sublist (List.take_sublist i rs)
  have hmem : ∀ e ∈ rs.take i, mget e.1.cl s.1 = some e := fun e he => rs_get h.ok p ((List.take_sublist _ _).subset he)
  refine ⟨⟨h1, h2, fun c x hx => ?_⟩, fun r hr => ?_⟩
  · rw [h3] at hx
    cases hh : hasC (rs.take i) c with
    | none => rw [hh] at hx; exact h.sub c x hx
    | some e =>
      rw [hh] at hx
      simp only [less1] at hx
      split at hx
      · cases hx
      · cases hx
        exact h.sub _ e (hmem e (List.mem_of_find?_eq_some hh))
  · rw [toldBy_one hd]
    unfold lefte
    rw [h3]
    cases hh : hasC (rs.take i) r.cl with
    | none =>
      have : ¬ ∃ e ∈ rs.take i, e.1 = r := by
        rintro ⟨e, he, rfl⟩
        have := List.find?_eq_none.1 hh e he
        simp at this
      rw [if_neg this]; simp
    | some e =>
      have he := List.mem_of_find?_eq_some hh
      have hc : e.1.cl = r.cl := by simpa using List.find?_some hh
      have hm := hmem e he
      have hin := h.sub _ e hm
      have her : e.1 = r := by
        obtain ⟨i1, hi1, e1⟩ := List.getElem_of_mem hin
        obtain ⟨i2, hi2, e2⟩ := List.getElem_of_mem hr
        rcases Nat.lt_trichotomy i1 i2 with hlt | heq | hlt
        · exact absurd (by rw [e1, e2]; exact hc) (List.pairwise_iff_getElem.1 hda i1 i2 hi1 hi2 hlt)
        · subst heq; rw [← e1, ← e2]
        · exact absurd (by rw [e1, e2]; exact hc.symm) (List.pairwise_iff_getElem.1 hda i2 i1 hi2 hi1 hlt)
      rw [if_pos ⟨e, he, her⟩]
      rw [hc] at hm
      rw [hm]
      simp only [less1]
      by_cases h0 : e.2 - 1 = 0
      · rw [if_pos h0]; exact h0.symm
      · rw [if_neg h0]
def lsum (hv : List Rm) (s : QMs × Nat) : Int := (hv.map fun r => lefte s.1 r.cl).sum
theorem sum_le {hv : List Rm} {f g : Rm → Int} (h : ∀ r ∈ hv, f r ≤ g r) : (hv.map f).sum ≤ (hv.map g).sum := by
  induction hv with
  | nil => simp
  | cons a hv ih =>
    have := h a List.mem_cons_self
    have := ih fun r hr => h r (List.mem_cons_of_mem _ hr)
    simp only [List.map_cons, List.sum_cons]; omega
theorem sum_lt {hv : List Rm} {f g : Rm → Int} (h : ∀ r ∈ hv, f r ≤ g r) {x : Rm} (hx : x ∈ hv) (hl : f x < g x) : (hv.map f).sum < (hv.map g).sum := by
  induction hv with
  | nil => cases hx
  | cons a hv ih =>
    have ha := h a List.mem_cons_self
    simp only [List.map_cons, List.sum_cons]
    rcases List.mem_cons.1 hx with rfl | hx
    · have := sum_le fun r hr => h r (List.mem_cons_of_mem _ hr); omega
    · have := ih (fun r hr => h r (List.mem_cons_of_mem _ hr)) hx; omega
theorem toldBy_nn (es : List (Rm × Int)) (r : Rm) : 0 ≤ toldBy es r := by unfold toldBy; omega
theorem Of.drops {hv : List Rm} (hda : hv.Pairwise fun a b => a.cl ≠ b.cl) {s : QMs × Nat} (h : Of hv s) {rs : List (Rm × Int)} (p : rs.Perm (s.1.map (·.2.1))) {i : Nat} (hi : 0 < i) (hr : 0 < rs.length) :
    lsum hv (takeL s (rs.take i)) < lsum hv s := by
  obtain ⟨h1, h2⟩ := h.take hda p i
  have hd := (rs_distinct h.ok p).sublist (List.take_sublist i rs)
  cases rs with
  | nil => simp at hr
  | cons e rs =>
    have he : e ∈ (e :: rs).take i := by
      cases i with
      | zero => omega
      | succ i => simp
    have hin := h.sub _ e (rs_get h.ok p List.mem_cons_self)
    refine sum_lt (fun r hr => by rw [h2 r hr]; have := toldBy_nn ((e :: rs).take i) r; omega) hin ?_
    rw [h2 _ hin, toldBy_one hd, if_pos ⟨e, he, rfl⟩]
    omega
theorem lefte_nn {s : QMs × Nat} (h : QPos s) (c : Cl) : 0 ≤ lefte s.1 c := by
  unfold lefte
  cases hm : mget c s.1 with
  | none => simp
  | some x => have := h c x hm; simp only; omega
theorem lsum_nn (hv : List Rm) {s : QMs × Nat} (h : QPos s) : 0 ≤ lsum hv s := by
  have := sum_le (hv := hv) (f := fun _ => 0) (g := fun r => lefte s.1 r.cl) fun r _ => lefte_nn h r.cl
  unfold lsum
  refine Int.le_trans (Int.le_of_eq ?_) this
  clear this h
  induction hv with
  | nil => rfl
  | cons a hv ih => simp only [List.map_cons, List.sum_cons, ← ih]; omega
end Go.Proofs.Ytdoljkafkpgkbaa
