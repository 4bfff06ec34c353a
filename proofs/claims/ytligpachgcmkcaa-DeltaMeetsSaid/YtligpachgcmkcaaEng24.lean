/- Own slices of rows, of whatever kind: parts, writes, counts; contracts' helpers. -/
import Derived.Test.YtligpachgcmkcaaEng21
set_option linter.unusedSimpArgs false
set_option linter.unusedVariables false
namespace Go.Proofs.Ytligpachgcmkcaa
open Go.RowKit Go.Shelf

section
variable {α : Type} {v : α → List Value} {sz : Nat}
theorem ov_len {ov : Ov} {n : Nat} {rs : List α} (hv : ∀ a, (v a).length = sz) (hp : 1 ≤ sz) (h : OvOk sz ov n (fl v rs)) : rs.length = n := by
  have := h.1; rw [fl_len hv] at this; exact Nat.eq_of_mul_eq_mul_right (by omega) this
theorem fl_takeG (hv : ∀ a, (v a).length = sz) (l : List α) (i : Nat) : (fl v l).take (i * sz) = fl v (l.take i) := by
  induction l generalizing i with
  | nil => simp [fl]
  | cons a l ih =>
    cases i with
    | zero => simp [fl]
    | succ i =>
      have := ih i
      simp only [fl, List.map_cons, List.flatten_cons, List.take_succ_cons] at this ⊢
      rw [Nat.add_mul, List.take_append, ← this, hv, List.take_of_length_le (by rw [hv]; omega)]
      congr 2
      omega
theorem fl_dropG (hv : ∀ a, (v a).length = sz) (l : List α) (i : Nat) : (fl v l).drop (i * sz) = fl v (l.drop i) := by
  induction l generalizing i with
  | nil => simp [fl]
  | cons a l ih =>
    cases i with
    | zero => simp [fl]
    | succ i =>
      have := ih i
      simp only [fl, List.map_cons, List.flatten_cons, List.drop_succ_cons] at this ⊢
      rw [Nat.add_mul, List.drop_append, ← this, hv, List.drop_of_length_le (by rw [hv]; omega), List.nil_append]
      congr 1
      omega
theorem preV_g (hv : ∀ a, (v a).length = sz) {w0 w : World} {S : List Nat} {L : Lst} {e2 n i : Nat} {ov : Ov} {xs : List α} (hok : OvOk sz ov n (fl v xs)) (h1 : i ≤ n) (hb : ∀ x ∈ blkL e2 ov (fl v xs), x ∈ L) (hw : Hp w0 S L w) : Holds w (preV ov n i) (fl v (xs.take i)) := by
  rw [← fl_takeG hv]; exact preV_holds hok h1 hb hw
theorem sufV_g (hv : ∀ a, (v a).length = sz) {w0 w : World} {S : List Nat} {L : Lst} {e2 n i : Nat} {ov : Ov} {xs : List α} (hok : OvOk sz ov n (fl v xs)) (h1 : i ≤ n) (hb : ∀ x ∈ blkL e2 ov (fl v xs), x ∈ L) (hw : Hp w0 S L w) : Holds w (sufV ov sz n i) (fl v (xs.drop i)) := by
  rw [← fl_dropG hv]; exact sufV_holds hok h1 hb hw
theorem fl_cut (l : List α) {i : Nat} {x : α} (h : l[i]? = some x) : fl v l = fl v (l.take i) ++ (v x ++ fl v (l.drop (i + 1))) := by
  obtain ⟨hi, rfl⟩ := List.getElem?_eq_some_iff.1 h
  conv => lhs; rw [← List.take_append_drop i l, List.drop_eq_getElem_cons hi]
  simp only [fl, List.map_append, List.map_cons, List.flatten_append, List.flatten_cons]
theorem fl_set (l : List α) {i : Nat} (a : α) (h : i < l.length) : fl v (l.set i a) = fl v (l.take i) ++ (v a ++ fl v (l.drop (i + 1))) := by
  have h1 : (l.set i a)[i]? = some a := by simp [h]
  rw [fl_cut _ h1]
  congr 2
  · rw [List.take_set_of_le (Nat.le_refl _)]
  · congr 1
    rw [List.drop_set_of_lt (by omega)]
/-- A whole row written. -/
theorem setE_row (hv : ∀ a, (v a).length = sz) {l : List α} {i : Nat} (hi : i < l.length) (a : α) (junk : List Value) : setE (fl v l ++ junk) (0 + i * sz) (v a) = some (fl v (l.set i a) ++ junk) := by
  have h1 : l[i]? = some l[i] := List.getElem?_eq_getElem hi
  rw [fl_cut l h1, fl_set l a hi]
  have hl : (fl v (l.take i)).length = 0 + i * sz := by rw [fl_len hv, List.length_take, Nat.min_eq_left (by omega)]; omega
  have := setE_mid (fl v (l.take i)) (vs := v a) (junk := v l[i] ++ fl v (l.drop (i + 1)) ++ junk) (by rw [List.length_append, List.length_append, hv, hv]; omega)
  rw [hl] at this
  have e : fl v (l.take i) ++ (v l[i] ++ fl v (l.drop (i + 1))) ++ junk = fl v (l.take i) ++ (v l[i] ++ fl v (l.drop (i + 1)) ++ junk) := by simp only [List.append_assoc]
  rw [e, this]
  congr 1
  rw [show (v l[i] ++ fl v (l.drop (i + 1)) ++ junk).drop (v a).length = fl v (l.drop (i + 1)) ++ junk by rw [List.append_assoc, List.drop_append, hv, List.drop_of_length_le (by rw [hv]; omega), hv, Nat.sub_self]; rfl]
  simp only [List.append_assoc]
/-- One cell of a row written. -/
theorem setE_cell (hv : ∀ a, (v a).length = sz) {l : List α} {i f : Nat} {x : α} (hx : l[i]? = some x) (hf : f < sz) (a : α) {u : Value} (hu : (v x).set f u = v a) (junk : List Value) : setE (fl v l ++ junk) (0 + i * sz + f) [u] = some (fl v (l.set i a) ++ junk) := by
  obtain ⟨hi, _⟩ := List.getElem?_eq_some_iff.1 hx
  rw [fl_cut l hx, fl_set l a hi]
  have hl : (fl v (l.take i)).length = 0 + i * sz := by rw [fl_len hv, List.length_take, Nat.min_eq_left (by omega)]; omega
  have h2 : (v x).take f ++ [u] ++ (v x).drop (f + 1) = v a := by
    rw [← hu, List.set_eq_take_append_cons_drop, if_pos (by rw [hv]; exact hf)]
    simp
  have := setE_mid (fl v (l.take i) ++ (v x).take f) (vs := [u]) (junk := (v x).drop f ++ fl v (l.drop (i + 1)) ++ junk) (by
    rw [List.length_append, List.length_append, List.length_drop, hv]; simp; omega)
  have hl2 : (fl v (l.take i) ++ (v x).take f).length = 0 + i * sz + f := by rw [List.length_append, hl, List.length_take, hv, Nat.min_eq_left (by omega)]
  rw [hl2] at this
  have e : fl v (l.take i) ++ (v x ++ fl v (l.drop (i + 1))) ++ junk = fl v (l.take i) ++ (v x).take f ++ ((v x).drop f ++ fl v (l.drop (i + 1)) ++ junk) := by
    conv => lhs; rw [← List.take_append_drop f (v x)]
    simp only [List.append_assoc]
  rw [e, this]
  congr 1
  rw [← h2]
  have h3 : ((v x).drop f ++ fl v (l.drop (i + 1)) ++ junk).drop [u].length = (v x).drop (f + 1) ++ fl v (l.drop (i + 1)) ++ junk := by
    rw [List.append_assoc, List.drop_append_of_le_length (by rw [List.length_drop, hv]; simp; omega), List.drop_drop]
    simp only [List.length_cons, List.length_nil, Nat.zero_add, List.append_assoc]
  rw [h3]
  simp only [List.append_assoc]
end
theorem setE_one {v : Value} : ∀ {cs : List Value} {o : Nat}, o < cs.length → setE cs o [v] = some (cs.set o v)
  | [], o, h => by simp at h
  | c :: cs, 0, h => by cases cs <;> simp [setE]
  | c :: cs, o + 1, h => by simp [setE, setE_one (by simpa using h)]
theorem RdSl.ofMem {α : Type} {v : α → List Value} {rs : List α} {w0 w : World} {S : List Nat} {L : Lst} {b : Nat} {e : TypeId} {fz : Nat × Nat} {cs junk : List Value} (hw : Hp w0 S L w) (hm : (b, Obj.cells ⟨cs⟩ e fz) ∈ L) (hc : cs = fl v rs ++ junk) : RdSl w (some ⟨b, 0, none⟩) v rs := by
  subst hc
  right
  refine ⟨b, 0, rfl, fun k hk => ?_⟩
  have := hw.get b _ hm
  simp only [World.cell?, this]
  simp [hk, List.getElem?_append_left]
theorem fl_oneG {α : Type} {v : α → List Value} (h : ∀ a, (v a).all Value.oneCell' = true) (rs : List α) : (fl v rs).all Value.oneCell' = true := by
  rw [List.all_eq_true]
  intro x hx
  obtain ⟨l, hl, hx⟩ := List.mem_flatten.1 hx
  obtain ⟨r, _, rfl⟩ := List.mem_map.1 hl
  exact List.all_eq_true.1 (h r) x hx
end Go.Proofs.Ytligpachgcmkcaa
