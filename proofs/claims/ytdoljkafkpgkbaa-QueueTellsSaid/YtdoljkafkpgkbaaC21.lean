/- QueueTells. -/
import Derived.Test.YtdoljkafkpgkbaaC20
import Derived.Test.YtdoljkafkpgkbaaC17
set_option linter.unusedSimpArgs false
set_option linter.unusedVariables false
namespace Go.Proofs.Ytdoljkafkpgkbaa
open Go.RowKit Go.Shelf Go.Sort
set_option maxRecDepth 100000

theorem Off.ov {w0 w : World} {S : List Nat} {L Li Lr : Lst} {e : Nat} {ov : Ov} {xs : List Value} (hw : Hp w0 S L w) (he : Ext L Li Lr) (hb : ∀ x ∈ blkL e ov xs, x ∈ Lr) : Off (ovp ov) (blks Li) := by
  cases ov with
  | none => intro a ha; cases ha
  | some x => obtain ⟨b, j, junk⟩ := x; intro a ha; cases ha; exact RdSl.off hw he (hb _ List.mem_cons_self)
theorem Add_own (q : Nat) (st : QS) (n : Int) {ov : Ov} {m e : Nat} {rs : List Rm} (hov : OvOk 6 ov m (fl Rm.v rs)) (hl : m ≤ 1000) {w0 w : World} {S : List Nat} {L Lr : Lst} (hw : Hp w0 S L w) (he : Ext L (QL q st) Lr) (hb : ∀ x ∈ blkL e ov (fl Rm.v rs), x ∈ Lr) :
    CallM Try.prog 25 [.pointer (some ⟨q, 0, none⟩), .int .i64 n, slV ov m] (QL q st) w fun v L => ∃ ov st', OvOk 1 ov m (ints (addL n st.s rs).1) ∧ v = slV ov m ∧ L = blkL 47 ov (ints (addL n st.s rs).1) ++ QL q st' ∧ st'.s = (addL n st.s rs).2 := by
  have hn := rows_len hov
  subst hn
  rw [slV_eq hov]
  exact Add_ok q st n _ _ rs (by omega) w (RdSl.own' hw (fun x hx => he.perm.subset (List.mem_append_right _ (hb x hx))) hov Rm.v_len) (Off.ov hw he hb)
def mix (f g : Rm → Int) (j : Nat) (l : List Rm) : List Value := (l.take j).map (fun r => .int .i64 (g r)) ++ (l.drop j).map (fun r => .int .i64 (f r))
theorem drop_at {l : List Rm} {j : Nat} {r : Rm} (h : l[j]? = some r) : l.drop j = r :: l.drop (j + 1) ∧ (l.take j).length = j := by
  obtain ⟨hj, rfl⟩ := List.getElem?_eq_some_iff.1 h
  exact ⟨List.drop_eq_getElem_cons hj, by rw [List.length_take]; omega⟩
theorem mix_get {f g : Rm → Int} {l : List Rm} {j : Nat} {r : Rm} (h : l[j]? = some r) : (mix f g j l)[0 + j * 1]? = some (.int .i64 (f r)) := by
  obtain ⟨h1, h2⟩ := drop_at h
  have h3 : ((l.take j).map (fun r => Value.int .i64 (g r))).length = j := by rw [List.length_map, h2]
  unfold mix
  rw [Nat.zero_add, Nat.mul_one, List.getElem?_append_right (by omega), h3, h1]; simp
theorem mix_len (f g : Rm → Int) (l : List Rm) (j : Nat) : (mix f g j l).length = l.length := by
  unfold mix; simp only [List.length_append, List.length_map, List.length_take, List.length_drop]; omega
theorem mix_set {f g : Rm → Int} {l : List Rm} {j : Nat} {r : Rm} (h : l[j]? = some r) : (mix f g j l).set (0 + j * 1) (.int .i64 (g r)) = mix f g (j + 1) l := by
  obtain ⟨h1, h2⟩ := drop_at h
  have h3 : ((l.take j).map (fun r => Value.int .i64 (g r))).length = j := by rw [List.length_map, h2]
  unfold mix
  rw [Nat.zero_add, Nat.mul_one, List.set_append_right _ _ (by omega), h3, h1]
  simp [List.take_add_one, h]
theorem mix_same {f g : Rm → Int} {l : List Rm} {j : Nat} {r : Rm} (h : l[j]? = some r) (he : g r = f r) : mix f g (j + 1) l = mix f g j l := by
  obtain ⟨h1, h2⟩ := drop_at h
  unfold mix
  rw [h1]
  simp [List.take_add_one, h, he]
theorem mix_zero (f g : Rm → Int) (l : List Rm) : mix f g 0 l = l.map fun r => .int .i64 (f r) := by simp [mix]
theorem mix_all (f g : Rm → Int) (l : List Rm) : mix f g l.length l = l.map fun r => .int .i64 (g r) := by simp [mix]
theorem setE_one {v : Value} : ∀ {cs : List Value} {o : Nat}, o < cs.length → setE cs o [v] = some (cs.set o v)
  | [], o, h => by simp at h
  | c :: cs, 0, h => by cases cs <;> simp [setE]
  | c :: cs, o + 1, h => by simp [setE, setE_one (by simpa using h)]
theorem IsB.all {n : Int} : ∀ (rs pre : List Rm) {s : QMs × Nat}, IsB n pre s → (pre ++ rs).length ≤ 32 → IsB n (pre ++ rs) (rs.foldl (qadd n) s)
  | [], pre, s, h, _ => by simpa using h
  | r :: rs, pre, s, h, hl => by
    have h1 := h.add (by simp at hl; omega) r
    have := IsB.all rs (pre ++ [r]) h1 (by simpa using hl)
    simpa using this
theorem blen_pos {m : Nat} (h : 0 < m) : 1 ≤ blen m := by
  rw [blen_half (by omega)]; omega
theorem tms_pos (n : Int) : 1 ≤ tms n := by
  have := blen_pos (m := (min (max n 0) 1073741824 + 1).toNat) (by omega)
  unfold tms; omega
theorem tms_16 {n : Int} (h : n ≤ 16) : tms n ≤ 15 := by
  have := blen_le 5 (x := (min (max n 0) 1073741824 + 1).toNat) (by omega)
  unfold tms; omega
theorem IsB.of {n : Int} {xs : List Rm} {st : QS} (h : IsB n xs st.s) {rs : List (Rm × Int)} (p : rs.Perm (st.s.1.map (·.2.1))) : Of (rs.map (·.1)) st.s ∧ (rs.map (·.1)).Pairwise (fun a b => a.cl ≠ b.cl) ∧ ∀ r ∈ rs.map (·.1), lefte st.ms r.cl = tms n := by
  refine ⟨⟨h.ok, fun c x hx => ?_, fun c x hx => ?_⟩, List.pairwise_map.2 (rs_distinct h.ok p), fun r hr => ?_⟩
  · have := h.best c
    rw [hx] at this
    have h1 := this.1
    have := tms_pos n
    omega
  · have h1 : x.1.cl = c := by have := h.best c; rw [hx] at this; exact this.2.2.2.1
    exact List.mem_map.2 ⟨x, p.mem_iff.2 ((h.ok.vals x).2 (by rw [h1]; exact hx)), rfl⟩
  · obtain ⟨x, hx, rfl⟩ := List.mem_map.1 hr
    exact h.left (by rw [← QS.s_ms]; exact p) hx
end Go.Proofs.Ytdoljkafkpgkbaa
