/- Plain laws of the queue: the document's list of entries beside the queue's map. -/
import Derived.Test.YtdoljkafkpgkbaaD1
import Derived.Test.YtdoljkafkpgkbaaP3
import Derived.Test.YtdoljkafkpgkbaaP4
set_option linter.unusedSimpArgs false
set_option linter.unusedVariables false
namespace Go.Proofs.Ytdoljkafkpgkbaa
open Go.RowKit Go.Shelf Go.Sort

abbrev QE := Rm × Int
def fnd (c : Cl) (m : List QE) : Option Nat := m.findIdx? fun e => decide (e.1.cl = c)
def fndI (c : Cl) (m : List QE) : Int := match fnd c m with | some i => i | none => -1
theorem fnd_some {c : Cl} {m : List QE} {i : Nat} (h : fnd c m = some i) : ∃ e, m[i]? = some e ∧ e.1.cl = c := by
  obtain ⟨hi, h1, _⟩ := List.findIdx?_eq_some_iff_getElem.1 h
  exact ⟨_, List.getElem?_eq_getElem hi, by simpa using h1⟩
theorem fnd_none {c : Cl} {m : List QE} (h : fnd c m = none) : ∀ e ∈ m, e.1.cl ≠ c := by
  intro e he
  have := List.findIdx?_eq_none_iff.1 h e he
  simpa using this
theorem fnd_step {c : Cl} {m : List QE} {i : Nat} {e : QE} (h : ∀ j x, j < i → m[j]? = some x → x.1.cl ≠ c) (he : m[i]? = some e) (hc : e.1.cl = c) : fnd c m = some i := by
  obtain ⟨hi, rfl⟩ := List.getElem?_eq_some_iff.1 he
  refine List.findIdx?_eq_some_iff_getElem.2 ⟨hi, by simp [hc], fun j hj => ?_⟩
  have := h j _ hj (List.getElem?_eq_getElem (by omega))
  simpa using this
theorem fnd_end {c : Cl} {m : List QE} (h : ∀ j x, j < m.length → m[j]? = some x → x.1.cl ≠ c) : fnd c m = none := by
  refine List.findIdx?_eq_none_iff.2 fun e he => ?_
  obtain ⟨j, hj, rfl⟩ := List.getElem_of_mem he
  have := h j _ hj (List.getElem?_eq_getElem hj)
  simpa using this
/-- The document's list has what the queue's map has. -/
structure Sim (s : QMs × Nat) (m : List QE) : Prop where
  ok : QOk s
  pos : QPos s
  asc : m.Pairwise fun a b => ltC a.1.cl b.1.cl
  mem : ∀ x, x ∈ m ↔ mget x.1.cl s.1 = some x
theorem Sim.nil : Sim ([], 0) [] := ⟨.nil, (fun c x h => by cases h), .nil, (fun x => by simp [mget])⟩
theorem nd_idx {α : Type} {m : List α} (h : m.Nodup) {i j : Nat} (hi : i < m.length) (hj : j < m.length) (e : m[i] = m[j]) : i = j := by
  rcases Nat.lt_trichotomy i j with h1 | h1 | h1
  · exact absurd e (List.pairwise_iff_getElem.1 h i j hi hj h1)
  · exact h1
  · exact absurd e.symm (List.pairwise_iff_getElem.1 h j i hj hi h1)
theorem asc_nd {m : List QE} (h : m.Pairwise fun a b => ltC a.1.cl b.1.cl) : m.Nodup := by
  refine h.imp fun {a b} hab e => ?_
  subst e; unfold ltC at hab; omega
theorem Sim.perm {s : QMs × Nat} {m : List QE} (h : Sim s m) : m.Perm (s.1.map (·.2.1)) :=
  (List.perm_ext_iff_of_nodup (asc_nd h.asc) h.ok.nd).2 fun x => by rw [h.mem, h.ok.vals]
theorem Sim.len {s : QMs × Nat} {m : List QE} (h : Sim s m) : m.length = s.1.length := by rw [h.perm.length_eq, List.length_map]
theorem QOk.cl {s : QMs × Nat} (h : QOk s) {c : Cl} {x : QE} (hx : mget c s.1 = some x) : x.1.cl = c := by
  obtain ⟨b, hb⟩ := mget_mem hx
  exact (h.key _ hb).symm
theorem Sim.get_some {s : QMs × Nat} {m : List QE} (h : Sim s m) {c : Cl} {i : Nat} {e : QE} (hf : fnd c m = some i) (he : m[i]? = some e) : e.1.cl = c ∧ mget c s.1 = some e := by
  obtain ⟨e', h1, rfl⟩ := fnd_some hf
  rw [he] at h1; cases h1
  exact ⟨rfl, (h.mem _).1 (List.mem_of_getElem? he)⟩
theorem Sim.get_none {s : QMs × Nat} {m : List QE} (h : Sim s m) {c : Cl} (hf : fnd c m = none) : mget c s.1 = none := by
  cases hg : mget c s.1 with
  | none => rfl
  | some x =>
    have hc := h.ok.cl hg
    subst hc
    exact (fnd_none hf x ((h.mem x).2 hg) rfl).elim
theorem Sim.fnd_of {s : QMs × Nat} {m : List QE} (h : Sim s m) {c : Cl} : (fnd c m = none ∧ mget c s.1 = none) ∨ ∃ i e, fnd c m = some i ∧ m[i]? = some e ∧ e.1.cl = c ∧ mget c s.1 = some e := by
  cases hf : fnd c m with
  | none => exact .inl ⟨rfl, h.get_none hf⟩
  | some i =>
    obtain ⟨e, h1, h2⟩ := fnd_some hf
    exact .inr ⟨i, e, rfl, h1, h2, (h.get_some hf h1).2⟩
theorem tms_one (n : Int) : 1 ≤ tms n := by
  have hb : 0 < blen (min (max n 0) 1073741824 + 1).toNat := by
    rw [blen_half (by omega)]; omega
  unfold tms; omega
theorem QPos.add {n : Int} {s : QMs × Nat} (h : QOk s) (hp : QPos s) (r : Rm) : QPos (qadd n s r) := by
  intro c x hx
  unfold qadd qput at hx
  split at hx
  · cases hm : mget r.cl s.1 with
    | none =>
      rw [hm] at hx
      simp only at hx
      rw [mget_snoc c hm] at hx
      split at hx
      · cases hx; exact tms_one n
      · exact hp c x hx
    | some y =>
      rw [hm] at hx
      simp only at hx
      rw [mget_mset c hm] at hx
      split at hx
      · cases hx; exact tms_one n
      · exact hp c x hx
  · exact hp c x hx
theorem Sim.same {s : QMs × Nat} {m : List QE} (h : Sim s m) {n : Int} {r : Rm} (ha : adde s.1 r ≠ 0) : Sim (qadd n s r) m := by
  unfold qadd; rw [if_neg ha]; exact h
theorem Sim.addOld {s : QMs × Nat} {m : List QE} (h : Sim s m) {n : Int} {r : Rm} (ha : adde s.1 r = 0) {i : Nat} {e : QE} (he : m[i]? = some e) (hc : e.1.cl = r.cl) (hg : mget r.cl s.1 = some e) : Sim (qadd n s r) (m.set i (r, tms n)) := by
  obtain ⟨hi, hei⟩ := List.getElem?_eq_some_iff.1 he
  have hq : qadd n s r = (mset r.cl (r, tms n) s.1, s.2) := by unfold qadd qput; rw [if_pos ha, hg]
  refine ⟨(h.ok.add n r).1, h.pos.add h.ok r, ?_, fun x => ?_⟩
  · have hm : (m.set i (r, tms n)).map (·.1.cl) = m.map (·.1.cl) := by
      apply List.ext_getElem?
      intro k
      rw [List.getElem?_map, List.getElem?_map, List.getElem?_set]
      by_cases hk : i = k
      · subst hk; simp [hi, hei, hc]
      · simp [hk]
    have h1 := List.pairwise_map.2 h.asc
    rw [← hm] at h1
    exact List.pairwise_map.1 h1
  · rw [hq]
    simp only
    rw [mget_mset _ hg]
    have nd := asc_nd h.asc
    constructor
    · intro hx
      obtain ⟨k, hk, hkx⟩ := List.getElem_of_mem hx
      rw [List.getElem_set] at hkx
      by_cases hik : i = k
      · rw [if_pos hik] at hkx; subst hkx; simp
      · rw [if_neg hik] at hkx
        have hxm : x ∈ m := hkx ▸ List.getElem_mem _
        have hne : r.cl ≠ x.1.cl := by
          intro e1
          have hx2 := (h.mem x).1 hxm
          rw [← e1, hg] at hx2
          have hx3 : e = x := Option.some.inj hx2
          rw [List.length_set] at hk
          have := nd_idx nd hi hk (by rw [hei, hkx, hx3])
          exact hik this
        rw [if_neg hne]; exact (h.mem x).1 hxm
    · intro hx
      by_cases hr : r.cl = x.1.cl
      · rw [if_pos hr] at hx; cases hx
        exact List.mem_iff_getElem.2 ⟨i, by rw [List.length_set]; exact hi, by simp⟩
      · rw [if_neg hr] at hx
        obtain ⟨k, hk, hkx⟩ := List.getElem_of_mem ((h.mem x).2 hx)
        have hik : i ≠ k := by
          rintro rfl
          rw [hei] at hkx; subst hkx; exact hr hc.symm
        exact List.mem_iff_getElem.2 ⟨k, by rw [List.length_set]; exact hk, by rw [List.getElem_set, if_neg hik]; exact hkx⟩
theorem ins_mem (m : List QE) (i : Nat) (e z : QE) : z ∈ m.take i ++ [e] ++ m.drop i ↔ z ∈ m ∨ z = e := by
  have hs : z ∈ m.take i ++ m.drop i ↔ z ∈ m := by rw [List.take_append_drop]
  simp only [List.mem_append, List.mem_singleton] at hs ⊢
  rw [← hs]
  constructor
  · rintro ((a | b) | c)
    · exact .inl (.inl a)
    · exact .inr b
    · exact .inl (.inr c)
  · rintro ((a | c) | b)
    · exact .inl (.inl a)
    · exact .inr c
    · exact .inl (.inr b)
theorem Sim.addNew {s : QMs × Nat} {m : List QE} (h : Sim s m) {n : Int} {r : Rm} (ha : adde s.1 r = 0) (hg : mget r.cl s.1 = none) {i : Nat} (hi : i ≤ m.length) (h1 : ∀ j x, j < i → m[j]? = some x → ltC x.1.cl r.cl) (h2 : ∀ x, m[i]? = some x → ¬ ltC x.1.cl r.cl) :
    Sim (qadd n s r) (m.take i ++ [(r, tms n)] ++ m.drop i) := by
  have hq : qadd n s r = (s.1 ++ [(r.cl, (r, tms n), s.2)], s.2 + 1) := by unfold qadd qput; rw [if_pos ha, hg]
  have hsplit : m.take i ++ m.drop i = m := List.take_append_drop i m
  have hpw := h.asc
  rw [← hsplit, List.pairwise_append] at hpw
  obtain ⟨p1, p2, p3⟩ := hpw
  have hne : ∀ x ∈ m, x.1.cl ≠ r.cl := by
    intro x hx e
    have := (h.mem x).1 hx
    rw [e, hg] at this; cases this
  have hlow : ∀ x ∈ m.take i, ltC x.1.cl r.cl := by
    intro x hx
    obtain ⟨j, hj, rfl⟩ := List.getElem_of_mem hx
    rw [List.length_take] at hj
    exact h1 j _ (by omega) (by rw [List.getElem_take]; exact List.getElem?_eq_getElem (by omega))
  have hhigh : ∀ x ∈ m.drop i, ltC r.cl x.1.cl := by
    intro x hx
    have hnx : ¬ ltC x.1.cl r.cl := by
      intro hlt
      cases hd : m.drop i with
      | nil => rw [hd] at hx; cases hx
      | cons y l =>
        have hy : m[i]? = some y := by
          have : (m.drop i)[0]? = some y := by rw [hd]; rfl
          rwa [List.getElem?_drop, Nat.add_zero] at this
        have hny := h2 y hy
        rw [hd] at hx p2
        rcases List.mem_cons.1 hx with rfl | hx
        · exact hny hlt
        · have := (List.pairwise_cons.1 p2).1 x hx
          unfold ltC at *
          omega
    exact Classical.byContradiction fun hn => hne x (List.mem_of_mem_drop hx) (ltC_total hnx hn)
  refine ⟨(h.ok.add n r).1, h.pos.add h.ok r, ?_, fun x => ?_⟩
  · rw [List.append_assoc, List.pairwise_append]
    refine ⟨p1, ?_, ?_⟩
    · rw [List.singleton_append, List.pairwise_cons]
      exact ⟨hhigh, p2⟩
    · intro a ha' b hb
      rw [List.singleton_append] at hb
      rcases List.mem_cons.1 hb with rfl | hb
      · exact hlow a ha'
      · exact p3 a ha' b hb
  · rw [ins_mem, hq]
    simp only
    rw [mget_snoc _ hg]
    constructor
    · rintro (hx | rfl)
      · rw [if_neg fun e => hne x hx e.symm]; exact (h.mem x).1 hx
      · simp
    · intro hx
      by_cases hr : r.cl = x.1.cl
      · rw [if_pos hr] at hx; cases hx; exact .inr rfl
      · rw [if_neg hr] at hx; exact .inl ((h.mem x).2 hx)
/-- a stands before b, where those stand first that are told oftenest still. -/
def gtL (a b : QE) : Prop := b.2 < a.2 ∨ b.2 = a.2 ∧ ltC a.1.cl b.1.cl
theorem asc_gtL {s : QMs × Nat} (h : QOk s) {rs : List QE} (p : rs.Perm (s.1.map (·.2.1))) (a : rs.Pairwise fun x y => ¬ cfL y x < 0) : rs.Pairwise fun a b => ¬ gtL b a := by
  have hb : ∀ x ∈ rs, Bd x := by
    intro x hx
    obtain ⟨e, he, rfl⟩ := List.mem_map.1 (p.mem_iff.1 hx)
    exact h.bd e he
  refine List.Pairwise.imp_of_mem (fun {x y} hx hy hxy => ?_) a
  rw [cfL_neg (hb y hy) (hb x hx)] at hxy
  exact hxy
theorem Sim.sorted {s : QMs × Nat} {m : List QE} (h : Sim s m) {rs : List QE} (p : rs.Perm (s.1.map (·.2.1))) (a : rs.Pairwise fun x y => ¬ cfA y x < 0) : rs = m := by
  refine sorted_one h.ok h.ok (fun _ => rfl) p h.perm a ?_
  refine h.asc.imp fun {x y} hxy => ?_
  rw [cfA_neg]
  unfold ltC at *; omega
/-- The places ps are those of the first ones. -/
def Picks (m rs : List QE) (ps : List Nat) : Prop := ps.length ≤ rs.length ∧ ∀ (k j : Nat), ps[k]? = some j → j < m.length ∧ m[j]? = rs[k]?
theorem Picks.nil (m rs : List QE) : Picks m rs [] := ⟨Nat.zero_le _, fun k j h => by simp at h⟩
theorem nd_inj {m : List QE} (h : m.Nodup) {i j : Nat} {e : QE} (hi : m[i]? = some e) (hj : m[j]? = some e) : i = j := by
  obtain ⟨h1, e1⟩ := List.getElem?_eq_some_iff.1 hi
  obtain ⟨h2, e2⟩ := List.getElem?_eq_some_iff.1 hj
  exact nd_idx h h1 h2 (by rw [e1, e2])
theorem Picks.next {m rs : List QE} {ps : List Nat} (ha : m.Pairwise fun a b => ltC a.1.cl b.1.cl) (p : rs.Perm m) (hs : rs.Pairwise fun a b => ¬ gtL b a) (h : Picks m rs ps) (hl : ps.length < m.length)
    {j : Nat} {f : QE} (hj : m[j]? = some f) (hn : j ∉ ps) (hb : ∀ i e, m[i]? = some e → i ∉ ps → e.2 < f.2 ∨ e.2 = f.2 ∧ j ≤ i) : Picks m rs (ps ++ [j]) := by
  have nd := asc_nd ha
  have ndr := (p.nodup_iff).2 nd
  obtain ⟨h1, h2⟩ := h
  have hlr : rs.length = m.length := p.length_eq
  obtain ⟨hjl, _⟩ := List.getElem?_eq_some_iff.1 hj
  have hgo : m[j]? = rs[ps.length]? := by
    obtain ⟨e, he⟩ : ∃ e, rs[ps.length]? = some e := ⟨_, List.getElem?_eq_getElem (by omega)⟩
    obtain ⟨i0, hi0, hie⟩ := List.getElem_of_mem (p.mem_iff.1 (List.mem_of_getElem? he))
    have hi0' : m[i0]? = some e := by rw [List.getElem?_eq_getElem hi0, hie]
    have hni : i0 ∉ ps := by
      intro hm
      obtain ⟨k', hk', e'⟩ := List.getElem_of_mem hm
      have := (h2 k' i0 (by rw [← e']; exact List.getElem?_eq_getElem hk')).2
      rw [hi0'] at this
      have := nd_inj ndr this.symm he
      omega
    have hbe := hb i0 e hi0' hni
    obtain ⟨q, hq, hqf⟩ := List.getElem_of_mem (p.mem_iff.2 (List.mem_of_getElem? hj))
    have hq' : rs[q]? = some f := by rw [List.getElem?_eq_getElem hq, hqf]
    have hqk : ps.length ≤ q := by
      rcases Nat.lt_or_ge q ps.length with hlt | hge
      · exfalso
        have h3 := h2 q ps[q] (List.getElem?_eq_getElem hlt)
        rw [hq'] at h3
        have := nd_inj nd h3.2 hj
        exact hn (this ▸ List.getElem_mem _)
      · exact hge
    rcases Nat.lt_or_ge ps.length q with hlt | hge
    · exfalso
      have h3 := List.pairwise_iff_getElem.1 hs ps.length q (by omega) hq hlt
      rw [hqf] at h3
      obtain ⟨hk, hke⟩ := List.getElem?_eq_some_iff.1 he
      rw [hke] at h3
      unfold gtL at h3
      have h4 : ¬ e.2 < f.2 := fun h => h3 (.inl h)
      have h5 : e.2 = f.2 ∧ j ≤ i0 := hbe.resolve_left h4
      rcases Nat.lt_or_ge j i0 with h6 | h6
      · obtain ⟨_, hjf⟩ := List.getElem?_eq_some_iff.1 hj
        have h7 := List.pairwise_iff_getElem.1 ha j i0 hjl hi0 h6
        rw [hjf, hie] at h7
        exact h3 (.inr ⟨h5.1, h7⟩)
      · have : j = i0 := by omega
        subst this
        rw [hj] at hi0'; cases hi0'
        have := nd_inj ndr he hq'
        omega
    · have : q = ps.length := by omega
      rw [hj, ← hq', this]
  refine ⟨by rw [List.length_append]; simp; omega, fun k i hk => ?_⟩
  rcases Nat.lt_or_ge k ps.length with hlt | hge
  · rw [List.getElem?_append_left hlt] at hk; exact h2 k i hk
  · rw [List.getElem?_append_right hge] at hk
    have hk0 : k - ps.length = 0 := by
      rcases Nat.eq_zero_or_pos (k - ps.length) with h | h
      · exact h
      · rw [List.getElem?_eq_none (by simp; omega)] at hk; cases hk
    rw [hk0] at hk
    simp only [List.getElem?_cons_zero, Option.some.injEq] at hk
    subst hk
    have : k = ps.length := by omega
    subst this
    exact ⟨hjl, hgo⟩
theorem Picks.nodup {m rs : List QE} {ps : List Nat} (h : Picks m rs ps) (ndr : rs.Nodup) : ps.Nodup := by
  refine List.pairwise_iff_getElem.2 fun a b ha hb hab e => ?_
  have h1 := (h.2 a _ (List.getElem?_eq_getElem ha))
  have h2 := (h.2 b _ (List.getElem?_eq_getElem hb))
  rw [← e] at h2
  obtain ⟨x, hx⟩ : ∃ x, m[ps[a]]? = some x := ⟨_, List.getElem?_eq_getElem h1.1⟩
  rw [hx] at h1 h2
  have := nd_inj ndr h1.2.symm h2.2.symm
  omega
/-- The document's list once those at places qs have been told. -/
def decL (m : List QE) (qs : List Nat) : List QE := m.mapIdx fun i e => if i ∈ qs then (e.1, e.2 - 1) else e
theorem decL_nil (m : List QE) : decL m [] = m := by
  apply List.ext_getElem?
  intro i
  simp [decL]
theorem decL_len (m : List QE) (qs : List Nat) : (decL m qs).length = m.length := by simp [decL]
theorem decL_get {m : List QE} {qs : List Nat} {i : Nat} {e : QE} (h : m[i]? = some e) : (decL m qs)[i]? = some (if i ∈ qs then (e.1, e.2 - 1) else e) := by
  simp [decL, h]
theorem decL_snoc {m : List QE} {qs : List Nat} {j : Nat} {e : QE} (h : m[j]? = some e) (hn : j ∉ qs) : (decL m qs).set j (e.1, e.2 - 1) = decL m (qs ++ [j]) := by
  apply List.ext_getElem?
  intro i
  obtain ⟨hj, hje⟩ := List.getElem?_eq_some_iff.1 h
  rw [List.getElem?_set, decL_len]
  by_cases hij : j = i
  · subst hij
    rw [if_pos rfl, if_pos hj, decL_get h]
    simp
  · rw [if_neg hij]
    cases hm : m[i]? with
    | none =>
      have := List.getElem?_eq_none_iff.1 hm
      rw [List.getElem?_eq_none (by rw [decL_len]; exact this), List.getElem?_eq_none (by rw [decL_len]; exact this)]
    | some x =>
      rw [decL_get hm, decL_get hm]
      have : i ∈ qs ++ [j] ↔ i ∈ qs := by simp; omega
      simp only [this]
def keepL (m : List QE) : List QE := m.filter fun e => decide (0 < e.2)
theorem Sim.take {s : QMs × Nat} {m : List QE} (h : Sim s m) {rs : List QE} (p : rs.Perm (s.1.map (·.2.1))) {ps : List Nat} (hp : Picks m rs ps) : Sim (takeL s (rs.take ps.length)) (keepL (decL m ps)) := by
  obtain ⟨h1, h2, h3, _⟩ := takeL_at h.ok h.pos p ps.length
  have nd := asc_nd h.asc
  have hpm : rs.Perm m := p.trans h.perm.symm
  have hdis := rs_distinct h.ok p
  have hin : ∀ i e, m[i]? = some e → (i ∈ ps ↔ e ∈ rs.take ps.length) := by
    intro i e he
    constructor
    · intro hi
      obtain ⟨k, hk, rfl⟩ := List.getElem_of_mem hi
      have h4 := (hp.2 k _ (List.getElem?_eq_getElem hk)).2
      rw [he] at h4
      exact List.mem_of_getElem? (i := k) (by rw [List.getElem?_take, if_pos hk]; exact h4.symm)
    · intro hi
      obtain ⟨k, hk, e1⟩ := List.getElem_of_mem hi
      rw [List.length_take] at hk
      rw [List.getElem_take] at e1
      have h4 := hp.2 k ps[k] (List.getElem?_eq_getElem (by omega))
      rw [List.getElem?_eq_getElem (by omega : k < rs.length), e1] at h4
      have := nd_inj nd h4.2 he
      exact this ▸ List.getElem_mem _
  have hhas : ∀ e, e ∈ m → hasC (rs.take ps.length) e.1.cl = if e ∈ rs.take ps.length then some e else none := by
    intro e he
    by_cases hi : e ∈ rs.take ps.length
    · rw [if_pos hi]
      cases hh : hasC (rs.take ps.length) e.1.cl with
      | none =>
        have := List.find?_eq_none.1 hh e hi
        simp at this
      | some y =>
        have hy := List.mem_of_find?_eq_some hh
        have hc : y.1.cl = e.1.cl := by simpa using List.find?_some hh
        have g1 := rs_get h.ok p ((List.take_sublist _ _).subset hy)
        rw [hc, (h.mem e).1 he] at g1
        exact g1.symm
    · rw [if_neg hi]
      refine List.find?_eq_none.2 fun y hy => ?_
      simp only [decide_eq_true_eq]
      intro hc
      have g1 := rs_get h.ok p ((List.take_sublist _ _).subset hy)
      rw [hc, (h.mem e).1 he] at g1
      cases g1
      exact hi hy
  refine ⟨h1, h2, ?_, fun x => ?_⟩
  · have hm : (decL m ps).map (·.1.cl) = m.map (·.1.cl) := by
      apply List.ext_getElem?
      intro k
      rw [List.getElem?_map, List.getElem?_map]
      cases hk : m[k]? with
      | none => 
        have := List.getElem?_eq_none_iff.1 hk
        rw [List.getElem?_eq_none (by rw [decL_len]; exact this)]
      | some e =>
        rw [decL_get hk]
        simp only [Option.map_some, Option.some.injEq]
        split <;> rfl
    have h5 := List.pairwise_map.2 h.asc
    rw [← hm] at h5
    exact (List.pairwise_map.1 h5).sublist List.filter_sublist
  · unfold keepL
    rw [List.mem_filter, decide_eq_true_eq, h3]
    constructor
    · rintro ⟨hx, hpos⟩
      obtain ⟨i, hi, hix⟩ := List.getElem_of_mem hx
      rw [decL_len] at hi
      have he := List.getElem?_eq_getElem hi
      generalize m[i] = e at he
      have h6 := decL_get (qs := ps) he
      rw [List.getElem?_eq_getElem (by rw [decL_len]; exact hi), hix] at h6
      have h7 := Option.some.inj h6
      have hem := List.mem_of_getElem? he
      by_cases hip : i ∈ ps
      · rw [if_pos hip] at h7
        subst h7
        simp only
        rw [hhas e hem, if_pos ((hin i e he).1 hip)]
        simp only [less1] at hpos ⊢
        rw [if_neg (by omega)]
      · rw [if_neg hip] at h7
        subst h7
        rw [hhas x hem, if_neg fun h => hip ((hin i x he).2 h)]
        exact (h.mem x).1 hem
    · intro hx
      cases hh : hasC (rs.take ps.length) x.1.cl with
      | none =>
        rw [hh] at hx
        simp only at hx
        have hxm := (h.mem x).2 hx
        obtain ⟨i, hi, hix⟩ := List.getElem_of_mem hxm
        have he : m[i]? = some x := by rw [List.getElem?_eq_getElem hi, hix]
        have hnp : i ∉ ps := by
          intro hip
          have := List.find?_eq_none.1 hh x ((hin i x he).1 hip)
          simp at this
        refine ⟨List.mem_of_getElem? (i := i) (by rw [decL_get he, if_neg hnp]), ?_⟩
        have := h.pos _ _ hx
        omega
      | some e =>
        rw [hh] at hx
        simp only [less1] at hx
        have hy := List.mem_of_find?_eq_some hh
        split at hx
        · cases hx
        · cases hx
          have hem : e ∈ m := hpm.mem_iff.1 ((List.take_sublist _ _).subset hy)
          obtain ⟨i, hi, hix⟩ := List.getElem_of_mem hem
          have he : m[i]? = some e := by rw [List.getElem?_eq_getElem hi, hix]
          have := h.pos _ _ ((h.mem e).1 hem)
          refine ⟨List.mem_of_getElem? (i := i) (by rw [decL_get he, if_pos ((hin i e he).2 hy)]), ?_⟩
          simp only
          omega
theorem QOk.mdel_get {s : QMs × Nat} (h : QOk s) (c d : Cl) : mget d (mdel c s.1) = if c = d then none else mget d s.1 := mget_mdel d h.wf.keys
theorem Sim.dropNone {s : QMs × Nat} {m : List QE} (h : Sim s m) {c : Cl} (hg : mget c s.1 = none) : Sim (mdel c s.1, s.2) m := by
  refine ⟨h.ok.del c, fun d x hx => ?_, h.asc, fun x => ?_⟩
  · rw [h.ok.mdel_get] at hx
    split at hx
    · cases hx
    · exact h.pos d x hx
  · simp only
    rw [h.mem, h.ok.mdel_get]
    by_cases hc : c = x.1.cl
    · rw [if_pos hc, ← hc, hg]
    · rw [if_neg hc]
theorem Sim.dropSome {s : QMs × Nat} {m : List QE} (h : Sim s m) {c : Cl} {i : Nat} {e : QE} (he : m[i]? = some e) (hc : e.1.cl = c) : Sim (mdel c s.1, s.2) (m.take i ++ m.drop (i + 1)) := by
  obtain ⟨hi, hei⟩ := List.getElem?_eq_some_iff.1 he
  have hs : m = m.take i ++ e :: m.drop (i + 1) := by
    conv => lhs; rw [← List.take_append_drop i m, List.drop_eq_getElem_cons hi, hei]
  have nd := asc_nd h.asc
  have hsub : (m.take i ++ m.drop (i + 1)).Sublist m := by
    conv => rhs; rw [hs]
    exact (List.Sublist.refl _).append (List.sublist_cons_self _ _)
  refine ⟨h.ok.del c, fun d x hx => ?_, h.asc.sublist hsub, fun x => ?_⟩
  · rw [h.ok.mdel_get] at hx
    split at hx
    · cases hx
    · exact h.pos d x hx
  · simp only
    rw [h.ok.mdel_get]
    have hxm : x ∈ m ↔ x ∈ m.take i ++ m.drop (i + 1) ∨ x = e := by
      conv => lhs; rw [hs]
      simp only [List.mem_append, List.mem_cons]
      constructor
      · rintro (a | a | a)
        · exact .inl (.inl a)
        · exact .inr a
        · exact .inl (.inr a)
      · rintro ((a | a) | a)
        · exact .inl a
        · exact .inr (.inr a)
        · exact .inr (.inl a)
    have hne : e ∉ m.take i ++ m.drop (i + 1) := by
      rw [hs] at nd
      have := (List.perm_middle.nodup_iff).1 nd
      exact (List.nodup_cons.1 this).1
    by_cases hcx : c = x.1.cl
    · rw [if_pos hcx]
      simp only [reduceCtorEq, iff_false]
      intro hx
      have h1 := (h.mem x).1 (hxm.2 (.inl hx))
      have h2 := (h.mem e).1 (List.mem_of_getElem? he)
      rw [hc, hcx, h1] at h2
      cases h2
      exact hne hx
    · rw [if_neg hcx, ← h.mem, hxm]
      constructor
      · exact .inl
      · rintro (h | h)
        · exact h
        · subst h; exact (hcx hc.symm).elim
theorem addL_acc (n : Int) : ∀ (rs : List Rm) (es : List Int) (s : QMs × Nat), (rs.foldl (astep n) (es, s)).1 = es ++ (rs.foldl (astep n) ([], s)).1
  | [], es, s => by simp
  | r :: rs, es, s => by
    simp only [List.foldl_cons, astep]
    rw [addL_acc n rs (es ++ _), addL_acc n rs ([] ++ _)]
    simp
theorem addL_err {n : Int} {s : QMs × Nat} {rs : List Rm} {k : Nat} {r : Rm} (h : rs[k]? = some r) : (addL n s rs).1[k]? = some (adde (addL n s (rs.take k)).2.1 r) := by
  obtain ⟨hk, rfl⟩ := List.getElem?_eq_some_iff.1 h
  have h1 : rs = rs.take (k + 1) ++ rs.drop (k + 1) := (List.take_append_drop _ _).symm
  have h2 : (addL n s rs).1 = (addL n s (rs.take (k + 1))).1 ++ ((rs.drop (k + 1)).foldl (astep n) ([], (addL n s (rs.take (k + 1))).2)).1 := by
    conv => lhs; rw [h1]
    unfold addL
    rw [List.foldl_append]
    exact addL_acc n _ _ _
  rw [h2, addL_snoc h]
  have hl := addL_len n s (rs.take k)
  rw [List.length_take] at hl
  simp only [astep]
  rw [List.append_assoc, List.getElem?_append_right (by omega), show k - (addL n s (rs.take k)).1.length = 0 by omega]
  rfl
end Go.Proofs.Ytdoljkafkpgkbaa
/- Plain laws of the queue: what is kept, what is dropped. -/
set_option linter.unusedSimpArgs false
set_option linter.unusedVariables false
namespace Go.Proofs.Ytdoljkafkpgkbaa
open Go.RowKit Go.Shelf Go.Sort

theorem mdel_len {κ α : Type} [DecidableEq κ] (k : κ) : ∀ (ms : Ms κ α), (mdel k ms).length + (if mget k ms = none then 0 else 1) = ms.length
  | [] => rfl
  | x :: r => by
    have := mdel_len k r
    by_cases hx : x.1 = k
    · simp only [mdel, mget, if_pos hx, reduceCtorEq, if_false, List.length_cons]
    · simp only [mdel, mget, if_neg hx, List.length_cons]; omega
theorem mdel_twice {s : QMs × Nat} (h : QOk s) (c : Cl) : mdel c (mdel c s.1) = mdel c s.1 := by
  refine mdel_none c _ ?_
  rw [h.mdel_get, if_pos rfl]
theorem keepL_snoc {m : List QE} {i : Nat} {e : QE} (h : m[i]? = some e) : keepL (m.take (i + 1)) = keepL (m.take i) ++ (if 0 < e.2 then [e] else []) := by
  unfold keepL
  rw [List.take_add_one, h, List.filter_append]
  by_cases hp : 0 < e.2 <;> simp [hp]
theorem decL_at {m : List QE} {qs : List Nat} {i : Nat} {e : QE} (h : m[i]? = some e) (hn : i ∉ qs) : (decL m qs)[i]? = some e := by
  rw [decL_get h, if_neg hn]
theorem addL_next {n : Int} {s : QMs × Nat} {rs : List Rm} {k : Nat} {r : Rm} (h : rs[k]? = some r) : (addL n s (rs.take (k + 1))).2 = qadd n (addL n s (rs.take k)).2 r := by
  rw [addL_2, addL_2, List.take_add_one, h, List.foldl_append]; rfl
theorem take_nd {ps : List Nat} (h : ps.Nodup) {i j : Nat} (hj : ps[i]? = some j) : j ∉ ps.take i := by
  intro hm
  obtain ⟨k, hk, e⟩ := List.getElem_of_mem hm
  rw [List.length_take] at hk
  rw [List.getElem_take] at e
  obtain ⟨hi, hie⟩ := List.getElem?_eq_some_iff.1 hj
  have := List.pairwise_iff_getElem.1 h k i (by omega) hi (by omega)
  rw [hie, e] at this
  exact this rfl
theorem Picks.all (m : List QE) : Picks m m (List.range m.length) := by
  refine ⟨by rw [List.length_range]; omega, fun k j h => ?_⟩
  obtain ⟨hk, e⟩ := List.getElem?_eq_some_iff.1 h
  rw [List.getElem_range] at e
  rw [List.length_range] at hk
  subst e; exact ⟨hk, rfl⟩
end Go.Proofs.Ytdoljkafkpgkbaa
