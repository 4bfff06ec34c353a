/- Plain laws of the queue: what it has once rumours have been added, in whatever order; its sorted list is one. -/
import Derived.Test.YtdoljkafkpgkbaaD1
import Derived.Test.YtdoljkafkpgkbaaM1
import Derived.Test.YtdoljkafkpgkbaaC7
set_option linter.unusedSimpArgs false
set_option linter.unusedVariables false
namespace Go.Proofs.Ytdoljkafkpgkbaa
open Go.RowKit Go.Shelf Go.Sort

/-- A queue in order. -/
structure QOk (s : QMs × Nat) : Prop where
  wf : MWf s
  bd : ∀ e ∈ s.1, Bd e.2.1
  len : s.1.length ≤ 32
  key : ∀ e ∈ s.1, e.1 = e.2.1.1.cl
theorem QOk.nil : QOk ([], 0) := ⟨.nil, by simp, by simp, by simp⟩
theorem tms_bd (n : Int) : 0 ≤ tms n ∧ tms n ≤ 1000 := by
  have hb : blen (min (max n 0) 1073741824 + 1).toNat ≤ 31 := blen_le 31 (by omega)
  unfold tms; omega
def qadd (n : Int) (s : QMs × Nat) (r : Rm) : QMs × Nat := if adde s.1 r = 0 then qput n r s else s
theorem addL_fold (n : Int) : ∀ (rs : List Rm) (es : List Int) (s : QMs × Nat), (rs.foldl (astep n) (es, s)).2 = rs.foldl (qadd n) s ∧ (rs.foldl (astep n) (es, s)).1.length = es.length + rs.length
  | [], _, _ => ⟨rfl, rfl⟩
  | r :: rs, es, s => by
    obtain ⟨h1, h2⟩ := addL_fold n rs (es ++ [adde s.1 r]) (qadd n s r)
    refine ⟨h1, ?_⟩
    simp only [List.foldl_cons, List.length_cons, List.length_append, List.length_nil] at h2 ⊢
    exact h2.trans (by omega)
theorem addL_2 (n : Int) (s : QMs × Nat) (rs : List Rm) : (addL n s rs).2 = rs.foldl (qadd n) s := (addL_fold n rs [] s).1
theorem addL_len (n : Int) (s : QMs × Nat) (rs : List Rm) : (addL n s rs).1.length = rs.length := by have := (addL_fold n rs [] s).2; simpa [addL] using this
theorem mset_mem' {κ α : Type} [DecidableEq κ] {k : κ} {a : α} : ∀ {ms : Ms κ α} {e : κ × α × Nat}, e ∈ mset k a ms → e ∈ ms ∨ (e.1 = k ∧ e.2.1 = a)
  | [], e, h => by cases h
  | x :: r, e, h => by
    by_cases hx : x.1 = k
    · simp only [mset, hx, if_true] at h
      rcases List.mem_cons.1 h with rfl | h
      · exact .inr ⟨rfl, rfl⟩
      · exact .inl (List.mem_cons_of_mem _ h)
    · simp only [mset, hx, if_false] at h
      rcases List.mem_cons.1 h with rfl | h
      · exact .inl List.mem_cons_self
      · rcases mset_mem' h with h | h
        · exact .inl (List.mem_cons_of_mem _ h)
        · exact .inr h
theorem QOk.set {s : QMs × Nat} (h : QOk s) {x : Rm × Int} (hb : Bd x) : QOk (mset x.1.cl x s.1, s.2) := by
  refine ⟨h.wf.set _ _, fun e he => ?_, by rw [mset_len]; exact h.len, fun e he => ?_⟩
  · rcases mset_mem' he with he | ⟨_, he⟩
    · exact h.bd e he
    · rw [he]; exact hb
  · rcases mset_mem' he with he | ⟨h1, h2⟩
    · exact h.key e he
    · rw [h1, h2]
theorem QOk.snoc {s : QMs × Nat} (h : QOk s) {x : Rm × Int} (hb : Bd x) (hn : mget x.1.cl s.1 = none) (hl : s.1.length < 32) : QOk (s.1 ++ [(x.1.cl, x, s.2)], s.2 + 1) := by
  refine ⟨h.wf.snoc hn, fun e he => ?_, by simp; omega, fun e he => ?_⟩
  all_goals rcases List.mem_append.1 he with he | he
  · exact h.bd e he
  · rw [List.mem_singleton.1 he]; exact hb
  · exact h.key e he
  · rw [List.mem_singleton.1 he]
theorem QOk.del {s : QMs × Nat} (h : QOk s) (c : Cl) : QOk (mdel c s.1, s.2) :=
  ⟨h.wf.del c, fun e he => h.bd e ((mdel_sub c s.1).subset he), Nat.le_trans (mdel_sub c s.1).length_le h.len, fun e he => h.key e ((mdel_sub c s.1).subset he)⟩
/-- What one addition does. -/
theorem qadd_get {s : QMs × Nat} (h : QOk s) (n : Int) (r : Rm) (c : Cl) (hroom : s.1.length < 32) :
    mget c (qadd n s r).1 = if r.chk = 0 ∧ r.cl = c ∧ (∀ x, mget c s.1 = some x → r.outw x.1 = true) then some (r, tms n) else mget c s.1 := by
  unfold qadd
  by_cases hk : r.chk = 0
  · cases hm : mget r.cl s.1 with
    | none =>
      have ha : adde s.1 r = 0 := by unfold adde; rw [if_neg (by simp [hk]), hm]; exact if_neg (by omega)
      rw [if_pos ha]
      simp only [qput, hm]
      rw [mget_snoc c hm]
      by_cases hc : r.cl = c
      · rw [if_pos hc, if_pos ⟨hk, hc, fun x hx => by rw [← hc, hm] at hx; cases hx⟩]
      · rw [if_neg hc, if_neg fun h => hc h.2.1]
    | some x =>
      by_cases ho : r.outw x.1 = true
      · have ha : adde s.1 r = 0 := by unfold adde; rw [if_neg (by simp [hk]), hm]; simp [ho]
        rw [if_pos ha]
        simp only [qput, hm]
        rw [mget_mset c hm]
        by_cases hc : r.cl = c
        · rw [if_pos hc, if_pos ⟨hk, hc, fun y hy => by rw [← hc, hm] at hy; cases hy; exact ho⟩]
        · rw [if_neg hc, if_neg fun h => hc h.2.1]
      · have ha : ¬ adde s.1 r = 0 := by unfold adde; rw [if_neg (by simp [hk]), hm]; simp [ho]
        rw [if_neg ha, if_neg]
        rintro ⟨_, rfl, h3⟩
        exact ho (h3 x hm)
  · have ha : ¬ adde s.1 r = 0 := by unfold adde; rw [if_pos hk]; exact hk
    rw [if_neg ha, if_neg fun h => hk h.1]
theorem QOk.add {s : QMs × Nat} (h : QOk s) (n : Int) (r : Rm) : QOk (qadd n s r) ∧ (qadd n s r).1.length ≤ s.1.length + 1 := by
  unfold qadd
  by_cases ha : adde s.1 r = 0
  · rw [if_pos ha]
    unfold qput
    cases hm : mget r.cl s.1 with
    | none =>
      simp only
      have hl : s.1.length < 32 := by
        unfold adde at ha
        have := h.len
        by_cases hk : r.chk = 0
        · rw [if_neg (by simp [hk]), hm] at ha
          simp only at ha
          by_cases h32 : s.1.length = 32
          · rw [if_pos h32] at ha; omega
          · omega
        · rw [if_pos hk] at ha; exact absurd ha hk
      exact ⟨h.snoc (x := (r, tms n)) (tms_bd n) hm hl, by simp⟩
    | some x =>
      simp only
      exact ⟨h.set (x := (r, tms n)) (tms_bd n), by rw [mset_len]; omega⟩
  · rw [if_neg ha]; exact ⟨h, by omega⟩
/-- Of the rumours xs, what is kept of claims c. -/
def Best (n : Int) (xs : List Rm) (c : Cl) : Option (Rm × Int) → Prop
  | none => ∀ r ∈ xs, r.chk = 0 → r.cl ≠ c
  | some x => x.2 = tms n ∧ x.1 ∈ xs ∧ x.1.chk = 0 ∧ x.1.cl = c ∧ ∀ r ∈ xs, r.chk = 0 → r.cl = c → r.outw x.1 = false
theorem outw_iff (a b : Rm) : a.outw b = true ↔ a.cl = b.cl ∧ (a.inc > b.inc ∨ a.inc = b.inc ∧ a.kind > b.kind) := by simp [Rm.outw]
theorem outw_false (a b : Rm) : a.outw b = false ↔ ¬ (a.cl = b.cl ∧ (a.inc > b.inc ∨ a.inc = b.inc ∧ a.kind > b.kind)) := by simp [Rm.outw]
theorem Rm.ext' {a b : Rm} (h1 : a.cl = b.cl) (h2 : a.inc = b.inc) (h3 : a.kind = b.kind) : a = b := by cases a; cases b; simp_all
theorem Best.one {n : Int} {xs ys : List Rm} {c : Cl} {a b : Option (Rm × Int)} (h1 : Best n xs c a) (h2 : Best n ys c b) (hm : ∀ r, r ∈ xs ↔ r ∈ ys) : a = b := by
  cases a with
  | none =>
    cases b with
    | none => rfl
    | some y => exact (h1 y.1 ((hm _).2 h2.2.1) h2.2.2.1 h2.2.2.2.1).elim
  | some x =>
    cases b with
    | none => exact (h2 x.1 ((hm _).1 h1.2.1) h1.2.2.1 h1.2.2.2.1).elim
    | some y =>
      obtain ⟨a1, a2, a3, a4, a5⟩ := h1
      obtain ⟨b1, b2, b3, b4, b5⟩ := h2
      have h3 := (outw_false _ _).1 (a5 y.1 ((hm _).2 b2) b3 b4)
      have h4 := (outw_false _ _).1 (b5 x.1 ((hm _).1 a2) a3 a4)
      have hc : x.1.cl = y.1.cl := a4.trans b4.symm
      have e : x.1 = y.1 := by
        apply Rm.ext' hc
        · have : ¬ y.1.inc > x.1.inc := fun h => h3 ⟨hc.symm, .inl h⟩
          have : ¬ x.1.inc > y.1.inc := fun h => h4 ⟨hc, .inl h⟩
          omega
        · have : ¬ y.1.inc > x.1.inc := fun h => h3 ⟨hc.symm, .inl h⟩
          have : ¬ x.1.inc > y.1.inc := fun h => h4 ⟨hc, .inl h⟩
          have : ¬ y.1.kind > x.1.kind := fun h => h3 ⟨hc.symm, .inr ⟨by omega, h⟩⟩
          have : ¬ x.1.kind > y.1.kind := fun h => h4 ⟨hc, .inr ⟨by omega, h⟩⟩
          omega
      have : x = y := Prod.ext e (a1.trans b1.symm)
      rw [this]
/-- A queue that has just the heaviest ones of xs. -/
structure IsB (n : Int) (xs : List Rm) (s : QMs × Nat) : Prop where
  ok : QOk s
  le : s.1.length ≤ xs.length
  best : ∀ c, Best n xs c (mget c s.1)
theorem IsB.nil (n : Int) : IsB n [] ([], 0) := ⟨.nil, by simp, fun c r hr => by cases hr⟩
theorem IsB.add {n : Int} {xs : List Rm} {s : QMs × Nat} (h : IsB n xs s) (hl : xs.length < 32) (r : Rm) : IsB n (xs ++ [r]) (qadd n s r) := by
  obtain ⟨h1, h2⟩ := h.ok.add n r
  refine ⟨h1, by have := h.le; simp; omega, fun c => ?_⟩
  rw [qadd_get h.ok n r c (by have := h.le; omega)]
  have hb := h.best c
  cases hm : mget c s.1 with
  | none =>
    rw [hm] at hb
    by_cases hc : r.chk = 0 ∧ r.cl = c
    · rw [if_pos ⟨hc.1, hc.2, by simp⟩]
      refine ⟨rfl, by simp, hc.1, hc.2, fun r' hr' h3 h4 => ?_⟩
      rcases List.mem_append.1 hr' with hr' | hr'
      · exact (hb r' hr' h3 h4).elim
      · rw [List.mem_singleton.1 hr', outw_false]; rintro ⟨_, h⟩; have h : r.inc > r.inc ∨ r.inc = r.inc ∧ r.kind > r.kind := h; omega
    · rw [if_neg fun h => hc ⟨h.1, h.2.1⟩]
      intro r' hr' h3 h4
      rcases List.mem_append.1 hr' with hr' | hr'
      · exact hb r' hr' h3 h4
      · rw [List.mem_singleton.1 hr'] at h3 h4; exact hc ⟨h3, h4⟩
  | some x =>
    rw [hm] at hb
    obtain ⟨b1, b2, b3, b4, b5⟩ := hb
    by_cases hc : r.chk = 0 ∧ r.cl = c ∧ r.outw x.1 = true
    · rw [if_pos ⟨hc.1, hc.2.1, fun y hy => by cases hy; exact hc.2.2⟩]
      refine ⟨rfl, by simp, hc.1, hc.2.1, fun r' hr' h3 h4 => ?_⟩
      rw [outw_false]
      rcases List.mem_append.1 hr' with hr' | hr'
      · have h5 := (outw_false _ _).1 (b5 r' hr' h3 h4)
        have h6 := (outw_iff _ _).1 hc.2.2
        rintro ⟨_, h7⟩
        apply h5
        refine ⟨h4.trans b4.symm, ?_⟩
        have h8 := h6.2
        have h7 : r'.inc > r.inc ∨ r'.inc = r.inc ∧ r'.kind > r.kind := h7
        omega
      · rw [List.mem_singleton.1 hr']; rintro ⟨_, h⟩; have h : r.inc > r.inc ∨ r.inc = r.inc ∧ r.kind > r.kind := h; omega
    · rw [if_neg fun h => hc ⟨h.1, h.2.1, h.2.2 x rfl⟩]
      refine ⟨b1, List.mem_append_left _ b2, b3, b4, fun r' hr' h3 h4 => ?_⟩
      rcases List.mem_append.1 hr' with hr' | hr'
      · exact b5 r' hr' h3 h4
      · rw [List.mem_singleton.1 hr'] at h3 h4 ⊢
        cases ho : r.outw x.1 with
        | false => rfl
        | true => exact (hc ⟨h3, h4, ho⟩).elim
theorem QOk.vals {s : QMs × Nat} (h : QOk s) (x : Rm × Int) : x ∈ s.1.map (·.2.1) ↔ mget x.1.cl s.1 = some x := by
  constructor
  · intro hx
    obtain ⟨e, he, rfl⟩ := List.mem_map.1 hx
    rw [← h.key e he]; exact mget_of_mem h.wf.keys he
  · intro hx
    obtain ⟨b, hb⟩ := mget_mem hx
    exact List.mem_map.2 ⟨_, hb, rfl⟩
theorem QOk.nd {s : QMs × Nat} (h : QOk s) : (s.1.map (·.2.1)).Nodup := by
  have h1 : ((s.1.map (·.2.1)).map (·.1.cl)) = mkeys s.1 := by
    rw [List.map_map]
    exact List.map_congr_left fun e he => (h.key e he).symm
  have h2 := h.wf.keys
  rw [← h1] at h2
  exact List.Pairwise.imp (fun hne e => hne (by rw [e])) (List.pairwise_map.1 h2)
theorem sorted_one {s s' : QMs × Nat} (h : QOk s) (h' : QOk s') (hg : ∀ c, mget c s.1 = mget c s'.1) {rs rs' : List (Rm × Int)} (p : rs.Perm (s.1.map (·.2.1))) (p' : rs'.Perm (s'.1.map (·.2.1))) (a : rs.Pairwise fun x y => ¬ cfA y x < 0) (a' : rs'.Pairwise fun x y => ¬ cfA y x < 0) : rs = rs' := by
  have pp : rs.Perm rs' := by
    refine (List.perm_ext_iff_of_nodup ((p.nodup_iff).2 h.nd) ((p'.nodup_iff).2 h'.nd)).2 fun x => ?_
    rw [p.mem_iff, p'.mem_iff, h.vals, h'.vals, hg]
  refine List.Perm.eq_of_pairwise (le := fun x y => ¬ cfA y x < 0) (fun x y hx hy h1 h2 => ?_) a a' pp
  rw [cfA_neg] at h1 h2
  have e := ltC_total h2 h1
  have e1 := (h.vals x).1 (p.mem_iff.1 hx)
  have e2 := (h'.vals y).1 (p'.mem_iff.1 hy)
  rw [← hg, ← e, e1] at e2
  exact Option.some.inj e2
theorem IsB.left {n : Int} {xs : List Rm} {st : QS} (h : IsB n xs st.s) {rs : List (Rm × Int)} (hp : rs.Perm (st.ms.map (·.2.1))) {x : Rm × Int} (hx : x ∈ rs) : lefte st.ms x.1.cl = tms n := by
  rw [← QS.s_ms] at hp ⊢
  have h1 := (h.ok.vals x).1 (hp.mem_iff.1 hx)
  have h2 := h.best x.1.cl
  rw [h1] at h2
  unfold lefte
  rw [h1]
  exact h2.1
end Go.Proofs.Ytdoljkafkpgkbaa
