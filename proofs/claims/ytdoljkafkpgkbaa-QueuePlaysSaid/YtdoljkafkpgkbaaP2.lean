/- Plain laws of the members' rumours: those that count, in the order of their claims. -/
import Derived.Test.YtdoljkafkpgkbaaP1
import Derived.Test.YtdoljkafkpgkbaaC14
set_option linter.unusedSimpArgs false
set_option linter.unusedVariables false
namespace Go.Proofs.Ytdoljkafkpgkbaa
open Go.RowKit Go.Shelf Go.Sort

instance : Inhabited Rm := ⟨⟨0, ⟨0, 0, 0, 0⟩, 0⟩⟩
structure ROk (s : RMs × Nat) : Prop where
  wf : MWf s
  key : ∀ e ∈ s.1, e.1 = e.2.1.cl
/-- z is one of rs, and none of rs outweighs it. -/
def Heavy (rs : List Rm) (z : Rm) : Prop := z ∈ rs ∧ ∀ r ∈ rs, r.outw z = false
def HeavyO (rs : List Rm) (c : Cl) : Option Rm → Prop
  | none => ∀ r ∈ rs, r.cl ≠ c
  | some z => z.cl = c ∧ Heavy rs z
theorem outw_trans {a b c : Rm} (h1 : a.outw b = false) (h2 : b.outw c = false) (hc : a.cl = b.cl) (hd : b.cl = c.cl) : a.outw c = false := by
  rw [outw_false] at *
  rintro ⟨h3, h4⟩
  have e1 : ¬ (a.inc > b.inc ∨ a.inc = b.inc ∧ a.kind > b.kind) := fun h => h1 ⟨hc, h⟩
  have e2 : ¬ (b.inc > c.inc ∨ b.inc = c.inc ∧ b.kind > c.kind) := fun h => h2 ⟨hd, h⟩
  omega
theorem outw_cl {a b : Rm} (h : a.cl ≠ b.cl) : a.outw b = false := by rw [outw_false]; exact fun h' => h h'.1
theorem outw_self (a : Rm) : a.outw a = false := by rw [outw_false]; rintro ⟨_, h⟩; omega
theorem outw_asym {a b : Rm} (h : a.outw b = true) : b.outw a = false := by
  rw [outw_iff] at h
  rw [outw_false]
  obtain ⟨h1, h2⟩ := h
  rintro ⟨_, h3⟩
  omega
theorem outw_anti {a b : Rm} (h1 : a.outw b = false) (h2 : b.outw a = false) (hc : a.cl = b.cl) : a = b := by
  rw [outw_false] at h1 h2
  have e1 : ¬ (a.inc > b.inc ∨ a.inc = b.inc ∧ a.kind > b.kind) := fun h => h1 ⟨hc, h⟩
  have e2 : ¬ (b.inc > a.inc ∨ b.inc = a.inc ∧ b.kind > a.kind) := fun h => h2 ⟨hc.symm, h⟩
  exact Rm.ext' hc (by omega) (by omega)
theorem Heavy.inj {rs : List Rm} {a b : Rm} (h1 : Heavy rs a) (h2 : Heavy rs b) (hc : a.cl = b.cl) : a = b := outw_anti (h2.2 a h1.1) (h1.2 b h2.1) hc
theorem cput_ok {s : RMs × Nat} {rs : List Rm} (h : ROk s) (hl : s.1.length ≤ rs.length) (hh : ∀ c, HeavyO rs c (mget c s.1)) (r : Rm) :
    ROk (cput s r) ∧ (cput s r).1.length ≤ rs.length + 1 ∧ ∀ c, HeavyO (rs ++ [r]) c (mget c (cput s r).1) := by
  unfold cput
  have hself := outw_self
  cases hm : mget r.cl s.1 with
  | none =>
    simp only
    refine ⟨⟨h.wf.snoc hm, fun e he => ?_⟩, by simp; omega, fun c => ?_⟩
    · rcases List.mem_append.1 he with he | he
      · exact h.key e he
      · rw [List.mem_singleton.1 he]
    · rw [mget_snoc c hm]
      by_cases hc : r.cl = c
      · rw [if_pos hc]
        refine ⟨hc, by simp, fun r' hr' => ?_⟩
        rcases List.mem_append.1 hr' with hr' | hr'
        · have := hh r.cl
          rw [hm] at this
          exact outw_cl (this r' hr')
        · rw [List.mem_singleton.1 hr']; exact hself r
      · rw [if_neg hc]
        have := hh c
        cases hg : mget c s.1 with
        | none =>
          rw [hg] at this
          intro r' hr'
          rcases List.mem_append.1 hr' with hr' | hr'
          · exact this r' hr'
          · rw [List.mem_singleton.1 hr']; exact hc
        | some z =>
          rw [hg] at this
          refine ⟨this.1, List.mem_append_left _ this.2.1, fun r' hr' => ?_⟩
          rcases List.mem_append.1 hr' with hr' | hr'
          · exact this.2.2 r' hr'
          · rw [List.mem_singleton.1 hr']; exact outw_cl (by rw [this.1]; exact hc)
  | some x =>
    have hx := hh r.cl
    rw [hm] at hx
    simp only
    by_cases ho : r.outw x = true
    · rw [if_pos ho]
      refine ⟨⟨h.wf.set _ _, fun e he => ?_⟩, by rw [mset_len]; omega, fun c => ?_⟩
      · rcases mset_mem' he with he | ⟨h1, h2⟩
        · exact h.key e he
        · rw [h1, h2]
      · rw [mget_mset c hm]
        by_cases hc : r.cl = c
        · rw [if_pos hc]
          refine ⟨hc, by simp, fun r' hr' => ?_⟩
          rcases List.mem_append.1 hr' with hr' | hr'
          · by_cases hcl : r'.cl = r.cl
            · exact outw_trans (hx.2.2 r' hr') (outw_asym ho) (hcl.trans hx.1.symm) hx.1
            · exact outw_cl hcl
          · rw [List.mem_singleton.1 hr']; exact hself r
        · rw [if_neg hc]
          have := hh c
          cases hg : mget c s.1 with
          | none =>
            rw [hg] at this
            intro r' hr'
            rcases List.mem_append.1 hr' with hr' | hr'
            · exact this r' hr'
            · rw [List.mem_singleton.1 hr']; exact hc
          | some z =>
            rw [hg] at this
            refine ⟨this.1, List.mem_append_left _ this.2.1, fun r' hr' => ?_⟩
            rcases List.mem_append.1 hr' with hr' | hr'
            · exact this.2.2 r' hr'
            · rw [List.mem_singleton.1 hr']; exact outw_cl (by rw [this.1]; exact hc)
    · have ho' : r.outw x = false := by simpa using ho
      rw [if_neg ho]
      refine ⟨h, by omega, fun c => ?_⟩
      have := hh c
      cases hg : mget c s.1 with
      | none =>
        rw [hg] at this
        intro r' hr'
        rcases List.mem_append.1 hr' with hr' | hr'
        · exact this r' hr'
        · rw [List.mem_singleton.1 hr']; rintro rfl; rw [hm] at hg; cases hg
      | some z =>
        rw [hg] at this
        refine ⟨this.1, List.mem_append_left _ this.2.1, fun r' hr' => ?_⟩
        rcases List.mem_append.1 hr' with hr' | hr'
        · exact this.2.2 r' hr'
        · rw [List.mem_singleton.1 hr']
          by_cases hc : r.cl = c
          · rw [hc, hg] at hm; cases hm; exact ho'
          · exact outw_cl (by rw [this.1]; exact hc)
theorem cnt_ok' (rs pre : List Rm) (s : RMs × Nat) (h : ROk s) (hl : s.1.length ≤ pre.length) (hh : ∀ c, HeavyO pre c (mget c s.1)) :
    ROk (rs.foldl cput s) ∧ (rs.foldl cput s).1.length ≤ (pre ++ rs).length ∧ ∀ c, HeavyO (pre ++ rs) c (mget c (rs.foldl cput s).1) := by
  induction rs generalizing pre s with
  | nil => simpa using ⟨h, hl, hh⟩
  | cons r rs ih =>
    obtain ⟨h1, h2, h3⟩ := cput_ok h hl hh r
    have := ih (pre ++ [r]) (cput s r) h1 (by simpa using h2) h3
    simpa using this
theorem cnt_ok (rs : List Rm) : ROk (cnt rs) ∧ (cnt rs).1.length ≤ rs.length ∧ ∀ c, HeavyO rs c (mget c (cnt rs).1) := by
  have := cnt_ok' rs [] ([], 0) ⟨.nil, by simp⟩ (by simp) (fun c r hr => by cases hr)
  simpa [cnt] using this
theorem cnt_get {rs : List Rm} {c : Cl} {z : Rm} : mget c (cnt rs).1 = some z ↔ z.cl = c ∧ Heavy rs z := by
  have h := (cnt_ok rs).2.2 c
  constructor
  · intro e; rw [e] at h; exact h
  · rintro ⟨h1, h2⟩
    cases hg : mget c (cnt rs).1 with
    | none => rw [hg] at h; exact (h z h2.1 h1).elim
    | some y =>
      rw [hg] at h
      rw [h.2.inj h2 (h.1.trans h1.symm)]
theorem ROk.vals {s : RMs × Nat} (h : ROk s) (x : Rm) : x ∈ s.1.map (·.2.1) ↔ mget x.cl s.1 = some x := by
  constructor
  · intro hx
    obtain ⟨e, he, rfl⟩ := List.mem_map.1 hx
    rw [← h.key e he]; exact mget_of_mem h.wf.keys he
  · intro hx
    obtain ⟨b, hb⟩ := mget_mem hx
    exact List.mem_map.2 ⟨_, hb, rfl⟩
theorem ROk.nd {s : RMs × Nat} (h : ROk s) : (s.1.map (·.2.1)).Nodup := by
  have h1 : ((s.1.map (·.2.1)).map (·.cl)) = mkeys s.1 := by
    rw [List.map_map]
    exact List.map_congr_left fun e he => (h.key e he).symm
  have h2 := h.wf.keys
  rw [← h1] at h2
  exact List.Pairwise.imp (fun hne e => hne (by rw [e])) (List.pairwise_map.1 h2)
/-- Those that count, by claims. -/
structure IsCnt (rs cs : List Rm) : Prop where
  mem : ∀ z, z ∈ cs ↔ Heavy rs z
  nd : cs.Nodup
  asc : cs.Pairwise fun a b => ¬ cmpCl b.cl a.cl < 0
theorem IsCnt.of {rs cs : List Rm} (p : cs.Perm ((cnt rs).1.map (·.2.1))) (a : cs.Pairwise fun a b => ¬ cmpCl b.cl a.cl < 0) : IsCnt rs cs := by
  have h := (cnt_ok rs).1
  refine ⟨fun z => ?_, (p.nodup_iff).2 h.nd, a⟩
  rw [p.mem_iff, h.vals, cnt_get]
  simp
theorem IsCnt.one {rs rs' cs cs' : List Rm} (h : IsCnt rs cs) (h' : IsCnt rs' cs') (hh : ∀ z, Heavy rs z ↔ Heavy rs' z) : cs = cs' := by
  have pp : cs.Perm cs' := (List.perm_ext_iff_of_nodup h.nd h'.nd).2 fun x => by rw [h.mem, h'.mem, hh]
  refine List.Perm.eq_of_pairwise (le := fun x y => ¬ cmpCl y.cl x.cl < 0) (fun x y hx hy h1 h2 => ?_) h.asc h'.asc pp
  rw [cmpCl_neg] at h1 h2
  exact ((h.mem x).1 hx).inj ((hh y).2 ((h'.mem y).1 hy)) (ltC_total h2 h1)
def leCl (a b : Rm) : Bool := decide (¬ cmpCl b.cl a.cl < 0)
def cntL (rs : List Rm) : List Rm := ((cnt rs).1.map (·.2.1)).mergeSort leCl
theorem cntL_is (rs : List Rm) : IsCnt rs (cntL rs) := by
  refine IsCnt.of (List.mergeSort_perm _ _) ?_
  have := List.pairwise_mergeSort (le := leCl) (fun a b c h1 h2 => ?_) (fun a b => ?_) ((cnt rs).1.map (·.2.1))
  · exact this.imp fun h => by simpa [leCl] using h
  · simp only [leCl, decide_eq_true_eq, cmpCl_neg, ltC] at *
    omega
  · simp only [leCl, Bool.or_eq_true, decide_eq_true_eq, cmpCl_neg, ltC]
    omega
theorem IsCnt.eq {rs cs : List Rm} (h : IsCnt rs cs) : cs = cntL rs := h.one (cntL_is rs) fun _ => Iff.rfl
theorem cntL_congr {rs rs' : List Rm} (hh : ∀ z, Heavy rs z ↔ Heavy rs' z) : cntL rs = cntL rs' := (cntL_is rs).one (cntL_is rs') hh
theorem Heavy.congr {rs rs' : List Rm} (h : ∀ r, r ∈ rs ↔ r ∈ rs') (z : Rm) : Heavy rs z ↔ Heavy rs' z := by
  unfold Heavy; rw [h]; exact ⟨fun ⟨a, b⟩ => ⟨a, fun r hr => b r ((h r).2 hr)⟩, fun ⟨a, b⟩ => ⟨a, fun r hr => b r ((h r).1 hr)⟩⟩
theorem heavy_ex {rs : List Rm} {r : Rm} (h : r ∈ rs) : ∃ z, z.cl = r.cl ∧ Heavy rs z := by
  have h1 := (cnt_ok rs).2.2 r.cl
  cases hg : mget r.cl (cnt rs).1 with
  | none => rw [hg] at h1; exact (h1 r h rfl).elim
  | some z => rw [hg] at h1; exact ⟨z, h1⟩
theorem cntL_len (rs : List Rm) : (cntL rs).length ≤ rs.length := by
  have h := (cnt_ok rs).2.1
  rw [cntL, List.length_mergeSort, List.length_map]; exact h
/-- Counting two lists' counts is counting the lists. -/
theorem heavy_merge (x y : List Rm) (z : Rm) : Heavy (x ++ y) z ↔ Heavy (cntL y ++ cntL x) z := by
  have key : ∀ r, r ∈ x ++ y → ∃ t ∈ cntL y ++ cntL x, t.cl = r.cl ∧ r.outw t = false := by
    intro r hr
    rcases List.mem_append.1 hr with hr | hr
    · obtain ⟨t, h1, h2⟩ := heavy_ex hr
      exact ⟨t, List.mem_append_right _ (((cntL_is x).mem t).2 h2), h1, h2.2 r hr⟩
    · obtain ⟨t, h1, h2⟩ := heavy_ex hr
      exact ⟨t, List.mem_append_left _ (((cntL_is y).mem t).2 h2), h1, h2.2 r hr⟩
  have sub : ∀ t ∈ cntL y ++ cntL x, t ∈ x ++ y := by
    intro t ht
    rcases List.mem_append.1 ht with ht | ht
    · exact List.mem_append_right _ (((cntL_is y).mem t).1 ht).1
    · exact List.mem_append_left _ (((cntL_is x).mem t).1 ht).1
  constructor
  · rintro ⟨h1, h2⟩
    refine ⟨?_, fun r hr => h2 r (sub r hr)⟩
    rcases List.mem_append.1 h1 with h | h
    · exact List.mem_append_right _ (((cntL_is x).mem z).2 ⟨h, fun r hr => h2 r (List.mem_append_left _ hr)⟩)
    · exact List.mem_append_left _ (((cntL_is y).mem z).2 ⟨h, fun r hr => h2 r (List.mem_append_right _ hr)⟩)
  · rintro ⟨h1, h2⟩
    refine ⟨sub z h1, fun r hr => ?_⟩
    obtain ⟨t, ht, h3, h4⟩ := key r hr
    by_cases hc : r.cl = z.cl
    · exact outw_trans h4 (h2 t ht) h3.symm (h3.trans hc)
    · exact outw_cl hc
theorem cntL_merge (x y : List Rm) : cntL (x ++ y) = cntL (cntL y ++ cntL x) := cntL_congr (heavy_merge x y)
theorem cntL_again (x : List Rm) : cntL (cntL x) = cntL x := by
  have h := cntL_congr (heavy_merge x x)
  have h1 : cntL (x ++ x) = cntL x := cntL_congr (Heavy.congr fun r => by simp)
  have h2 : cntL (cntL x ++ cntL x) = cntL (cntL x) := cntL_congr (Heavy.congr fun r => by simp)
  rw [← h2, ← h, h1]
theorem swoR : SWO (ltOf fun x y : Rm => cmpCl x.cl y.cl) where
  irrefl := fun x => by simp only [ltOf, decide_eq_false_iff_not, cmpCl_neg, ltC]; omega
  trans := fun x y z => by simp only [ltOf, decide_eq_true_eq, cmpCl_neg, ltC]; omega
  ntrans := fun x y z => by simp only [ltOf, decide_eq_false_iff_not, cmpCl_neg, ltC]; omega
end Go.Proofs.Ytdoljkafkpgkbaa
