/- The arguments of a statement: what a slice of plain rows, a plain struct, a number hold; the statement's last step. -/
import Derived.Test.YtligpachgcmkcaaEng14
import Derived.ProofKit
import Derived.Deep.Slices
import Derived.OpenShut
set_option linter.unusedSimpArgs false
set_option linter.unusedVariables false
set_option linter.unusedSectionVars false
namespace Go.Proofs.Ytligpachgcmkcaa
open Go.RowKit Go.Shelf Go.ChangeShapes Go.WideShapes Go.Deep

/-- A cell of this kind, within its range. -/
def cellW : TK → Value → Prop
  | .int k, .int k' n => k' = k ∧ k.min ≤ n ∧ n ≤ k.max
  | .bool, .bool _ => True
  | .string, .string s => s.size ≤ maxLen
  | _, _ => False
def allW : List TK → List Value → Prop
  | [], [] => True
  | k :: ks, v :: vs => cellW k v ∧ allW ks vs
  | _, _ => False
theorem allW_append : ∀ {ks ls : List TK} {vs : List Value}, allW ks (vs.take ks.length) → allW ls (vs.drop ks.length) → allW (ks ++ ls) vs
  | [], ls, vs, _, h => by simpa using h
  | k :: ks, ls, [], h, _ => by simp [allW] at h
  | k :: ks, ls, v :: vs, h, h2 => by
    simp only [List.length_cons, List.take_succ_cons, List.drop_succ_cons, allW] at h h2
    exact ⟨h.1, allW_append h.2 h2⟩

section
variable {H : Type} {enc : TypeId × Value → H} {P : Program} {w : World} {base : Nat} {spare : Nat → Bool} {held : Bool}
theorem cells_of (w : World) {t sz : Nat} (h : ∀ w, (Go.sizeOf t).run P w = .ok sz w) : P.cellsOf t = sz := by
  have := h w
  simp only [Go.sizeOf, typeInfo, Sem.run_bind, Sem.run_pure] at this
  unfold Program.cellsOf
  cases hi : P.info? t with
  | none => simp [hi] at this
  | some i => simp [hi] at this; simp [this]
theorem trodFs {g : Nat → Option (List TK)} {n : Nat} {cs : List Value} (hg : ∀ t ks us x, g t = some ks → P.cellsOf t = ks.length → DataW.trod enc P w base spare held n t us = some x → allW ks us) :
    ∀ (fields : List Field) (fs : List (Nat × Nat × Nat)) (k : Nat) (ks : List TK), Flds P fields fs → flatFs g fs k = some ks → cs.length = k + ks.length → (∀ f ∈ fields, ∃ x, DataW.trod enc P w base spare held n f.type ((cs.drop f.offset).take (P.cellsOf f.type)) = some x) → allW ks (cs.drop k)
  | [], [], k, ks, _, h, hl, _ => by
    simp only [flatFs, Option.some.injEq] at h
    subst h
    rw [List.drop_eq_nil_of_le (by simp at hl; omega)]
    trivial
  | [], _ :: _, _, _, h, _, _, _ => h.elim
  | _ :: _, [], _, _, h, _, _, _ => h.elim
  | f :: fields, (t, off, sz) :: fs, k, ks, hF, h, hl, hx => by
    obtain ⟨e1, e2, e3, e4, e5⟩ := hF
    simp only [flatFs] at h
    split at h
    · cases h
    · rename_i hb
      have hb' := Nat.eq_of_beq_eq_true hb
      split at h
      · cases h
      · rename_i k1 hk1
        split at h
        · cases h
        · rename_i hl1
          have hl1' := Nat.eq_of_beq_eq_true hl1
          split at h
          · cases h
          · rename_i k2 hk2
            cases h
            obtain ⟨x, hx1⟩ := hx f List.mem_cons_self
            have hsz := cells_of w e3
            rw [e1, e2, hsz, hb'] at hx1
            have h1 := hg t k1 _ x hk1 (by rw [hsz, hl1']) hx1
            have h2 := trodFs hg fields fs (k + sz) k2 e5 hk2 (by rw [hl, List.length_append, hl1']; omega) fun f' hf' => hx f' (List.mem_cons_of_mem _ hf')
            refine allW_append (by rw [hl1']; exact h1) ?_
            rw [List.drop_drop, hl1']; exact h2
theorem allW_rep {k1 : List TK} : ∀ (m : Nat) (cs : List Value), cs.length = m * k1.length → (∀ i, i < m → allW k1 ((cs.drop (i * k1.length)).take k1.length)) → allW (repK k1 m) cs
  | 0, cs, hl, _ => by
    have : cs = [] := by cases cs; rfl; simp at hl
    subst this; trivial
  | m + 1, cs, hl, h => by
    have h0 := h 0 (by omega)
    simp only [Nat.zero_mul, List.drop_zero] at h0
    rw [Nat.add_mul] at hl
    refine allW_append h0 (allW_rep m _ (by rw [List.length_drop, hl]; omega) fun i hi => ?_)
    have := h (i + 1) (by omega)
    rwa [List.drop_drop, show k1.length + i * k1.length = (i + 1) * k1.length by rw [Nat.add_mul]; omega]
theorem trod_flat (tb : Tb P) : ∀ (n t : Nat) (ks : List TK), flatE tb n t = some ks → P.cellsOf t = ks.length → ∀ fuel cs x, DataW.trod enc P w base spare held fuel t cs = some x → allW ks cs
  | 0, _, _, h, _, _, _, _, _ => by cases h
  | n + 1, t, ks, h, hlen, fuel, cs, x, hx => by
    simp only [flatE] at h
    split at h
    · cases h
    · rename_i r hr
      have hgd := tb.get hr
      have his := hgd.is
      split at h
      · rename_i k hk
        rw [hk] at his
        cases h
        obtain ⟨m, rfl, _, hwf⟩ := DataW.trod_int his hx
        simp only [Lit.wf, Bool.and_eq_true, decide_eq_true_eq] at hwf
        exact ⟨⟨rfl, hwf⟩, trivial⟩
      · rename_i hk
        rw [hk] at his
        cases h
        obtain ⟨b, rfl, _⟩ := DataW.trod_bool his hx
        exact ⟨trivial, trivial⟩
      · rename_i hk
        rw [hk] at his
        cases h
        obtain ⟨s, rfl, _, hs⟩ := DataW.trod_string his hx
        exact ⟨hs, trivial⟩
      · rename_i fs hk
        rw [hk] at his
        obtain ⟨fields, h1, h2⟩ := his
        obtain ⟨xs, m, rfl, _, hcl, hxl, hf⟩ := DataW.trod_struct h1 hx
        have := trodFs (cs := cs) (n := m) (fun t ks us x hg hc ht => trod_flat tb n t ks hg hc m us x ht) fields.toList fs 0 ks h2 h (by rw [hcl, hlen]; omega) fun f hf' => by
          obtain ⟨i, hi, he⟩ := List.getElem_of_mem hf'
          have h3 : fields[i]? = some f := by rw [← he]; simp at hi; simp [hi]
          have h4 := hf i f h3
          simp at hi
          rw [List.getElem?_eq_getElem (by omega)] at h4
          exact ⟨_, h4⟩
        simpa using this
      · rename_i mm e hk
        rw [hk] at his
        split at h
        · cases h
        · rename_i re hre
          split at h
          · cases h
          · rename_i k1 hk1
            split at h
            · cases h
            · rename_i hl1
              have hl1' := Nat.eq_of_beq_eq_true hl1
              cases h
              obtain ⟨xs, m, rfl, _, hcl, hxl, hf⟩ := DataW.trod_array his hx
              have hce : P.cellsOf e = k1.length := by rw [cells_of w (tb.get hre).size, hl1']
              refine allW_rep mm cs (by rw [hcl, hlen, repK_len]) fun i hi => ?_
              have h4 := hf i hi
              rw [hce, List.getElem?_eq_getElem (by omega)] at h4
              exact trod_flat tb n e k1 hk1 hce m _ _ h4
      · cases h

/-- A slice of plain rows that came in. -/
theorem open_rows {α : Type} [Inhabited α] (f : α → List Value) (tb : Tb P) {t e : TypeId} {r re : TRow} {ks : List TK} {v : Value} {d : DataW H} {p : List MemPlace} (ht : tb.row t = some r) (hk : r.k = .slice e) (he : tb.row e = some re) (hf : flatE tb 8 e = some ks) (hl : Nat.beq ks.length re.size = true) (hpos : Nat.ble 1 ks.length = true)
    (hlen : ∀ a, (f a).length = ks.length) (dec : ∀ cs, allW ks cs → ∃ a, f a = cs)
    {rc : Reach} {b0 : Nat} (hv : Value.okWide P w rc b0 t v) (h : DataW.Trod enc P w base spare held t v d p) :
    ∃ (a : Option Addr) (rs : List α) (cap : Nat), v = .slice a rs.length cap ∧ RdSl w a f rs ∧ rs.length ≤ cap ∧ cap ≤ maxLen ∧ (∀ x ∈ rs, allW ks (f x)) ∧ (a = none → cap = 0) := by
  have hu : P.underlying t = some (.slice e) := by have := (tb.get ht).is; rw [hk] at this; exact this
  obtain ⟨a0, len0, cap0, rfl⟩ := okWide_slice hu hv
  obtain ⟨fuel, hfu⟩ := h
  have hce : P.cellsOf e = ks.length := by rw [cells_of w (tb.get he).size, Nat.eq_of_beq_eq_true hl]
  rcases open_slice hu hfu with ⟨h0, _⟩ | ⟨a, len, cap, m, n, D, Pl, hcs, hb, hlc, hm, hmm, hx, hi⟩
  · have : a0 = none ∧ len0 = 0 ∧ cap0 = 0 := by simpa [Value.cells] using h0
    obtain ⟨rfl, rfl, rfl⟩ := this
    exact ⟨none, [], 0, rfl, .inl rfl, by simp, by simp, by simp, fun _ => rfl⟩
  · have : a0 = some a ∧ len0 = len ∧ cap0 = cap := by simpa [Value.cells] using hcs
    obtain ⟨rfl, rfl, rfl⟩ := this
    have hle : len0 ≤ m := by rw [hmm]; split <;> omega
    obtain ⟨R, hR⟩ := choose_lt (α := α) (p := fun i x => w.cells? base (a.add (i * P.cellsOf e)) (P.cellsOf e) = some (f x) ∧ allW ks (f x)) (n := len0) (fun i hi' => by
      obtain ⟨cs', h1, h2⟩ := hi i (by omega)
      have h3 := trod_flat tb 8 e ks hf hce _ _ _ h2
      obtain ⟨x, hx⟩ := dec cs' h3
      exact ⟨x, by rw [hx]; exact h1, by rw [hx]; exact h3⟩)
    have hrl : ((List.range len0).map R).length = len0 := by simp
    refine ⟨some a, (List.range len0).map R, cap0, by rw [hrl], ?_, by rw [hrl]; exact hlc, hm, ?_, fun h => by cases h⟩
    · by_cases hz : len0 = 0
      · left; simp [hz]
      · right
        have hpos' := Nat.le_of_ble_eq_true hpos
        have hspot : a.spot = none := by
          obtain ⟨_, h2, h3⟩ := World.cells?_some (hR 0 (by omega)).1
          have h4 := h3 0 (by omega)
          rw [List.getElem?_eq_getElem (by omega)] at h4
          unfold World.cell? at h4
          cases a with | mk b o s =>
          cases s with
          | none => rfl
          | some s => 
            simp only [Addr.add] at h4
            split at h4
            · simp at h4
            · cases h4
        cases a with | mk b o s =>
        simp only at hspot
        subst hspot
        refine ⟨b, o, rfl, fun k hk' => ?_⟩
        rw [fl_len hlen, hrl] at hk'
        have hdm := Nat.div_add_mod k ks.length
        have hml := Nat.mod_lt k (show 0 < ks.length by omega)
        have hil : k / ks.length < len0 := by rw [Nat.div_lt_iff_lt_mul (by omega)]; exact hk'
        have hgi : ((List.range len0).map R)[k / ks.length]? = some (R (k / ks.length)) := by simp [hil]
        have h5 := fl_get hlen hgi hml
        rw [show k / ks.length * ks.length + k % ks.length = k by rw [Nat.mul_comm]; exact hdm] at h5
        rw [h5]
        obtain ⟨_, h2, h3⟩ := World.cells?_some (hR _ hil).1
        have h4 := h3 (k % ks.length) (by rw [hce]; exact hml)
        rw [Addr.add_none, Addr.add_none, hce] at h4
        rw [← h4, show o + k / ks.length * ks.length + k % ks.length = o + k by rw [Nat.add_assoc, show k / ks.length * ks.length + k % ks.length = k by rw [Nat.mul_comm]; exact hdm]]
    · intro x hx'
      obtain ⟨i, hi', rfl⟩ := List.mem_map.1 hx'
      exact (hR i (List.mem_range.1 hi')).2

/-- The arguments read behind the call as before: nothing that was there has changed. -/
theorem trodAll_stays {W W' : World} (hl : laidOutB P = true) (hb : Below W.heap.size W W') {sp : Nat → Bool} : ∀ {ts : List TypeId} {vs : List Value} {ds : List (DataW H)} {ps : List MemPlace}, (∀ t ∈ ts, P.readableRec t = true ∧ t < P.types.size) →
    DataW.TrodAll enc P W 0 (fun _ => true) true ts vs ds ps → (∀ p ∈ ps, p.block < W.heap.size ∧ sp p.block = true) → DataW.TrodAll enc P W' 0 sp true ts vs ds ps
  | [], vs, ds, ps, _, h, _ => by
    obtain ⟨rfl, rfl, rfl⟩ := trodAll_nil h
    exact trodAll_mk0
  | t :: ts, vs, ds, ps, hr, h, hp => by
    obtain ⟨v, vs', d, ds', p, q, rfl, rfl, rfl, h1, h2⟩ := trodAll_cons h
    have g := hr t List.mem_cons_self
    exact ⟨p, q, WideElems.Trod_stays hl g.1 g.2 h1 (fun x hx => hb.same (hp x (List.mem_append_left _ hx)).1) (fun x hx => (hp x (List.mem_append_left _ hx)).2),
      trodAll_stays hl hb (fun t' ht' => hr t' (List.mem_cons_of_mem _ ht')) h2 (fun x hx => hp x (List.mem_append_right _ hx)), rfl⟩
/-- A statement's last step: it returned true, and nothing that was there has changed. -/
theorem law_post {f : Func} {s : ChangeSpec} {apart fresh handsOn again : Bool} {W W' : World} {args : Array Value} {ds gs : List (DataW H)} {before : List MemPlace} {tt : TypeId}
    (hW : DataW.Whole enc P f.params.toList s.vars apart W args.toList ds gs before) (hv : s.vars = []) (hfn : s.fn H ds = { results := [.lit (.bool true)], args := ds, vars := [] })
    (hrt : f.resultTypes = #[tt]) (htt : P.underlying tt = some .bool) (hl : laidOutB P = true) (hread : ∀ t ∈ f.params.toList, P.readableRec t = true ∧ t < P.types.size) (hb : Below W.heap.size W W') :
    s.post enc P f apart fresh handsOn again W args (.bool true) W' := by
  have hlt : ∀ p ∈ before, p.block < W.heap.size := fun p hp => hW.lt p hp
  obtain ⟨p, q, hA, hV, rfl, hz, hn⟩ := hW
  have hV' := hV
  rw [hv] at hV'
  obtain ⟨rfl, rfl⟩ := trodVars_none hV'
  rw [List.append_nil] at hlt hz hn
  have key : ∀ sp : Nat → Bool, (∀ x ∈ p, sp x.block = true) → DataW.TrodAll enc P W' 0 sp true f.params.toList args.toList ds p := fun sp hs => trodAll_stays hl hb hread hA fun x hx => ⟨hlt x hx, hs x hx⟩
  have hres : ∀ (b : Nat) (sp : Nat → Bool) (hd : Bool), DataW.TrodAll enc P W' b sp hd f.resultTypes.toList ((Value.bool true).resultList f.resultTypes.size) [.lit (.bool true)] [] := fun b sp hd => by
    rw [hrt]; exact trodAll_mk1 (shut_bool htt true)
  refine ⟨ds, [], p, [], p, [], ⟨p, [], hA, hV, by simp, hz, hn⟩, ?_, ?_, ?_, World.keptBut_mono (fun x hx => ⟨hx, .inr (.inl hx)⟩) (hb.frame (· ∈ p)), fun _ => ⟨?_, ?_⟩⟩
  · rw [List.append_nil, hfn]; exact hres _ _ _
  · rw [List.append_nil, hfn]; exact key _ fun x hx => by simpa using hlt x hx
  · rw [List.append_nil, hfn, hv]; rfl
  · exact ok_one hrt rfl (okWide_bool_mk htt true)
  · refine ⟨.lit (.bool true) :: ds, [], p, ⟨p, [], ?_, by rw [hv]; rfl, by simp, ?_, hn⟩, fun x hx _ => hx⟩
    · rw [hrt]
      exact ⟨[], p, shut_bool htt true, key _ fun _ _ => rfl, rfl⟩
    · intro b off hx
      rw [hb.frozen (hlt _ hx)]
      exact hz b off hx
end
end Go.Proofs.Ytligpachgcmkcaa
