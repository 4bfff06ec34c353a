/- Regions that draw their order: what only reads, in every world of a class, is taken first; the rest one by one. -/
import Derived.Test.YtdfdfohfnjefiaaEng5
import Derived.OrdersHeld
set_option linter.unusedSimpArgs false
set_option linter.unusedVariables false
namespace Go.Proofs.Ytdfdfohfnjefiaa
open Go.RowKit Go.Shelf

/-- Whatever order is picked from here on; C: blocks that nothing in the region touches. -/
structure A (X : Cx) (all : Array Oper) (C : Lst) (fuel : Nat) (listed : Array Bool) (K : Env → Lst → Prop) (σ : Env) (L : Lst) : Prop where
  run : ∀ a w, Mod X.n a σ → Hp X.w0 X.S L w → Hp X.w0 X.S C w → wpAnyH X.P .any all (X.liftK K) (Hp X.w0 X.S C) fuel listed a w

section
variable {X : Cx} {all : Array Oper} {C L : Lst} {fuel : Nat} {listed : Array Bool} {K : Env → Lst → Prop} {σ : Env} {v : Value} {d : Nat} {op : Op} {type : TypeId} {pos : String} {after : Array Edge}

theorem Cx.liftK_panic (c : List PanicEntry) (a a' : Act) (w : World) (h : X.liftK K (.panic c) a w) : X.liftK K (.panic c) a' w := by cases h.1

theorem T.draw {id : Nat} {ops : Array Oper} {Q : Post} (h : A X ops L ops.size (Array.replicate ops.size false) (Q .normal) σ L) : T X (.region id ops true) Q σ L :=
  ⟨fun a w ha hw => by
    have hw' := hw.step (Chg.drew [] w)
    refine wp_mono (wp_region_held X.tb.mix (h.run a _ ha hw' hw')) fun e a w ⟨he, σ, L, h1, h2, h3⟩ => ⟨σ, L, h1, h2, he ▸ h3⟩⟩
/-- The class names the blocks at these places alone (the others are written in the region). -/
theorem T.drawC {id : Nat} {ops : Array Oper} {Q : Post} (is : List Nat) (hn : is.Nodup) (h : A X ops (pick L is) ops.size (Array.replicate ops.size false) (Q .normal) σ L) : T X (.region id ops true) Q σ L :=
  ⟨fun a w ha hw => by
    have hw' := hw.step (Chg.drew [] w)
    refine wp_mono (wp_region_held X.tb.mix (h.run a _ ha hw' (hw'.pick hn))) fun e a w ⟨he, σ, L, h1, h2, h3⟩ => ⟨σ, L, h1, h2, he ▸ h3⟩⟩

theorem Mod.yielded {n : Nat} {a : Act} {j dj : Nat} {b : Bool} (ha : Mod n a σ) (hj : (all[j]?).bind (·.dst) = some dj) (hb : look σ dj = some (.bool b)) : yielded all a.tmps j = some b := by
  have := ha.ok dj (.bool b) hb
  simp only [Array.getD] at this
  have hlt : dj < a.tmps.size := by
    rcases Nat.lt_or_ge dj a.tmps.size with h | h
    · exact h
    · rw [dif_neg (by omega)] at this; cases this
  rw [dif_pos hlt] at this
  have h2 : a.tmps[dj]? = some (.bool b) := by rw [Array.getElem?_eq_getElem hlt]; exact congrArg some this
  simp [Go.yielded, hj, h2]

theorem A.take (i : Nat) (hi : all[i]? = some ⟨some d, op, type, pos, after, none⟩) (hn : Nat.blt d X.n = true) (hs : Region.noSelect all = true) (hf : Region.free .any all listed i = true) (hr : (Region.ready .any all listed).contains i = true)
    (ho : Ok1 X ⟨some d, op, type, pos, after, none⟩ σ C v) (h : A X all C fuel (listed.setIfInBounds i true) K ((d, v) :: σ) L) : A X all C (fuel + 1) listed K σ L :=
  ⟨fun a w ha hw hC => wpAnyH_take (v := v) hi hs hf hr (fun c a w => Cx.liftK_panic c _ _ w) (.inl ⟨rfl, fun w hw => ho.run a w ha hw⟩) hC (h.run _ _ (ha.put (blt_lt hn) v) hw hC)⟩
theorem A.takeG (i : Nat) {j dj : Nat} {want : Bool} (hi : all[i]? = some ⟨some d, op, type, pos, after, some (j, want)⟩) (hn : Nat.blt d X.n = true) (hs : Region.noSelect all = true) (hf : Region.free .any all listed i = true) (hr : (Region.ready .any all listed).contains i = true)
    (hj : (all[j]?).bind (·.dst) = some dj) (hb : look σ dj = some (.bool want))
    (ho : Ok1 X ⟨some d, op, type, pos, after, some (j, want)⟩ σ C v) (h : A X all C fuel (listed.setIfInBounds i true) K ((d, v) :: σ) L) : A X all C (fuel + 1) listed K σ L :=
  ⟨fun a w ha hw hC => wpAnyH_take (v := v) hi hs hf hr (fun c a w => Cx.liftK_panic c _ _ w) (.inl ⟨by simp [Region.wanted, ha.yielded hj hb], fun w hw => ho.run a w ha hw⟩) hC (h.run _ _ (ha.put (blt_lt hn) v) hw hC)⟩
theorem A.skipG (i : Nat) {j dj : Nat} {want : Bool} (hi : all[i]? = some ⟨some d, op, type, pos, after, some (j, want)⟩) (hn : Nat.blt d X.n = true) (hs : Region.noSelect all = true) (hf : Region.free .any all listed i = true) (hr : (Region.ready .any all listed).contains i = true)
    (hj : (all[j]?).bind (·.dst) = some dj) (hb : look σ dj = some (.bool (!want)))
    (h : A X all C fuel (listed.setIfInBounds i true) K ((d, undef) :: σ) L) : A X all C (fuel + 1) listed K σ L :=
  ⟨fun a w ha hw hC => wpAnyH_take (v := undef) hi hs hf hr (fun c a w => Cx.liftK_panic c _ _ w) (.inr ⟨by simp [Region.wanted, ha.yielded hj hb], rfl⟩) hC (h.run _ _ (ha.put (blt_lt hn) undef) hw hC)⟩
/-- A test's bool that is not decided: two ways. -/
theorem A.bool {t : Nat} {b : Bool} (hb : look σ t = some (.bool b)) (h1 : b = true → A X all C fuel listed K ((t, .bool true) :: σ) L) (h2 : b = false → A X all C fuel listed K ((t, .bool false) :: σ) L) : A X all C fuel listed K σ L := by
  have key : ∀ a, Mod X.n a σ → Mod X.n a ((t, .bool b) :: σ) := fun a ha => by
    refine ⟨ha.size, ha.defers, fun u x hx => ?_⟩
    simp only [look] at hx
    cases e : Nat.beq t u with
    | true => rw [e] at hx; cases hx; rw [← Nat.eq_of_beq_eq_true e]; exact ha.ok _ _ hb
    | false => rw [e] at hx; exact ha.ok _ _ hx
  cases b with
  | true => exact ⟨fun a w ha hw hC => (h1 rfl).run a w (key a ha) hw hC⟩
  | false => exact ⟨fun a w ha hw hC => (h2 rfl).run a w (key a ha) hw hC⟩

theorem A.dec {t : Nat} {p : Prop} {inst : Decidable p} (hb : look σ t = some (.bool (decide p))) (h1 : p → A X all C fuel listed K ((t, .bool true) :: σ) L) (h2 : ¬ p → A X all C fuel listed K ((t, .bool false) :: σ) L) : A X all C fuel listed K σ L :=
  A.bool hb (fun e => h1 (of_decide_eq_true e)) (fun e => h2 (of_decide_eq_false e))
theorem Oper.wp_change {P : Program} {o : Oper} {a : Act} {w : World} {K K' : Act → World → Prop} {Q Q' : Exit → Act → World → Prop} (hK : ∀ a w, K a w → K' a w) (hP : ∀ c a w, Q (.panic c) a w → Q' (.panic c) a w) (hO : LetsOut Q → LetsOut Q')
    (h : o.wp P a w K Q) : o.wp P a w K' Q' := by
  unfold Oper.wp at *
  generalize (execOp a.eval o).run P w = r at *
  cases r with
  | ok n w' =>
    cases n <;> simp only [Oper.upon] at h ⊢ <;>
      first
        | exact hK _ _ h
        | exact Calls.mono h (fun e w'' he => by cases e <;> first | exact hK _ _ he | exact hP _ _ _ he | exact hO he)
        | exact Rows.mono h (fun _ _ he => hK _ _ he)
  | halt x w' => cases x <;> simp only [Oper.upon] at h ⊢ <;> first | exact hP _ _ _ h | exact h

theorem A.step {i : Nat} {o : Oper} (hi : all[i]? = some o)
    (h : R X all [o] (fun σ' L' => SubL C L' ∧ A X all C fuel (listed.setIfInBounds i true) K σ' L') σ L) {a : Act} {w : World} (ha : Mod X.n a σ) (hw : Hp X.w0 X.S L w) (hC : Hp X.w0 X.S C w) :
    wpOp X.P all (X.liftK K) i (fun a' w' => Hp X.w0 X.S C w' ∧ wpAnyH X.P .any all (X.liftK K) (Hp X.w0 X.S C) fuel (listed.setIfInBounds i true) a' w') a w := by
  have h1 := h.run a w ha hw
  have hnil : ∀ a' w', wpList X.P all (X.liftK fun σ' L' => SubL C L' ∧ A X all C fuel (listed.setIfInBounds i true) K σ' L') [] a' w' → Hp X.w0 X.S C w' ∧ wpAnyH X.P .any all (X.liftK K) (Hp X.w0 X.S C) fuel (listed.setIfInBounds i true) a' w' := by
    rintro a' w' ⟨_, σ', L', h2, h3, h4, h5⟩
    have hC' := h3.part h4 hC.nod
    exact ⟨hC', h5.run a' w' h2 h3 hC'⟩
  unfold wpList at h1
  unfold wpOp
  simp only [hi]
  by_cases hwd : Region.wanted o (yielded all a.tmps) = true
  · rw [if_pos hwd] at h1 ⊢
    refine h1.imp (Oper.wp_change hnil (fun c a w h => by cases h.1) fun ⟨a, w, h⟩ => by cases h.1) fun ⟨_, a, w, h⟩ => by cases h.1
  · rw [if_neg hwd] at h1 ⊢
    exact hnil _ _ h1
theorem A.one (i : Nat) {o : Oper} (hr : Region.ready .any all listed = [i]) (hi : all[i]? = some o)
    (h : R X all [o] (fun σ' L' => SubL C L' ∧ A X all C fuel (listed.setIfInBounds i true) K σ' L') σ L) : A X all C (fuel + 1) listed K σ L :=
  ⟨fun a w ha hw hC => wpAnyH_all hr (by simp) fun j hj => by
    have : j = i := by simpa using hj
    subst this
    exact A.step hi h ha hw hC⟩
theorem A.two (i j : Nat) {o o' : Oper} (hr : Region.ready .any all listed = [i, j]) (hi : all[i]? = some o) (hj : all[j]? = some o')
    (hA : R X all [o] (fun σ' L' => SubL C L' ∧ A X all C fuel (listed.setIfInBounds i true) K σ' L') σ L)
    (hB : R X all [o'] (fun σ' L' => SubL C L' ∧ A X all C fuel (listed.setIfInBounds j true) K σ' L') σ L) : A X all C (fuel + 1) listed K σ L :=
  ⟨fun a w ha hw hC => wpAnyH_all hr (by simp) fun k hk => by
    rcases List.mem_cons.1 hk with e | hk
    · subst e; exact A.step hi hA ha hw hC
    · have : k = j := by simpa using hk
      subst this; exact A.step hj hB ha hw hC⟩
theorem A.done (hr : Region.ready .any all listed = []) (h : K σ L) : A X all C fuel listed K σ L :=
  ⟨fun a w ha hw hC => wpAnyH_done hr ⟨rfl, σ, L, ha, hw, h⟩ _⟩
theorem wpAnyH_mono {P : Program} {md : Region.Mode} {ops : Array Oper} {Q : Exit → Act → World → Prop} {S S' : World → Prop} (hS : ∀ w, S' w → S w) : ∀ (fuel : Nat) (listed : Array Bool) (a : Act) (w : World), wpAnyH P md ops Q S' fuel listed a w → wpAnyH P md ops Q S fuel listed a w
  | 0, _, _, _, h => h
  | fuel + 1, _, _, _, h => ⟨h.1, fun i hi => wpOp_mono (fun a' w' h' => ⟨hS _ h'.1, wpAnyH_mono hS fuel _ a' w' h'.2⟩) (h.2 i hi)⟩
/-- The class may grow: C' holds of what is known, and knows more than C. -/
theorem A.cls (C' : Lst) (h1 : SubL C' L) (h2 : SubL C C') (hn : ∀ w, Hp X.w0 X.S L w → (C'.map (·.1)).Nodup) (h : A X all C' fuel listed K σ L) : A X all C fuel listed K σ L :=
  ⟨fun a w ha hw hC => wpAnyH_mono (fun w' h' => h'.part h2 hC.nod) _ _ _ _ (h.run a w ha hw (hw.part h1 (hn w hw)))⟩
/-- All that is known now. -/
theorem A.clsL (h2 : SubL C L) (h : A X all L fuel listed K σ L) : A X all C fuel listed K σ L :=
  ⟨fun a w ha hw hC => wpAnyH_mono (fun w' h' => h'.part h2 hC.nod) _ _ _ _ (h.run a w ha hw hw)⟩
end
end Go.Proofs.Ytdfdfohfnjefiaa
