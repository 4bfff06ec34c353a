/- A range over a function with two variables; a round of any code; a function with results in cells. -/
import Derived.Test.YtligpachgcmkcaaEng20
import Derived.OrdersIn
set_option linter.unusedSimpArgs false
set_option linter.unusedVariables false
set_option linter.unusedSectionVars false
namespace Go.Proofs.Ytligpachgcmkcaa
open Go.RowKit Go.Shelf

def noDefers (ops : Array Oper) : Bool := ops.toList.all noDefer
theorem noDefers_get {ops : Array Oper} (h : noDefers ops = true) {i : Nat} {o : Oper} (hi : ops[i]? = some o) : noDefer o = true := by
  unfold noDefers at h
  rw [List.all_eq_true] at h
  exact h o (by rw [Array.mem_toList_iff]; exact Array.mem_of_getElem? hi)
theorem wpList_fen {ro : Option Nat} {X : Cx} {ops : Array Oper} {K : Env → Lst → Prop} : ∀ (l : List Oper) (a : Act) (w : World), l.all noDefer = true → wpList X.P ops (X.liftK K) l a w → wpListIn (fen ro) 0 X.P ops (X.liftK K) l a w
  | [], _, _, _, h => h
  | o :: r, a, w, hd, h => by
    rw [List.all_cons, Bool.and_eq_true] at hd
    unfold wpList at h
    unfold wpListIn
    by_cases hwd : Region.wanted o (yielded ops a.tmps) = true
    · rw [if_pos hwd] at h ⊢
      rcases h with h | ⟨_, a, w, h⟩
      · exact Oper.wp_fen hd.1 (Oper.wp_change (fun a w h => wpList_fen r a w hd.2 h) (fun c a w h => by cases h.1) (fun ⟨a, w, h⟩ => by cases h.1) h)
      · cases h.1
    · rw [if_neg hwd] at h ⊢
      exact ⟨fun f _ => fen_fn ro f, wpList_fen r _ _ hd.2 h⟩
theorem wpAny_fen {ro : Option Nat} {X : Cx} {ops : Array Oper} {K : Env → Lst → Prop} (hd : noDefers ops = true) : ∀ (fuel : Nat) (listed : Array Bool) (a : Act) (w : World), wpAny X.P .any ops (X.liftK K) fuel listed a w → wpAnyIn (fen ro) 0 X.P .any ops (X.liftK K) fuel listed a w
  | 0, _, _, _, h => h
  | fuel + 1, listed, a, w, h => by
    refine ⟨h.1, fun i hi => ?_⟩
    have h1 := h.2 i hi
    unfold wpOp at h1
    unfold wpOpIn
    cases ho : ops[i]? with
    | none => rw [ho] at h1; exact wpAny_fen hd fuel _ a w h1
    | some o =>
      rw [ho] at h1
      simp only at h1 ⊢
      by_cases hwd : Region.wanted o (yielded ops a.tmps) = true
      · rw [if_pos hwd] at h1 ⊢
        rcases h1 with h1 | ⟨_, a, w, h1⟩
        · exact Oper.wp_fen (noDefers_get hd ho) (Oper.wp_change (fun a w h => wpAny_fen hd fuel _ a w h) (fun c a w h => by cases h.1) (fun ⟨a, w, h⟩ => by cases h.1) h1)
        · cases h1.1
      · rw [if_neg hwd] at h1 ⊢
        exact ⟨fun f _ => fen_fn ro f, wpAny_fen hd fuel _ _ _ h1⟩
/-- The judgement over code within a round. -/
structure TI (X : Cx) (ro : Option Nat) (c : Code) (Q : Post) (σ : Env) (L : Lst) : Prop where
  run : ∀ a w, Mod X.n a σ → Hp X.w0 X.S L w → c.wpIn (fen ro) 0 X.P (X.lift Q) a w
section
variable {X : Cx} {ro : Option Nat} {x y c : Code} {Q : Post} {σ : Env} {L : Lst} {id : Nat} {ops : Array Oper}
theorem TI.region (hd : noDefers ops = true) (h : R X ops ops.toList (Q .normal) σ L) : TI X ro (.region id ops false) Q σ L :=
  ⟨fun a w ha hw => Go.wpIn_mono (wpIn_region_list (wpList_fen _ a w hd (h.run a w ha hw))) fun e a w ⟨he, σ, L, h1, h2, h3⟩ => ⟨σ, L, h1, h2, he ▸ h3⟩⟩
theorem TI.drawC (is : List Nat) (hn : is.Nodup) (hd : noDefers ops = true) (h : A X ops (pick L is) ops.size (Array.replicate ops.size false) (Q .normal) σ L) : TI X ro (.region id ops true) Q σ L :=
  ⟨fun a w ha hw => by
    have hw' := hw.step (Chg.drew [] w)
    exact Go.wpIn_mono (wpIn_region_any X.tb.mix (wpAny_fen hd _ _ _ _ (wpAny_of_C _ _ _ _ (h.run a _ ha hw' (hw'.pick hn))))) fun e a w ⟨he, σ, L, h1, h2, h3⟩ => ⟨σ, L, h1, h2, he ▸ h3⟩⟩
theorem TI.seq (h : TI X ro x (noQ fun σ L => TI X ro y Q σ L) σ L) : TI X ro (.seq x y) Q σ L :=
  ⟨fun a w ha hw => wpIn_seq (Go.wpIn_mono (h.run a w ha hw) fun e a w ⟨σ, L, h1, h2, h3⟩ => by
    cases e with
    | normal => exact h3.run a w h1 h2
    | _ => exact h3.elim)⟩
theorem TI.block {K : Env → Lst → Prop} (h : TI X ro c (noQ K) σ L) : TI X ro (.block id c) (noQ K) σ L :=
  ⟨fun a w ha hw => wpIn_block (Go.wpIn_mono (h.run a w ha hw) fun e a w ⟨σ, L, h1, h2, h3⟩ => by
    cases e with
    | normal => exact ⟨σ, L, h1, h2, h3⟩
    | _ => exact h3.elim)⟩
theorem TI.weak {σ' : Env} {L' : Lst} (h : TI X ro c Q σ' L') (hk : Keep L L') (hs : Sub σ' σ) : TI X ro c Q σ L := ⟨fun a w ha hw => h.run a w (ha.sub hs) (hw.keep hk)⟩
end
theorem YieldM.of2 {P : Program} {tb : Tb P} {n l p q : Nat} {rec : Loop} {σ : Env} {u v : Value} {Li : Lst} {w : World} {R1 : Lst → Prop}
    (hm : Mod n { tmps := rec.tmps, defers := [] } σ) (hp : rec.params = #[p, q]) (hpn : p < n) (hqn : q < n) (hst : rec.state = .ready) (hpe : rec.pending = none)
    (h : TI ⟨P, tb, n, w, l :: blks Li⟩ (some l) rec.assign (noQ fun σ2 L2 => ∃ L3, Keep L2 ((l, .loop rec) :: L3) ∧ TI ⟨P, tb, n, w, l :: blks Li⟩ (some l) rec.body (noQ fun σ4 L4 => ∃ L5, Keep L4 ((l, .loop { rec with state := .busy }) :: L5) ∧ R1 L5) σ2 ((l, .loop { rec with state := .busy }) :: L3)) ((q, v) :: (p, u) :: σ) ((l, .loop rec) :: Li)) :
    YieldM P l [u, v] ((l, .loop rec) :: Li) w fun x L => x = .bool true ∧ ∃ L5, R1 L5 ∧ L = (l, .loop rec) :: L5 := by
  refine ⟨fun hw => ?_⟩
  have hl := hw.get l _ List.mem_cons_self
  refine ⟨_, _, _, _, run_yield hl (by rw [hp]; rfl), roundIn_of_wpIn trivial ?_⟩
  have hm' : Mod n { tmps := ((rec.params.zip #[u, v]).foldl (fun t (q, v) => t.setIfInBounds q v) rec.tmps), defers := [] } ((q, v) :: (p, u) :: σ) := by
    have := (hm.put hpn u).put hqn v
    rw [hp]
    simpa [Act.put] using this
  refine Go.wpIn_mono (h.run _ w hm' hw) ?_
  rintro e a1 w1 ⟨σ2, L2, m2, h2, hq⟩
  cases e with
  | normal =>
    obtain ⟨L3, hk, hbody⟩ := hq
    have h3 := h2.keep hk
    have hl1 := h3.get l _ List.mem_cons_self
    have hlt : l < w1.heap.size := (Array.getElem?_eq_some_iff.1 hl1).1
    refine ⟨_, run_beginRound hl1 hst, ?_⟩
    have h4 : Hp w (l :: blks Li) ((l, .loop { rec with state := .busy }) :: L3) (w1.putObj l (.loop { rec with state := .busy })) := h3.upd .head (Chg.setObj w1 _ (by simp)) (World.putObj_heap_same hlt)
    refine Go.wpIn_mono (hbody.run _ _ m2 h4) ?_
    rintro e a5 w5 ⟨σ4, L4, m4, h5, hq5⟩
    cases e with
    | normal =>
      obtain ⟨L5, hk5, hR5⟩ := hq5
      have h6 := h5.keep hk5
      have hl5 := h6.get l _ List.mem_cons_self
      have hlt5 : l < w5.heap.size := (Array.getElem?_eq_some_iff.1 hl5).1
      refine ⟨_, _, run_endRound none hl5, .bool true, (l, .loop rec) :: L5, rfl, ⟨rfl, L5, hR5, rfl⟩, ?_⟩
      have he : ({ { rec with state := LoopState.busy } with state := if (none : Option Code).isNone then .ready else .done, pending := none } : Loop) = rec := by
        cases rec; simp only at hst hpe; subst hst; subst hpe; rfl
      rw [he]
      exact h6.upd .head (Chg.setObj w5 _ (by simp)) (World.putObj_heap_same hlt5)
    | _ => exact hq5.elim
  | _ => exact hq.elim
/-- The loop's record as the rounds find it. -/
structure RecOk2 (n : Nat) (σ : Env) (p q : Nat) (assign body : Code) (rec : Loop) : Prop where
  mod : Mod n { tmps := rec.tmps, defers := [] } σ
  params : rec.params = #[p, q]
  assign : rec.assign = assign
  body : rec.body = body
  state : rec.state = .ready
  pending : rec.pending = none
structure RG2 (X : Cx) (gf : Nat) (rs : List ResultVar) (p q : Nat) (assign body rest : Code) (Rp : Value → Lst → Prop) (g : Operand) (σ : Env) (L : Lst) : Prop where
  ex : ∃ (lb : List Value) (La Lr : Lst) (J : Lst → Prop), Keep L (La ++ Lr) ∧ ev σ g = some (.func (.func gf) #[] lb.toArray) ∧
    (∀ l rec w, RecOk2 X.n σ p q assign body rec → (∃ L2, Hp X.w0 X.S (((l, .loop rec) :: La) ++ L2) w) → CallM X.P gf (.func (.yield l) #[] #[] :: lb) ((l, .loop rec) :: La) w fun v L' => ∃ Lb, J Lb ∧ L' = (l, .loop rec) :: Lb) ∧
    (∀ D Lb, J Lb → TD X [{ target := .collected D, args := #[] }] rest (fun e σ' L' => e = .ret ∧ ∃ L3, Keep L' ((D, .deferred (some [])) :: L3) ∧ RetOk X rs (fun v _ => Rp v L3) σ' ((D, .deferred none) :: L3)) σ ((D, .deferred (some [])) :: (Lb ++ Lr)))
theorem RetOk.run {X : Cx} {fn : Func} {Rp : Value → Lst → Prop} {σ : Env} {L : Lst} {a : Act} {w : World} (h : RetOk X fn.results.toList Rp σ L) (ha : Mod X.n a σ) (hw : Hp X.w0 X.S L w) : ∃ v, (results fn a.tmps).run X.P w = .ok v w ∧ Rp v L := by
  obtain ⟨⟨vs, h4, h5⟩⟩ := h
  refine ⟨tup vs, ?_, h5⟩
  have := ResIs.run ha hw h4
  have h6 : (fn.results.mapM (m := Sem) fun | .tmp t => Pure.pure (a.tmps.getD t undef) | .cell b t => do loadVar t (← asAddr (a.tmps.getD b undef))).run X.P w = .ok vs.toArray w := by
    rw [← Array.toArray_toList (xs := fn.results), List.mapM_toArray]
    simp only [Sem.run_map]
    erw [this]
    rfl
  simp only [results, Sem.run_bind]
  erw [h6]
  simp only [Result.andThen_ok, Sem.run_pure]
  congr 1
  cases vs with
  | nil => rfl
  | cons v vs => cases vs <;> rfl
theorem TF.range2 {X : Cx} {fn : Func} {Rp : Value → Lst → Prop} {x rest assign body : Code} {id p q gf : Nat} {rs : List ResultVar} {g : Operand} {σ : Env} {L : Lst} (hfn : fn.results.toList = rs) (he : X.tb.fns.contains gf = true)
    (h : T X x (noQ fun σ L => RG2 X gf rs p q assign body rest Rp g σ L) σ L) :
    TF X fn (fun e w' => ∃ v L', e = .returned v ∧ Rp v L' ∧ Hp X.w0 X.S L' w') (.seq (.seq x (.block id (.rangeFunc g #[p, q] assign body))) rest) σ L := by
  refine ⟨fun a w ha hw => wp_seq (wp_seq (wp_mono (h.run a w ha hw) ?_))⟩
  rintro e a w ⟨σ1, L1, m1, h1, q1⟩
  cases e with
  | normal =>
    obtain ⟨lb, La, Lr, J, hk, hg, hc, hr⟩ := q1.ex
    refine wp_block (wpIn_wide.1 (wpIn_rangeFunc (F := Fence.wide) (n := 0) fun fnn _ => ?_))
    obtain ⟨rec, hrec⟩ : ∃ rec : Loop, rec = { state := .ready, pending := none, fn := fnn, tmps := a.tmps, params := #[p, q], assign, body, defers := w.heap.size } := ⟨_, rfl⟩
    have hp1 := h1.keep hk
    have hp2 := hp1.alloc (.deferred (some []))
    have hp3 := hp2.alloc (.loop rec)
    rw [World.size_alloc] at hp3
    have hok : RecOk2 X.n σ1 p q assign body rec := by
      subst hrec
      exact ⟨⟨m1.size, rfl, m1.ok⟩, rfl, rfl, rfl, rfl, rfl⟩
    have hperm : (((w.heap.size + 1, Obj.loop rec) :: La) ++ ((w.heap.size, Obj.deferred (some [])) :: Lr)).Perm ((w.heap.size + 1, Obj.loop rec) :: (w.heap.size, Obj.deferred (some [])) :: (La ++ Lr)) := by
      rw [List.cons_append]
      exact (List.perm_middle).cons _
    have hp4 := hp3.perm hperm
    generalize hW : (w.alloc (.deferred (some []))).alloc (.loop rec) = W1 at *
    refine ⟨w.heap.size + 1, [{ target := .collected w.heap.size, args := #[] }], W1, { target := .fn (.func gf) lb.toArray, args := #[.func (.yield (w.heap.size + 1)) #[] #[]] }, W1, gf,
      (.func (.yield (w.heap.size + 1)) #[] #[] :: lb).toArray, W1, ?_, ?_, fun _ _ => trivial, ?_, fun e => (by cases e), ?_⟩
    · rw [← hW, hrec]; exact run_enterLoop_outer _ _ _ _ _
    · simp only [resolve, m1.ev hg]
      simp [go_sem]
    · have h9 := X.tb.ent he (.func (.yield (w.heap.size + 1)) #[] #[] :: lb).toArray W1
      simp only [invoke]
      simpa using h9
    · have hin : Hp W1 (blks ((w.heap.size + 1, Obj.loop rec) :: La)) ((w.heap.size + 1, Obj.loop rec) :: La) W1 := ⟨.refl _ _, fun b o hm => hp4.get b o (List.mem_append_left _ hm), (List.nodup_append.1 (by have := hp4.nod; rwa [List.map_append] at this)).1, fun b o hm => .inr (List.mem_map.2 ⟨(b, o), hm, rfl⟩)⟩
      refine callsIn_wide.2 (Calls.mono ((hc (w.heap.size + 1) rec W1 hok ⟨_, hp4⟩).run hin) ?_)
      rintro e w3 ⟨v, L', rfl, ⟨Lb, hJ, rfl⟩, h3⟩
      have hp5 := hp4.callM h3
      have hl5 := hp5.get (w.heap.size + 1) _ List.mem_cons_self
      have hlt5 : w.heap.size + 1 < w3.heap.size := (Array.getElem?_eq_some_iff.1 hl5).1
      refine ⟨none, w3.putObj (w.heap.size + 1) (.loop { rec with state := .exhausted }), by rw [run_endLoop hl5 (by rw [hok.state]; simp), hok.pending], ?_⟩
      have hp6 : Hp X.w0 X.S ((w.heap.size + 1, Obj.loop { rec with state := .exhausted }) :: (Lb ++ ((w.heap.size, Obj.deferred (some [])) :: Lr))) (w3.putObj (w.heap.size + 1) (.loop { rec with state := .exhausted })) := hp5.upd .head (Chg.setObj w3 _ (by simp)) (World.putObj_heap_same hlt5)
      have hp7 := (hp6.sub (List.sublist_cons_self _ _)).perm (List.perm_middle.symm)
      have hrun := (hr w.heap.size Lb hJ).run a _ m1 hp7
      have hsh : shift [{ target := .collected w.heap.size, args := #[] }] a = { a with defers := [{ target := .collected w.heap.size, args := #[] }] ++ a.defers } := by
        unfold shift; rw [m1.defers]; rfl
      rw [hsh] at hrun
      refine wp_mono hrun ?_
      rintro e a9 w9 ⟨a10, rfl, σ9, L9, m9, h9, rfl, L10, hk9, hR9⟩
      have h10 := h9.keep hk9
      have hD := h10.get w.heap.size _ List.mem_cons_self
      have hltD : w.heap.size < w9.heap.size := (Array.getElem?_eq_some_iff.1 hD).1
      have h11 : Hp X.w0 X.S ((w.heap.size, Obj.deferred none) :: L10) (w9.putObj w.heap.size (.deferred none)) := h10.upd .head (Chg.setObj w9 _ (by simp)) (World.putObj_heap_same hltD)
      have hde : (shift [{ target := .collected w.heap.size, args := #[] }] a10).defers = [{ target := .collected w.heap.size, args := #[] }] := by
        unfold shift; simp [m9.defers]
      show LeavesInM Fence.wide 0 X.P fn _ _ _ .returning w9
      rw [hde]
      rw [← hfn] at hR9
      obtain ⟨v9, hv9, hR10⟩ := hR9.run m9 h11
      exact ⟨by simp, .inl ⟨w.heap.size, _, rfl, run_takeDeferred hD, v9, hv9, v9, L10, rfl, hR10, h11.sub (List.sublist_cons_self _ _)⟩⟩
  | _ => exact q1.elim
theorem CallM.wk {P : Program} {f : FuncId} {vs : List Value} {L : Lst} {w : World} {R R' : Value → Lst → Prop} (h : CallM P f vs L w R) (hr : ∀ v L, R v L → R' v L) : CallM P f vs L w R' :=
  ⟨fun hw => (h.run hw).mono fun e w' ⟨v, L', h1, h2, h3⟩ => ⟨v, L', h1, hr _ _ h2, h3⟩⟩
end Go.Proofs.Ytligpachgcmkcaa
