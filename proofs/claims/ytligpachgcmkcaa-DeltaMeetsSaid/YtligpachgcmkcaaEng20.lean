/- A range over a function: the walk of the iterator (a call of yield), of a round, and of the function that holds the loop. -/
import Derived.Test.YtligpachgcmkcaaEng19
import Derived.RangeFuncRecord
import Derived.TacticsIn
set_option linter.unusedSimpArgs false
set_option linter.unusedVariables false
set_option linter.unusedSectionVars false
namespace Go.Proofs.Ytligpachgcmkcaa
open Go.RowKit Go.Shelf

/-- Where a walk goes: anywhere, or in a round of the loop l. -/
def fen : Option Nat → Fence
  | none => Fence.wide
  | some l => Fence.wide.inRound l
theorem fen_fn (ro : Option Nat) (f : Nat) : (fen ro).fn f := by cases ro <;> trivial
theorem fen_depth (ro : Option Nat) : (fen ro).depth = none := by cases ro <;> rfl
theorem fen_round (ro : Option Nat) : (fen ro).round = ro := by cases ro <;> rfl
theorem fen_calls {ro : Option Nat} {n : Nat} {P : Program} {f : FuncId} {args : Array Value} {w : World} {R : Ending → World → Prop} (h : Calls P f args w R) : CallsIn (fen ro) n P f args w R := by
  cases ro with
  | none => exact callsIn_wide.2 h
  | some l => exact ⟨trivial, ((callsIn_wide (n := n)).2 h).2⟩
theorem fen_rows {ro : Option Nat} {n : Nat} {P : Program} {row : String} {args : Array Value} {w : World} {R : Value → World → Prop} (h : Rows P row args w R) : RowsIn (fen ro) n P row args w R := by
  intro c cs _
  obtain ⟨v, w', r, s⟩ := h c cs
  refine ⟨v, w', r, ?_⟩
  cases ro with
  | none => exact stepsIn_wide.2 s
  | some l => rw [show Machine.fenced P (fen (some l)) = Machine.fenced P Fence.wide from rfl]; exact stepsIn_wide.2 s
def noDefer (o : Oper) : Bool := match o.op with | .defer _ => false | _ => true
theorem noDefer_spec {o : Oper} (h : noDefer o = true) : ∀ c, o.op ≠ .defer c := by
  intro c e; unfold noDefer at h; rw [e] at h; cases h
theorem Oper.up_fen {ro : Option Nat} {n : Nat} {P : Program} {o : Oper} {a : Act} {next : Act → World → Prop} {Q : Exit → Act → World → Prop} {r : Result Next} (h : o.upon P a next Q r) : o.uponIn (fen ro) n P a next Q r := by
  cases r with
  | ok m w' =>
    cases m with
    | enter f args => exact ⟨fun e => (by rw [fen_depth] at e; cases e), fen_calls h⟩
    | row f args => exact ⟨fun e => (by rw [fen_depth] at e; cases e), fen_rows h⟩
    | round => exact h.elim
    | value v => exact h
    | skip => exact h
    | defer d => exact h
    | _ => exact h.elim
  | halt x w' => cases x <;> first | exact h | exact h.elim
theorem Oper.wp_fen {ro : Option Nat} {n : Nat} {P : Program} {o : Oper} {a : Act} {w : World} {next : Act → World → Prop} {Q : Exit → Act → World → Prop} (hd : noDefer o = true) (h : o.wp P a w next Q) : o.wpIn (fen ro) n P a w next Q := by
  refine ⟨fun f _ => fen_fn ro f, ?_⟩
  rw [fen_round, Oper.semAt_eq _ _ _ (noDefer_spec hd)]
  exact Oper.up_fen h

/-- The judgement over a region's operations at such a fence. -/
structure RI (X : Cx) (ro : Option Nat) (all : Array Oper) (l : List Oper) (K : Env → Lst → Prop) (σ : Env) (L : Lst) : Prop where
  run : ∀ a w, Mod X.n a σ → Hp X.w0 X.S L w → wpListIn (fen ro) 0 X.P all (X.liftK K) l a w
section
variable {X : Cx} {ro : Option Nat} {all : Array Oper} {rest : List Oper} {K : Env → Lst → Prop} {σ : Env} {L : Lst} {o : Oper} {Q : Post}
theorem RI.nil (h : K σ L) : RI X ro all [] K σ L := ⟨fun a w ha hw => ⟨rfl, σ, L, ha, hw, h⟩⟩
theorem RI.step (hd : noDefer o = true) (h : R X all [o] (fun σ' L' => RI X ro all rest K σ' L') σ L) : RI X ro all (o :: rest) K σ L := by
  refine ⟨fun a w ha hw => ?_⟩
  have h1 := h.run a w ha hw
  have hnil : ∀ a' w', wpList X.P all (X.liftK fun σ' L' => RI X ro all rest K σ' L') [] a' w' → wpListIn (fen ro) 0 X.P all (X.liftK K) rest a' w' := by
    rintro a' w' ⟨_, σ', L', h2, h3, h4⟩
    exact h4.run a' w' h2 h3
  unfold wpList at h1
  unfold wpListIn
  by_cases hwd : Region.wanted o (yielded all a.tmps) = true
  · rw [if_pos hwd] at h1 ⊢
    rcases h1 with h1 | ⟨_, a, w, h1⟩
    · exact Oper.wp_fen hd (Oper.wp_change hnil (fun c a w h => by cases h.1) (fun ⟨a, w, h⟩ => by cases h.1) h1)
    · cases h1.1
  · rw [if_neg hwd] at h1 ⊢
    exact ⟨fun f _ => fen_fn ro f, hnil _ _ h1⟩
theorem T.regionIn {id : Nat} {ops : Array Oper} (h : RI X none ops ops.toList (Q .normal) σ L) : T X (.region id ops false) Q σ L :=
  ⟨fun a w ha hw => wpIn_wide.1 (Go.wpIn_mono (wpIn_region_list (h.run a w ha hw)) fun e a w ⟨he, σ, L, h1, h2, h3⟩ => ⟨σ, L, h1, h2, he ▸ h3⟩)⟩
end

/-- A call of yield: what a round does to the known blocks. -/
structure YieldM (P : Program) (l : Nat) (args : List Value) (L : Lst) (w : World) (R1 : Value → Lst → Prop) : Prop where
  run : Hp w (blks L) L w → ∃ fn tmps assign body, (Instr.yield l args.toArray).run P w = .ok (.round l fn tmps assign body) w ∧ RoundIn Fence.wide 0 P l fn tmps assign body w fun e w' => ∃ v L', e = .returned v ∧ R1 v L' ∧ Hp w (blks L) L' w'
theorem RI.yield {X : Cx} {all : Array Oper} {rest : List Oper} {K : Env → Lst → Prop} {σ : Env} {L Li Lr : Lst} {dd l : Nat} {ty : TypeId} {pos : String} {af : Array Edge} {c : Operand} {xs : List Operand} {vs : List Value} {ats : Array TypeId} {R1 : Value → Lst → Prop}
    (hcv : ev σ c = some (.func (.yield l) #[] #[])) (hx : evs σ xs = some vs) (hn : Nat.blt dd X.n = true) (hp : Ext L Li Lr) (hc : ∀ w, Hp X.w0 X.S L w → YieldM X.P l vs Li w R1) (h : ∀ v Lo, R1 v Lo → RI X none all rest K ((dd, v) :: σ) (Lo ++ Lr)) :
    RI X none all (⟨some dd, .call { callee := .value c, args := xs.toArray, argTypes := ats }, ty, pos, af, none⟩ :: rest) K σ L := by
  refine ⟨fun a w ha hw => wpListIn_plain rfl fun K' hK' => ⟨fun f _ => trivial, ?_⟩⟩
  have hw2 := hw.perm hp.perm
  have hin : Hp w (blks Li) Li w := ⟨.refl _ _, fun b o hm => hw2.get b o (List.mem_append_left _ hm), (List.nodup_append.1 (by have := hw2.nod; rwa [List.map_append] at this)).1, fun b o hm => .inr (List.mem_map.2 ⟨(b, o), hm, rfl⟩)⟩
  obtain ⟨fn, tmps, assign, body, hy, hR⟩ := (hc w hw).run hin
  have hm : xs.toArray.map a.eval = vs.toArray := by rw [List.map_toArray, evs_map ha hx]
  have hr : (Oper.semAt (fen none).round a.eval { dst := some dd, op := .call { callee := .value c, args := xs.toArray, argTypes := ats }, type := ty, pos := pos, after := af, guard := none }).run X.P w = .ok (.round l fn tmps assign body) w := by
    rw [fen_round, Oper.semAt_none]
    simp only [execOp, resolve, ha.ev hcv, hm, Deferred.ofValue, Sem.run_bind, Sem.run_pure, Result.andThen_ok, invoke, Array.append_empty, Array.empty_append, List.append_toArray, List.nil_append]
    simpa using hy
  rw [hr, Oper.uponIn_round]
  refine ⟨fun e => (by rw [fen_depth] at e; cases e), hR.mono ?_⟩
  rintro e w' ⟨v, L', rfl, h2, h3⟩
  exact hK' _ _ ((h v L' h2).run _ _ (ha.put (blt_lt hn) v) (hw2.callM h3))

/-- What a round's contract is made of: the assignments to the loop's variables, then the body. -/
theorem YieldM.of {P : Program} {tb : Tb P} {n l p ia ib rb : Nat} {rec : Loop} {aops bops : Array Oper} {σ : Env} {u : Value} {Li : Lst} {w : World} {R1 : Lst → Prop}
    (hm : Mod n { tmps := rec.tmps, defers := [] } σ) (hp : rec.params = #[p]) (hpn : p < n) (ha : rec.assign = .region ia aops false) (hb : rec.body = .block ib (.region rb bops false)) (hst : rec.state = .ready) (hpe : rec.pending = none)
    (h : RI ⟨P, tb, n, w, l :: blks Li⟩ (some l) aops aops.toList (fun σ2 L2 => ∃ L3, Keep L2 ((l, .loop rec) :: L3) ∧ RI ⟨P, tb, n, w, l :: blks Li⟩ (some l) bops bops.toList (fun σ4 L4 => ∃ L5, Keep L4 ((l, .loop { rec with state := .busy }) :: L5) ∧ R1 L5) σ2 ((l, .loop { rec with state := .busy }) :: L3)) ((p, u) :: σ) ((l, .loop rec) :: Li)) :
    YieldM P l [u] ((l, .loop rec) :: Li) w fun v L => v = .bool true ∧ ∃ L5, R1 L5 ∧ L = (l, .loop rec) :: L5 := by
  refine ⟨fun hw => ?_⟩
  have hl := hw.get l _ List.mem_cons_self
  refine ⟨_, _, _, _, run_yield hl (by rw [hp]; rfl), roundIn_of_wpIn trivial ?_⟩
  have hm' : Mod n { tmps := ((rec.params.zip #[u]).foldl (fun t (q, v) => t.setIfInBounds q v) rec.tmps), defers := [] } ((p, u) :: σ) := by
    have := hm.put hpn u
    rw [hp]
    simpa [Act.put] using this
  rw [ha, hb]
  refine Go.wpIn_mono (wpIn_region_list (h.run _ w hm' hw)) ?_
  rintro e a1 w1 ⟨rfl, σ2, L2, m2, h2, L3, hk, hbody⟩
  have h3 := h2.keep hk
  have hl1 := h3.get l _ List.mem_cons_self
  have hlt : l < w1.heap.size := (Array.getElem?_eq_some_iff.1 hl1).1
  refine ⟨_, run_beginRound hl1 hst, ?_⟩
  have h4 : Hp w (l :: blks Li) ((l, .loop { rec with state := .busy }) :: L3) (w1.putObj l (.loop { rec with state := .busy })) := h3.upd .head (Chg.setObj w1 _ (by simp)) (World.putObj_heap_same hlt)
  have hbl : (Code.region rb bops false).wpIn (Fence.wide.inRound l) 0 P (Exit.inBlock ib (roundPost P l fun e w' => ∃ v L', e = .returned v ∧ (v = .bool true ∧ ∃ L5, R1 L5 ∧ L' = (l, .loop rec) :: L5) ∧ Hp w (blks ((l, .loop rec) :: Li)) L' w')) a1 (w1.putObj l (.loop { rec with state := .busy })) := by
    refine Go.wpIn_mono (wpIn_region_list (hbody.run _ _ m2 h4)) ?_
    rintro e a5 w5 ⟨rfl, σ4, L4, m4, h5, L5, hk5, hR5⟩
    have h6 := h5.keep hk5
    have hl5 := h6.get l _ List.mem_cons_self
    have hlt5 : l < w5.heap.size := (Array.getElem?_eq_some_iff.1 hl5).1
    refine ⟨_, _, run_endRound none hl5, .bool true, (l, .loop rec) :: L5, rfl, ⟨rfl, L5, hR5, rfl⟩, ?_⟩
    have he : ({ { rec with state := LoopState.busy } with state := if (none : Option Code).isNone then .ready else .done, pending := none } : Loop) = rec := by
      cases rec; simp only at hst hpe; subst hst; subst hpe; rfl
    rw [he]
    exact h6.upd .head (Chg.setObj w5 _ (by simp)) (World.putObj_heap_same hlt5)
  exact wpIn_block hbl

/-! ### behind the loop: the activation bears a mark -/
def shift (ds : List Deferred) (a : Act) : Act := { a with defers := a.defers ++ ds }
theorem shift_eval (ds : List Deferred) (a : Act) : (shift ds a).eval = a.eval := by
  funext x; cases x <;> rfl
theorem shift_put (ds : List Deferred) (a : Act) (d : Option Tmp) (v : Value) : (shift ds a).put d v = shift ds (a.put d v) := by cases d <;> rfl
def shQ (ds : List Deferred) (Q : Exit → Act → World → Prop) : Exit → Act → World → Prop := fun e a' w' => ∃ a'', a' = shift ds a'' ∧ Q e a'' w'
theorem Oper.wp_shift {P : Program} {ds : List Deferred} {o : Oper} {a : Act} {w : World} {next next' : Act → World → Prop} {Q : Exit → Act → World → Prop} (hn : ∀ a w, next a w → next' (shift ds a) w) (h : o.wp P a w next Q) : o.wp P (shift ds a) w next' (shQ ds Q) := by
  unfold Oper.wp at h ⊢
  rw [shift_eval]
  generalize (execOp a.eval o).run P w = r at *
  cases r with
  | ok m w' =>
    cases m with
    | value v => rw [Oper.upon_value] at h ⊢; rw [shift_put]; exact hn _ _ h
    | skip => rw [Oper.upon_skip] at h ⊢; rw [shift_put]; exact hn _ _ h
    | defer d =>
      rw [Oper.upon_defer] at h ⊢
      have := hn _ _ h
      rw [← shift_put] at this
      exact this
    | enter f args =>
      rw [Oper.upon_enter] at h ⊢
      refine Calls.mono h fun e w'' he => ?_
      cases e with
      | returned v => simp only at he ⊢; rw [shift_put]; exact hn _ _ he
      | panicked c => exact ⟨a, rfl, he⟩
      | outgrown => obtain ⟨a1, w1, h1⟩ := he; exact ⟨shift ds a1, w1, a1, rfl, h1⟩
    | row f args =>
      refine Rows.mono (h : Rows P f args w' _) fun v w'' he => ?_
      rw [shift_put]; exact hn _ _ he
    | _ => exact h.elim
  | halt x w' => cases x <;> first | exact ⟨a, rfl, h⟩ | exact h.elim
theorem wpList_shift {P : Program} {ds : List Deferred} {all : Array Oper} {Q : Exit → Act → World → Prop} : ∀ (l : List Oper) (a : Act) (w : World), wpList P all Q l a w → wpList P all (shQ ds Q) l (shift ds a) w
  | [], a, w, h => ⟨a, rfl, h⟩
  | o :: r, a, w, h => by
    unfold wpList at h ⊢
    have ht : (shift ds a).tmps = a.tmps := rfl
    rw [ht]
    by_cases hw : Region.wanted o (yielded all a.tmps) = true
    · rw [if_pos hw] at h ⊢
      rcases h with h | ⟨h1, a1, w1, h2⟩
      · exact .inl (Oper.wp_shift (fun a w h => wpList_shift r a w h) h)
      · refine .inr ⟨?_, shift ds a1, w1, a1, rfl, h2⟩
        unfold Oper.asks at h1 ⊢
        rw [shift_eval]; exact h1
    · rw [if_neg hw] at h ⊢
      rw [shift_put]; exact wpList_shift r _ _ h
structure TD (X : Cx) (ds : List Deferred) (c : Code) (Q : Post) (σ : Env) (L : Lst) : Prop where
  run : ∀ a w, Mod X.n a σ → Hp X.w0 X.S L w → c.wp X.P (shQ ds (X.lift Q)) (shift ds a) w
section
variable {X : Cx} {ds : List Deferred} {x y : Code} {Q : Post} {σ : Env} {L : Lst}
theorem TD.region {id : Nat} {ops : Array Oper} (h : R X ops ops.toList (Q .normal) σ L) : TD X ds (.region id ops false) Q σ L :=
  ⟨fun a w ha hw => wp_mono (wp_region_list (wpList_shift _ _ _ (h.run a w ha hw))) fun e a w ⟨a2, h1, he, σ, L, h2, h3, h4⟩ => ⟨a2, h1, σ, L, h2, h3, he ▸ h4⟩⟩
theorem TD.seq (h : TD X ds x (thenQ (fun σ L => TD X ds y Q σ L) Q) σ L) : TD X ds (.seq x y) Q σ L :=
  ⟨fun a w ha hw => wp_seq (wp_mono (h.run a w ha hw) fun e a w ⟨a2, h1, σ, L, h2, h3, h4⟩ => by
    subst h1
    cases e with
    | normal => exact h4.run a2 w h2 h3
    | _ => exact ⟨a2, rfl, σ, L, h2, h3, h4⟩)⟩
theorem TD.ret (h : Q .ret σ L) : TD X ds .ret Q σ L := ⟨fun a w ha hw => wp_ret ⟨a, rfl, σ, L, ha, hw, h⟩⟩
end
/-- The judgement over a function that holds a range over a function, up to the loop. -/
structure TF (X : Cx) (fn : Func) (Rr : Ending → World → Prop) (c : Code) (σ : Env) (L : Lst) : Prop where
  run : ∀ a w, Mod X.n a σ → Hp X.w0 X.S L w → c.wp X.P (bodyPostM Fence.wide 0 X.P fn Rr) a w
def noQ (K : Env → Lst → Prop) : Post := fun e σ L => match e with | .normal => K σ L | _ => False
theorem TF.seq {X : Cx} {fn : Func} {Rr : Ending → World → Prop} {x y : Code} {σ : Env} {L : Lst} (h : T X x (noQ fun σ L => TF X fn Rr y σ L) σ L) : TF X fn Rr (.seq x y) σ L :=
  ⟨fun a w ha hw => wp_seq (wp_mono (h.run a w ha hw) fun e a w ⟨σ, L, h2, h3, h4⟩ => by
    cases e with
    | normal => exact h4.run a w h2 h3
    | _ => exact h4.elim)⟩
/-- The loop's record as the rounds find it. -/
structure RecOk (n : Nat) (σ : Env) (p : Nat) (assign body : Code) (rec : Loop) : Prop where
  mod : Mod n { tmps := rec.tmps, defers := [] } σ
  params : rec.params = #[p]
  assign : rec.assign = assign
  body : rec.body = body
  state : rec.state = .ready
  pending : rec.pending = none
/-- Where the loop begins: what the iterator is handed (La), what its call leaves (J), and the rest of the function. -/
structure RG (X : Cx) (gf : Nat) (k p : Nat) (assign body rest : Code) (Rp : Value → Lst → Prop) (g : Operand) (σ : Env) (L : Lst) : Prop where
  ex : ∃ (lb : List Value) (La Lr : Lst) (J : Lst → Prop), Keep L (La ++ Lr) ∧ ev σ g = some (.func (.func gf) #[] lb.toArray) ∧
    (∀ l rec w, RecOk X.n σ p assign body rec → (∃ L2, Hp X.w0 X.S (((l, .loop rec) :: La) ++ L2) w) → CallM X.P gf (.func (.yield l) #[] #[] :: lb) ((l, .loop rec) :: La) w fun v L' => ∃ Lb, J Lb ∧ L' = (l, .loop rec) :: Lb) ∧
    (∀ D Lb, J Lb → TD X [{ target := .collected D, args := #[] }] rest (fun e σ' L' => e = .ret ∧ ∃ v L3, look σ' k = some v ∧ Keep L' ((D, .deferred (some [])) :: L3) ∧ Rp v L3) σ ((D, .deferred (some [])) :: (Lb ++ Lr)))
theorem TF.range {X : Cx} {fn : Func} {Rp : Value → Lst → Prop} {x rest assign body : Code} {id p k gf : Nat} {g : Operand} {σ : Env} {L : Lst} (hfn : fn.results = #[.tmp k]) (he : X.tb.fns.contains gf = true)
    (h : T X x (noQ fun σ L => RG X gf k p assign body rest Rp g σ L) σ L) :
    TF X fn (fun e w' => ∃ v L', e = .returned v ∧ Rp v L' ∧ Hp X.w0 X.S L' w') (.seq (.seq x (.block id (.rangeFunc g #[p] assign body))) rest) σ L := by
  refine ⟨fun a w ha hw => wp_seq (wp_seq (wp_mono (h.run a w ha hw) ?_))⟩
  rintro e a w ⟨σ1, L1, m1, h1, q⟩
  cases e with
  | normal =>
    obtain ⟨lb, La, Lr, J, hk, hg, hc, hr⟩ := q.ex
    refine wp_block (wpIn_wide.1 (wpIn_rangeFunc (F := Fence.wide) (n := 0) fun fnn _ => ?_))
    obtain ⟨rec, hrec⟩ : ∃ rec : Loop, rec = { state := .ready, pending := none, fn := fnn, tmps := a.tmps, params := #[p], assign, body, defers := w.heap.size } := ⟨_, rfl⟩
    have hp1 := h1.keep hk
    have hp2 := hp1.alloc (.deferred (some []))
    have hp3 := hp2.alloc (.loop rec)
    rw [World.size_alloc] at hp3
    have hok : RecOk X.n σ1 p assign body rec := by
      subst hrec
      exact ⟨⟨m1.size, rfl, m1.ok⟩, rfl, rfl, rfl, rfl, rfl⟩
    have hperm : (((w.heap.size + 1, Obj.loop rec) :: La) ++ ((w.heap.size, Obj.deferred (some [])) :: Lr)).Perm ((w.heap.size + 1, Obj.loop rec) :: (w.heap.size, Obj.deferred (some [])) :: (La ++ Lr)) := by
      rw [List.cons_append]
      exact (List.perm_middle).cons _
    have hp4 := hp3.perm hperm
    generalize hW : (w.alloc (.deferred (some []))).alloc (.loop rec) = W1 at *
    refine ⟨w.heap.size + 1, [{ target := .collected w.heap.size, args := #[] }], W1, { target := .fn (.func gf) lb.toArray, args := #[.func (.yield (w.heap.size + 1)) #[] #[]] }, W1, gf,
      (.func (.yield (w.heap.size + 1)) #[] #[] :: lb).toArray, W1, ?_, ?_, fun _ _ => trivial, ?_, fun e => (by cases e), ?_⟩
    · rw [← hW, hrec]; exact run_enterLoop_outer _ _ _ _ _
    · simp only [resolve, m1.ev hg]
      simp [go_sem]
    · have h9 := X.tb.ent he (.func (.yield (w.heap.size + 1)) #[] #[] :: lb).toArray W1
      simp only [invoke]
      simpa using h9
    · have hin : Hp W1 (blks ((w.heap.size + 1, Obj.loop rec) :: La)) ((w.heap.size + 1, Obj.loop rec) :: La) W1 := ⟨.refl _ _, fun b o hm => hp4.get b o (List.mem_append_left _ hm), (List.nodup_append.1 (by have := hp4.nod; rwa [List.map_append] at this)).1, fun b o hm => .inr (List.mem_map.2 ⟨(b, o), hm, rfl⟩)⟩
      refine callsIn_wide.2 (Calls.mono ((hc (w.heap.size + 1) rec W1 hok ⟨_, hp4⟩).run hin) ?_)
      rintro e w3 ⟨v, L', rfl, ⟨Lb, hJ, rfl⟩, h3⟩
      have hp5 := hp4.callM h3
      have hl5 := hp5.get (w.heap.size + 1) _ List.mem_cons_self
      have hlt5 : w.heap.size + 1 < w3.heap.size := (Array.getElem?_eq_some_iff.1 hl5).1
      refine ⟨none, w3.putObj (w.heap.size + 1) (.loop { rec with state := .exhausted }), by rw [run_endLoop hl5 (by rw [hok.state]; simp), hok.pending], ?_⟩
      have hp6 : Hp X.w0 X.S ((w.heap.size + 1, Obj.loop { rec with state := .exhausted }) :: (Lb ++ ((w.heap.size, Obj.deferred (some [])) :: Lr))) (w3.putObj (w.heap.size + 1) (.loop { rec with state := .exhausted })) := hp5.upd .head (Chg.setObj w3 _ (by simp)) (World.putObj_heap_same hlt5)
      have hp7 := (hp6.sub (List.sublist_cons_self _ _)).perm (List.perm_middle.symm)
      have hrun := (hr w.heap.size Lb hJ).run a _ m1 hp7
      have hsh : shift [{ target := .collected w.heap.size, args := #[] }] a = { a with defers := [{ target := .collected w.heap.size, args := #[] }] ++ a.defers } := by
        unfold shift; rw [m1.defers]; rfl
      rw [hsh] at hrun
      refine wp_mono hrun ?_
      rintro e a9 w9 ⟨a10, rfl, σ9, L9, m9, h9, rfl, v9, L10, hv9, hk9, hR9⟩
      have h10 := h9.keep hk9
      have hD := h10.get w.heap.size _ List.mem_cons_self
      have hltD : w.heap.size < w9.heap.size := (Array.getElem?_eq_some_iff.1 hD).1
      have h11 : Hp X.w0 X.S ((w.heap.size, Obj.deferred none) :: L10) (w9.putObj w.heap.size (.deferred none)) := h10.upd .head (Chg.setObj w9 _ (by simp)) (World.putObj_heap_same hltD)
      have hde : (shift [{ target := .collected w.heap.size, args := #[] }] a10).defers = [{ target := .collected w.heap.size, args := #[] }] := by
        unfold shift; simp [m9.defers]
      show LeavesInM Fence.wide 0 X.P fn _ _ _ .returning w9
      rw [hde]
      refine ⟨by simp, .inl ⟨w.heap.size, _, rfl, run_takeDeferred hD, v9, ?_, v9, L10, rfl, hR9, h11.sub (List.sublist_cons_self _ _)⟩⟩
      rw [results_tmp hfn]
      have := m9.ok k v9 hv9
      show Result.ok ((shift _ a10).tmps.getD k undef) _ = _
      rw [show (shift [{ target := Target.collected w.heap.size, args := #[] }] a10).tmps = a10.tmps from rfl, this]
  | _ => exact q.elim
theorem number_mod {fn : Func} {n : Nat} {vs : List Value} (hn : fn.ntmps = n) (hvn : vs.length ≤ n) : Mod n { tmps := vs.toArray ++ Array.replicate (fn.ntmps - vs.toArray.size) undef, defers := [] } (number 0 vs) := by
  refine ⟨by simp [hn]; omega, rfl, fun t v hv => ?_⟩
  obtain ⟨_, h2⟩ := number_look hv
  rw [Nat.sub_zero] at h2
  obtain ⟨hl, he⟩ := List.getElem?_eq_some_iff.1 h2
  have h3 : (vs.toArray ++ Array.replicate (fn.ntmps - vs.toArray.size) undef)[t]? = some v := by
    rw [Array.getElem?_append, if_pos (by simpa using hl)]; simpa using h2
  simp only [Array.getD]
  obtain ⟨h4, h5⟩ := Array.getElem?_eq_some_iff.1 h3
  rw [dif_pos h4]; exact h5
theorem enterF {P : Program} (tb : Tb P) {f : FuncId} {fn : Func} {c : Code} {vs : List Value} {n : Nat} {R1 : Value → Lst → Prop} {w : World} {L : Lst}
    (hf : P.funcs[f]? = some fn) (hb : fn.body = some c) (hn : fn.ntmps = n) (hvn : Nat.ble vs.length n = true)
    (h : TF ⟨P, tb, n, w, blks L⟩ fn (fun e w' => ∃ v L', e = .returned v ∧ R1 v L' ∧ Hp w (blks L) L' w') c (number 0 vs) L) : CallM P f vs L w R1 := by
  refine ⟨fun hw => callsIn_wide.1 (callsIn_of_wp_marks (F := Fence.wide) (n := 0) hf hb trivial (wpIn_wide.2 (h.run _ w ?_ hw)))⟩
  exact number_mod hn (Nat.le_of_ble_eq_true hvn)
end Go.Proofs.Ytligpachgcmkcaa
