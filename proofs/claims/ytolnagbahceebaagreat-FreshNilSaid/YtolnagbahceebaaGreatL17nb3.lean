/- Texts of the proof: Eng20, Sl6, Rv3, Rv4, Rv5, Rv6, Rv7, Rv8, Rv9, Rs1, Rb3, Rp1, Dn1, Rd6, Eng30, Rr1. -/
import Derived.Test.YtolnagbahceebaaGreatL17nb2
import Derived.RangeFuncRecord
import Derived.TacticsIn
import Derived.OrdersIn
set_option linter.unusedSimpArgs false
set_option linter.unusedVariables false
set_option linter.unusedSectionVars false
namespace Go.Proofs.YtolnagbahceebaaGreat
open Go.RowKit Go.Shelf
/-- Where a walk goes: anywhere, or in a round of the loop l. -/
def fen : Option Nat → Fence
  | none => Fence.wide
  | some l => Fence.wide.inRound l
theorem fen_fn (ro : Option Nat) (f : Nat) : (fen ro).fn f := by cases ro <;> trivial
theorem fen_depth (ro : Option Nat) : (fen ro).depth = none := by cases ro <;> rfl
theorem fen_round (ro : Option Nat) : (fen ro).round = ro := by cases ro <;> rfl
theorem fen_calls {ro : Option Nat} {n : Nat} {P : Program} {f : FuncId} {args : Array Value} {w : World} {R : Ending → World → Prop} (h : Calls P f args w R) : CallsIn (fen ro) n P f args w R := by
  cases ro with
  | none => exact callsIn_wide.2 h
  | some l => exact ⟨trivial, ((callsIn_wide (n := n)).2 h).2⟩
theorem fen_rows {ro : Option Nat} {n : Nat} {P : Program} {row : String} {args : Array Value} {w : World} {R : Value → World → Prop} (h : Rows P row args w R) : RowsIn (fen ro) n P row args w R := by
  intro c cs _
  obtain ⟨v, w', r, s⟩ := h c cs
  refine ⟨v, w', r, ?_⟩
  cases ro with
  | none => exact stepsIn_wide.2 s
  | some l => rw [show Machine.fenced P (fen (some l)) = Machine.fenced P Fence.wide from rfl]; exact stepsIn_wide.2 s
def noDefer (o : Oper) : Bool := match o.op with | .defer _ => false | _ => true
theorem noDefer_spec {o : Oper} (h : noDefer o = true) : ∀ c, o.op ≠ .defer c := by
  intro c e; unfold noDefer at h; rw [e] at h; cases h
theorem Oper.up_fen {ro : Option Nat} {n : Nat} {P : Program} {o : Oper} {a : Act} {next : Act → World → Prop} {Q : Exit → Act → World → Prop} {r : Result Next} (h : o.upon P a next Q r) : o.uponIn (fen ro) n P a next Q r := by
  cases r with
  | ok m w' =>
    cases m with
    | enter f args => exact ⟨fun e => (by rw [fen_depth] at e; cases e), fen_calls h⟩
    | row f args => exact ⟨fun e => (by rw [fen_depth] at e; cases e), fen_rows h⟩
    | round => exact h.elim
    | value v => exact h
    | skip => exact h
    | defer d => exact h
    | _ => exact h.elim
  | halt x w' => cases x <;> first | exact h | exact h.elim
theorem Oper.wp_fen {ro : Option Nat} {n : Nat} {P : Program} {o : Oper} {a : Act} {w : World} {next : Act → World → Prop} {Q : Exit → Act → World → Prop} (hd : noDefer o = true) (h : o.wp P a w next Q) : o.wpIn (fen ro) n P a w next Q := by
  refine ⟨fun f _ => fen_fn ro f, ?_⟩
  rw [fen_round, Oper.semAt_eq _ _ _ (noDefer_spec hd)]
  exact Oper.up_fen h

/-- The judgement over a region's operations at such a fence. -/
structure RI (X : Cx) (ro : Option Nat) (all : Array Oper) (l : List Oper) (K : Env → Lst → Prop) (σ : Env) (L : Lst) : Prop where
  run : ∀ a w, Mod X.n a σ → Hp X.w0 X.S L w → wpListIn (fen ro) 0 X.P all (X.liftK K) l a w
section
variable {X : Cx} {ro : Option Nat} {all : Array Oper} {rest : List Oper} {K : Env → Lst → Prop} {σ : Env} {L : Lst} {o : Oper} {Q : Post}
theorem RI.nil (h : K σ L) : RI X ro all [] K σ L := ⟨fun a w ha hw => ⟨rfl, σ, L, ha, hw, h⟩⟩
theorem RI.step (hd : noDefer o = true) (h : R X all [o] (fun σ' L' => RI X ro all rest K σ' L') σ L) : RI X ro all (o :: rest) K σ L := by
  refine ⟨fun a w ha hw => ?_⟩
  have h1 := h.run a w ha hw
  have hnil : ∀ a' w', wpList X.P all (X.liftK fun σ' L' => RI X ro all rest K σ' L') [] a' w' → wpListIn (fen ro) 0 X.P all (X.liftK K) rest a' w' := by
    rintro a' w' ⟨_, σ', L', h2, h3, h4⟩
    exact h4.run a' w' h2 h3
  unfold wpList at h1
  unfold wpListIn
  by_cases hwd : Region.wanted o (yielded all a.tmps) = true
  · rw [if_pos hwd] at h1 ⊢
    rcases h1 with h1 | ⟨_, a, w, h1⟩
    · exact Oper.wp_fen hd (Oper.wp_change hnil (fun c a w h => by cases h.1) (fun ⟨a, w, h⟩ => by cases h.1) h1)
    · cases h1.1
  · rw [if_neg hwd] at h1 ⊢
    exact ⟨fun f _ => fen_fn ro f, hnil _ _ h1⟩
theorem T.regionIn {id : Nat} {ops : Array Oper} (h : RI X none ops ops.toList (Q .normal) σ L) : T X (.region id ops false) Q σ L :=
  ⟨fun a w ha hw => wpIn_wide.1 (Go.wpIn_mono (wpIn_region_list (h.run a w ha hw)) fun e a w ⟨he, σ, L, h1, h2, h3⟩ => ⟨σ, L, h1, h2, he ▸ h3⟩)⟩
end
/-- A call of yield: what a round does to the known blocks. -/
structure YieldM (P : Program) (l : Nat) (args : List Value) (L : Lst) (w : World) (R1 : Value → Lst → Prop) : Prop where
  run : Hp w (blks L) L w → ∃ fn tmps assign body, (Instr.yield l args.toArray).run P w = .ok (.round l fn tmps assign body) w ∧ RoundIn Fence.wide 0 P l fn tmps assign body w fun e w' => ∃ v L', e = .returned v ∧ R1 v L' ∧ Hp w (blks L) L' w'
theorem RI.yield {X : Cx} {all : Array Oper} {rest : List Oper} {K : Env → Lst → Prop} {σ : Env} {L Li Lr : Lst} {dd l : Nat} {ty : TypeId} {pos : String} {af : Array Edge} {c : Operand} {xs : List Operand} {vs : List Value} {ats : Array TypeId} {R1 : Value → Lst → Prop}
    (hcv : ev σ c = some (.func (.yield l) #[] #[])) (hx : evs σ xs = some vs) (hn : Nat.blt dd X.n = true) (hp : Ext L Li Lr) (hc : ∀ w, Hp X.w0 X.S L w → YieldM X.P l vs Li w R1) (h : ∀ v Lo, R1 v Lo → RI X none all rest K ((dd, v) :: σ) (Lo ++ Lr)) :
    RI X none all (⟨some dd, .call { callee := .value c, args := xs.toArray, argTypes := ats }, ty, pos, af, none⟩ :: rest) K σ L := by
  refine ⟨fun a w ha hw => wpListIn_plain rfl fun K' hK' => ⟨fun f _ => trivial, ?_⟩⟩
  have hw2 := hw.perm hp.perm
  have hin : Hp w (blks Li) Li w := ⟨.refl _ _, fun b o hm => hw2.get b o (List.mem_append_left _ hm), (List.nodup_append.1 (by have := hw2.nod; rwa [List.map_append] at this)).1, fun b o hm => .inr (List.mem_map.2 ⟨(b, o), hm, rfl⟩)⟩
  obtain ⟨fn, tmps, assign, body, hy, hR⟩ := (hc w hw).run hin
  have hm : xs.toArray.map a.eval = vs.toArray := by rw [List.map_toArray, evs_map ha hx]
  have hr : (Oper.semAt (fen none).round a.eval { dst := some dd, op := .call { callee := .value c, args := xs.toArray, argTypes := ats }, type := ty, pos := pos, after := af, guard := none }).run X.P w = .ok (.round l fn tmps assign body) w := by
    rw [fen_round, Oper.semAt_none]
    simp only [execOp, resolve, ha.ev hcv, hm, Deferred.ofValue, Sem.run_bind, Sem.run_pure, Result.andThen_ok, invoke, Array.append_empty, Array.empty_append, List.append_toArray, List.nil_append]
    simpa using hy
  rw [hr, Oper.uponIn_round]
  refine ⟨fun e => (by rw [fen_depth] at e; cases e), hR.mono ?_⟩
  rintro e w' ⟨v, L', rfl, h2, h3⟩
  exact hK' _ _ ((h v L' h2).run _ _ (ha.put (blt_lt hn) v) (hw2.callM h3))

/-- What a round's contract is made of: the assignments to the loop's variables, then the body. -/
theorem YieldM.of {P : Program} {tb : Tb P} {n l p ia ib rb : Nat} {rec : Loop} {aops bops : Array Oper} {σ : Env} {u : Value} {Li : Lst} {w : World} {R1 : Lst → Prop}
    (hm : Mod n { tmps := rec.tmps, defers := [] } σ) (hp : rec.params = #[p]) (hpn : p < n) (ha : rec.assign = .region ia aops false) (hb : rec.body = .block ib (.region rb bops false)) (hst : rec.state = .ready) (hpe : rec.pending = none)
    (h : RI ⟨P, tb, n, w, l :: blks Li⟩ (some l) aops aops.toList (fun σ2 L2 => ∃ L3, Keep L2 ((l, .loop rec) :: L3) ∧ RI ⟨P, tb, n, w, l :: blks Li⟩ (some l) bops bops.toList (fun σ4 L4 => ∃ L5, Keep L4 ((l, .loop { rec with state := .busy }) :: L5) ∧ R1 L5) σ2 ((l, .loop { rec with state := .busy }) :: L3)) ((p, u) :: σ) ((l, .loop rec) :: Li)) :
    YieldM P l [u] ((l, .loop rec) :: Li) w fun v L => v = .bool true ∧ ∃ L5, R1 L5 ∧ L = (l, .loop rec) :: L5 := by
  refine ⟨fun hw => ?_⟩
  have hl := hw.get l _ List.mem_cons_self
  refine ⟨_, _, _, _, run_yield hl (by rw [hp]; rfl), roundIn_of_wpIn trivial ?_⟩
  have hm' : Mod n { tmps := ((rec.params.zip #[u]).foldl (fun t (q, v) => t.setIfInBounds q v) rec.tmps), defers := [] } ((p, u) :: σ) := by
    have := hm.put hpn u
    rw [hp]
    simpa [Act.put] using this
  rw [ha, hb]
  refine Go.wpIn_mono (wpIn_region_list (h.run _ w hm' hw)) ?_
  rintro e a1 w1 ⟨rfl, σ2, L2, m2, h2, L3, hk, hbody⟩
  have h3 := h2.keep hk
  have hl1 := h3.get l _ List.mem_cons_self
  have hlt : l < w1.heap.size := (Array.getElem?_eq_some_iff.1 hl1).1
  refine ⟨_, run_beginRound hl1 hst, ?_⟩
  have h4 : Hp w (l :: blks Li) ((l, .loop { rec with state := .busy }) :: L3) (w1.putObj l (.loop { rec with state := .busy })) := h3.upd .head (Chg.setObj w1 _ (by simp)) (World.putObj_heap_same hlt)
  have hbl : (Code.region rb bops false).wpIn (Fence.wide.inRound l) 0 P (Exit.inBlock ib (roundPost P l fun e w' => ∃ v L', e = .returned v ∧ (v = .bool true ∧ ∃ L5, R1 L5 ∧ L' = (l, .loop rec) :: L5) ∧ Hp w (blks ((l, .loop rec) :: Li)) L' w')) a1 (w1.putObj l (.loop { rec with state := .busy })) := by
    refine Go.wpIn_mono (wpIn_region_list (hbody.run _ _ m2 h4)) ?_
    rintro e a5 w5 ⟨rfl, σ4, L4, m4, h5, L5, hk5, hR5⟩
    have h6 := h5.keep hk5
    have hl5 := h6.get l _ List.mem_cons_self
    have hlt5 : l < w5.heap.size := (Array.getElem?_eq_some_iff.1 hl5).1
    refine ⟨_, _, run_endRound none hl5, .bool true, (l, .loop rec) :: L5, rfl, ⟨rfl, L5, hR5, rfl⟩, ?_⟩
    have he : ({ { rec with state := LoopState.busy } with state := if (none : Option Code).isNone then .ready else .done, pending := none } : Loop) = rec := by
      cases rec; simp only at hst hpe; subst hst; subst hpe; rfl
    rw [he]
    exact h6.upd .head (Chg.setObj w5 _ (by simp)) (World.putObj_heap_same hlt5)
  exact wpIn_block hbl

def shift (ds : List Deferred) (a : Act) : Act := { a with defers := a.defers ++ ds }
theorem shift_eval (ds : List Deferred) (a : Act) : (shift ds a).eval = a.eval := by
  funext x; cases x <;> rfl
theorem shift_put (ds : List Deferred) (a : Act) (d : Option Tmp) (v : Value) : (shift ds a).put d v = shift ds (a.put d v) := by cases d <;> rfl
def shQ (ds : List Deferred) (Q : Exit → Act → World → Prop) : Exit → Act → World → Prop := fun e a' w' => ∃ a'', a' = shift ds a'' ∧ Q e a'' w'
theorem Oper.wp_shift {P : Program} {ds : List Deferred} {o : Oper} {a : Act} {w : World} {next next' : Act → World → Prop} {Q : Exit → Act → World → Prop} (hn : ∀ a w, next a w → next' (shift ds a) w) (h : o.wp P a w next Q) : o.wp P (shift ds a) w next' (shQ ds Q) := by
  unfold Oper.wp at h ⊢
  rw [shift_eval]
  generalize (execOp a.eval o).run P w = r at *
  cases r with
  | ok m w' =>
    cases m with
    | value v => rw [Oper.upon_value] at h ⊢; rw [shift_put]; exact hn _ _ h
    | skip => rw [Oper.upon_skip] at h ⊢; rw [shift_put]; exact hn _ _ h
    | defer d =>
      rw [Oper.upon_defer] at h ⊢
      have := hn _ _ h
      rw [← shift_put] at this
      exact this
    | enter f args =>
      rw [Oper.upon_enter] at h ⊢
      refine Calls.mono h fun e w'' he => ?_
      cases e with
      | returned v => simp only at he ⊢; rw [shift_put]; exact hn _ _ he
      | panicked c => exact ⟨a, rfl, he⟩
      | outgrown => obtain ⟨a1, w1, h1⟩ := he; exact ⟨shift ds a1, w1, a1, rfl, h1⟩
    | row f args =>
      refine Rows.mono (h : Rows P f args w' _) fun v w'' he => ?_
      rw [shift_put]; exact hn _ _ he
    | _ => exact h.elim
  | halt x w' => cases x <;> first | exact ⟨a, rfl, h⟩ | exact h.elim
theorem wpList_shift {P : Program} {ds : List Deferred} {all : Array Oper} {Q : Exit → Act → World → Prop} : ∀ (l : List Oper) (a : Act) (w : World), wpList P all Q l a w → wpList P all (shQ ds Q) l (shift ds a) w
  | [], a, w, h => ⟨a, rfl, h⟩
  | o :: r, a, w, h => by
    unfold wpList at h ⊢
    have ht : (shift ds a).tmps = a.tmps := rfl
    rw [ht]
    by_cases hw : Region.wanted o (yielded all a.tmps) = true
    · rw [if_pos hw] at h ⊢
      rcases h with h | ⟨h1, a1, w1, h2⟩
      · exact .inl (Oper.wp_shift (fun a w h => wpList_shift r a w h) h)
      · refine .inr ⟨?_, shift ds a1, w1, a1, rfl, h2⟩
        unfold Oper.asks at h1 ⊢
        rw [shift_eval]; exact h1
    · rw [if_neg hw] at h ⊢
      rw [shift_put]; exact wpList_shift r _ _ h
structure TD (X : Cx) (ds : List Deferred) (c : Code) (Q : Post) (σ : Env) (L : Lst) : Prop where
  run : ∀ a w, Mod X.n a σ → Hp X.w0 X.S L w → c.wp X.P (shQ ds (X.lift Q)) (shift ds a) w
section
variable {X : Cx} {ds : List Deferred} {x y : Code} {Q : Post} {σ : Env} {L : Lst}
theorem TD.region {id : Nat} {ops : Array Oper} (h : R X ops ops.toList (Q .normal) σ L) : TD X ds (.region id ops false) Q σ L :=
  ⟨fun a w ha hw => wp_mono (wp_region_list (wpList_shift _ _ _ (h.run a w ha hw))) fun e a w ⟨a2, h1, he, σ, L, h2, h3, h4⟩ => ⟨a2, h1, σ, L, h2, h3, he ▸ h4⟩⟩
theorem TD.seq (h : TD X ds x (thenQ (fun σ L => TD X ds y Q σ L) Q) σ L) : TD X ds (.seq x y) Q σ L :=
  ⟨fun a w ha hw => wp_seq (wp_mono (h.run a w ha hw) fun e a w ⟨a2, h1, σ, L, h2, h3, h4⟩ => by
    subst h1
    cases e with
    | normal => exact h4.run a2 w h2 h3
    | _ => exact ⟨a2, rfl, σ, L, h2, h3, h4⟩)⟩
theorem TD.ret (h : Q .ret σ L) : TD X ds .ret Q σ L := ⟨fun a w ha hw => wp_ret ⟨a, rfl, σ, L, ha, hw, h⟩⟩
end
/-- The judgement over a function that holds a range over a function, up to the loop. -/
structure TF (X : Cx) (fn : Func) (Rr : Ending → World → Prop) (c : Code) (σ : Env) (L : Lst) : Prop where
  run : ∀ a w, Mod X.n a σ → Hp X.w0 X.S L w → c.wp X.P (bodyPostM Fence.wide 0 X.P fn Rr) a w
def noQ (K : Env → Lst → Prop) : Post := fun e σ L => match e with | .normal => K σ L | _ => False
theorem TF.seq {X : Cx} {fn : Func} {Rr : Ending → World → Prop} {x y : Code} {σ : Env} {L : Lst} (h : T X x (noQ fun σ L => TF X fn Rr y σ L) σ L) : TF X fn Rr (.seq x y) σ L :=
  ⟨fun a w ha hw => wp_seq (wp_mono (h.run a w ha hw) fun e a w ⟨σ, L, h2, h3, h4⟩ => by
    cases e with
    | normal => exact h4.run a w h2 h3
    | _ => exact h4.elim)⟩
/-- The loop's record as the rounds find it. -/
structure RecOk (n : Nat) (σ : Env) (p : Nat) (assign body : Code) (rec : Loop) : Prop where
  mod : Mod n { tmps := rec.tmps, defers := [] } σ
  params : rec.params = #[p]
  assign : rec.assign = assign
  body : rec.body = body
  state : rec.state = .ready
  pending : rec.pending = none
/-- Where the loop begins: what the iterator is handed (La), what its call leaves (J), and the rest of the function. -/
structure RG (X : Cx) (gf : Nat) (k p : Nat) (assign body rest : Code) (Rp : Value → Lst → Prop) (g : Operand) (σ : Env) (L : Lst) : Prop where
  ex : ∃ (lb : List Value) (La Lr : Lst) (J : Lst → Prop), Keep L (La ++ Lr) ∧ ev σ g = some (.func (.func gf) #[] lb.toArray) ∧
    (∀ l rec w, RecOk X.n σ p assign body rec → (∃ L2, Hp X.w0 X.S (((l, .loop rec) :: La) ++ L2) w) → CallM X.P gf (.func (.yield l) #[] #[] :: lb) ((l, .loop rec) :: La) w fun v L' => ∃ Lb, J Lb ∧ L' = (l, .loop rec) :: Lb) ∧
    (∀ D Lb, J Lb → TD X [{ target := .collected D, args := #[] }] rest (fun e σ' L' => e = .ret ∧ ∃ v L3, look σ' k = some v ∧ Keep L' ((D, .deferred (some [])) :: L3) ∧ Rp v L3) σ ((D, .deferred (some [])) :: (Lb ++ Lr)))
theorem TF.range {X : Cx} {fn : Func} {Rp : Value → Lst → Prop} {x rest assign body : Code} {id p k gf : Nat} {g : Operand} {σ : Env} {L : Lst} (hfn : fn.results = #[.tmp k]) (he : X.tb.fns.contains gf = true)
    (h : T X x (noQ fun σ L => RG X gf k p assign body rest Rp g σ L) σ L) :
    TF X fn (fun e w' => ∃ v L', e = .returned v ∧ Rp v L' ∧ Hp X.w0 X.S L' w') (.seq (.seq x (.block id (.rangeFunc g #[p] assign body))) rest) σ L := by
  refine ⟨fun a w ha hw => wp_seq (wp_seq (wp_mono (h.run a w ha hw) ?_))⟩
  rintro e a w ⟨σ1, L1, m1, h1, q⟩
  cases e with
  | normal =>
    obtain ⟨lb, La, Lr, J, hk, hg, hc, hr⟩ := q.ex
    refine wp_block (wpIn_wide.1 (wpIn_rangeFunc (F := Fence.wide) (n := 0) fun fnn _ => ?_))
    obtain ⟨rec, hrec⟩ : ∃ rec : Loop, rec = { state := .ready, pending := none, fn := fnn, tmps := a.tmps, params := #[p], assign, body, defers := w.heap.size } := ⟨_, rfl⟩
    have hp1 := h1.keep hk
    have hp2 := hp1.alloc (.deferred (some []))
    have hp3 := hp2.alloc (.loop rec)
    rw [World.size_alloc] at hp3
    have hok : RecOk X.n σ1 p assign body rec := by
      subst hrec
      exact ⟨⟨m1.size, rfl, m1.ok⟩, rfl, rfl, rfl, rfl, rfl⟩
    have hperm : (((w.heap.size + 1, Obj.loop rec) :: La) ++ ((w.heap.size, Obj.deferred (some [])) :: Lr)).Perm ((w.heap.size + 1, Obj.loop rec) :: (w.heap.size, Obj.deferred (some [])) :: (La ++ Lr)) := by
      rw [List.cons_append]
      exact (List.perm_middle).cons _
    have hp4 := hp3.perm hperm
    generalize hW : (w.alloc (.deferred (some []))).alloc (.loop rec) = W1 at *
    refine ⟨w.heap.size + 1, [{ target := .collected w.heap.size, args := #[] }], W1, { target := .fn (.func gf) lb.toArray, args := #[.func (.yield (w.heap.size + 1)) #[] #[]] }, W1, gf,
      (.func (.yield (w.heap.size + 1)) #[] #[] :: lb).toArray, W1, ?_, ?_, fun _ _ => trivial, ?_, fun e => (by cases e), ?_⟩
    · rw [← hW, hrec]; exact run_enterLoop_outer _ _ _ _ _
    · simp only [resolve, m1.ev hg]
      simp [go_sem]
    · have h9 := X.tb.ent he (.func (.yield (w.heap.size + 1)) #[] #[] :: lb).toArray W1
      simp only [invoke]
      simpa using h9
    · have hin : Hp W1 (blks ((w.heap.size + 1, Obj.loop rec) :: La)) ((w.heap.size + 1, Obj.loop rec) :: La) W1 := ⟨.refl _ _, fun b o hm => hp4.get b o (List.mem_append_left _ hm), (List.nodup_append.1 (by have := hp4.nod; rwa [List.map_append] at this)).1, fun b o hm => .inr (List.mem_map.2 ⟨(b, o), hm, rfl⟩)⟩
      refine callsIn_wide.2 (Calls.mono ((hc (w.heap.size + 1) rec W1 hok ⟨_, hp4⟩).run hin) ?_)
      rintro e w3 ⟨v, L', rfl, ⟨Lb, hJ, rfl⟩, h3⟩
      have hp5 := hp4.callM h3
      have hl5 := hp5.get (w.heap.size + 1) _ List.mem_cons_self
      have hlt5 : w.heap.size + 1 < w3.heap.size := (Array.getElem?_eq_some_iff.1 hl5).1
      refine ⟨none, w3.putObj (w.heap.size + 1) (.loop { rec with state := .exhausted }), by rw [run_endLoop hl5 (by rw [hok.state]; simp), hok.pending], ?_⟩
      have hp6 : Hp X.w0 X.S ((w.heap.size + 1, Obj.loop { rec with state := .exhausted }) :: (Lb ++ ((w.heap.size, Obj.deferred (some [])) :: Lr))) (w3.putObj (w.heap.size + 1) (.loop { rec with state := .exhausted })) := hp5.upd .head (Chg.setObj w3 _ (by simp)) (World.putObj_heap_same hlt5)
      have hp7 := (hp6.sub (List.sublist_cons_self _ _)).perm (List.perm_middle.symm)
      have hrun := (hr w.heap.size Lb hJ).run a _ m1 hp7
      have hsh : shift [{ target := .collected w.heap.size, args := #[] }] a = { a with defers := [{ target := .collected w.heap.size, args := #[] }] ++ a.defers } := by
        unfold shift; rw [m1.defers]; rfl
      rw [hsh] at hrun
      refine wp_mono hrun ?_
      rintro e a9 w9 ⟨a10, rfl, σ9, L9, m9, h9, rfl, v9, L10, hv9, hk9, hR9⟩
      have h10 := h9.keep hk9
      have hD := h10.get w.heap.size _ List.mem_cons_self
      have hltD : w.heap.size < w9.heap.size := (Array.getElem?_eq_some_iff.1 hD).1
      have h11 : Hp X.w0 X.S ((w.heap.size, Obj.deferred none) :: L10) (w9.putObj w.heap.size (.deferred none)) := h10.upd .head (Chg.setObj w9 _ (by simp)) (World.putObj_heap_same hltD)
      have hde : (shift [{ target := .collected w.heap.size, args := #[] }] a10).defers = [{ target := .collected w.heap.size, args := #[] }] := by
        unfold shift; simp [m9.defers]
      show LeavesInM Fence.wide 0 X.P fn _ _ _ .returning w9
      rw [hde]
      refine ⟨by simp, .inl ⟨w.heap.size, _, rfl, run_takeDeferred hD, v9, ?_, v9, L10, rfl, hR9, h11.sub (List.sublist_cons_self _ _)⟩⟩
      rw [results_tmp hfn]
      have := m9.ok k v9 hv9
      show Result.ok ((shift _ a10).tmps.getD k undef) _ = _
      rw [show (shift [{ target := Target.collected w.heap.size, args := #[] }] a10).tmps = a10.tmps from rfl, this]
  | _ => exact q.elim
theorem number_mod {fn : Func} {n : Nat} {vs : List Value} (hn : fn.ntmps = n) (hvn : vs.length ≤ n) : Mod n { tmps := vs.toArray ++ Array.replicate (fn.ntmps - vs.toArray.size) undef, defers := [] } (number 0 vs) := by
  refine ⟨by simp [hn]; omega, rfl, fun t v hv => ?_⟩
  obtain ⟨_, h2⟩ := number_look hv
  rw [Nat.sub_zero] at h2
  obtain ⟨hl, he⟩ := List.getElem?_eq_some_iff.1 h2
  have h3 : (vs.toArray ++ Array.replicate (fn.ntmps - vs.toArray.size) undef)[t]? = some v := by
    rw [Array.getElem?_append, if_pos (by simpa using hl)]; simpa using h2
  simp only [Array.getD]
  obtain ⟨h4, h5⟩ := Array.getElem?_eq_some_iff.1 h3
  rw [dif_pos h4]; exact h5
theorem enterF {P : Program} (tb : Tb P) {f : FuncId} {fn : Func} {c : Code} {vs : List Value} {n : Nat} {R1 : Value → Lst → Prop} {w : World} {L : Lst}
    (hf : P.funcs[f]? = some fn) (hb : fn.body = some c) (hn : fn.ntmps = n) (hvn : Nat.ble vs.length n = true)
    (h : TF ⟨P, tb, n, w, blks L⟩ fn (fun e w' => ∃ v L', e = .returned v ∧ R1 v L' ∧ Hp w (blks L) L' w') c (number 0 vs) L) : CallM P f vs L w R1 := by
  refine ⟨fun hw => callsIn_wide.1 (callsIn_of_wp_marks (F := Fence.wide) (n := 0) hf hb trivial (wpIn_wide.2 (h.run _ w ?_ hw)))⟩
  exact number_mod hn (Nat.le_of_ble_eq_true hvn)
set_option maxRecDepth 100000
theorem CallM.to {P : Program} {f : FuncId} {vs : List Value} {L : Lst} {w : World} {R R' : Value → Lst → Prop} (h : CallM P f vs L w R) (hr : ∀ v L, R v L → R' v L) : CallM P f vs L w R' :=
  ⟨fun hw => (h.run hw).mono fun e w' ⟨v, L', h1, h2, h3⟩ => ⟨v, L', h1, hr _ _ h2, h3⟩⟩
theorem ivalues_ok (p : Option Addr) (n cap : Nat) (w : World) : CallM Tryz.prog 161 [.slice p n cap] [] w fun v L => ∃ cb, v = .func (.func 209) #[] #[.pointer (some ⟨cb, 0, none⟩)] ∧ L = [(cb, .cells ⟨[.slice p n cap]⟩ 39 (0, 0))] := by
  refine enterK (tb := tb) Tryz.func161 rfl Tryz.ntmps161 rfl ?_
  repeat' (first | (apply R.is1; first | (apply R.pure; exact rfl; first | (apply Ok1.assign; exact rfl) | (apply Ok1.makeFunc; exact rfl; exact rfl)) | (apply R.box; (iterate 3 exact rfl); intro)) | apply R.nil | (apply T.is; first | apply T.seq | apply T.region | apply T.ret))
  (apply RetOk.t; exact rfl)
  exact ⟨_, by (focus (repeat' first | exact Keep.nil _ | exact Ext.one _ _ | apply Keep.cons); done), _, rfl, rfl⟩
theorem ivalues1_ok {β : Type} (I : Nat → β → Prop) (Li : Nat → β → Lst) (l : Nat) (o : Obj) (cb : Nat) (p : Option Addr) (n cap : Nat) (xs : List Int) (hn : n = xs.length) (hbig : n ≤ 1000000000) (y0 : β) (h0 : I 0 y0)
    (hY : ∀ i y x w, I i y → xs[i]? = some x → YieldM Tryz.prog l [.int .i64 x] ((l, o) :: Li i y) w fun v L => v = .bool true ∧ ∃ L5, (∃ y', I (i + 1) y' ∧ L5 = Li (i + 1) y') ∧ L = (l, o) :: L5) (w : World) (hp : RdSl w p iV xs) (hoff : xs ≠ [] → Off p (blks ((l, o) :: (cb, .cells ⟨[.slice p n cap]⟩ 39 (0, 0)) :: Li 0 y0))) :
    CallM Tryz.prog 209 [.func (.yield l) #[] #[], .pointer (some ⟨cb, 0, none⟩)] ((l, o) :: (cb, .cells ⟨[.slice p n cap]⟩ 39 (0, 0)) :: Li 0 y0) w fun v L => ∃ y, I n y ∧ L = (l, o) :: (cb, .cells ⟨[.slice p n cap]⟩ 39 (0, 0)) :: Li n y := by
  subst hn
  refine enterK (tb := tb) Tryz.func209 rfl Tryz.ntmps209 rfl ?_
  repeat' (first | (apply R.is1; first | (apply R.isCall; (apply R.pure; exact rfl; (apply Ok1.lenS; (iterate 3 exact rfl)))) | (apply R.pure; exact rfl; first | (apply Ok1.move; exact rfl) | (apply Ok1.load; exact rfl; (apply Ld.own1; exact rfl; exact rfl; (focus (repeat' first | exact At.head | apply At.tail); done); exact rfl)))) | apply R.nil | (apply T.is; first | apply T.seq | apply T.region | apply T.block))
  apply T.loopK (α := Nat × β) (I := fun x => x.1 ≤ xs.length ∧ I x.1 x.2) (σi := fun x => [(0, .func (.yield l) #[] #[]), (5, .slice p xs.length cap), (6, .int .i64 xs.length), (7, .int .i64 x.1)])
    (Li := fun x => (l, o) :: (cb, .cells ⟨[.slice p xs.length cap]⟩ 39 (0, 0)) :: (Li x.1 x.2 ++ [])) (μ := fun x => xs.length - x.1) (i0 := (0, y0))
  · exact ⟨Nat.zero_le _, h0⟩
  · exact ⟨rfl, rfl, rfl, rfl, trivial⟩
  · simp only [List.append_nil]
    (focus (repeat' first | exact Ext.one _ _ | exact Ext.all _ | apply Keep.cons | apply Keep.last); done)
  · rintro ⟨i, y⟩ ⟨hi, hI⟩
    simp only at hi hI ⊢
    rcases Nat.lt_or_ge i xs.length with hlt | hge
    · obtain ⟨x, hx⟩ : ∃ x, xs[i]? = some x := ⟨_, List.getElem?_eq_getElem (by omega)⟩
      have hne : xs ≠ [] := by intro e; rw [e] at hlt; simp at hlt
      obtain ⟨b, ob, hpe, H⟩ := hp.at hx
      replace H := H 1 iV_len
      have hnb : b ∉ blks ((l, o) :: (cb, .cells ⟨[.slice p xs.length cap]⟩ 39 (0, 0)) :: Li 0 y0) := by
        have := hoff hne
        rw [hpe] at this
        exact this _ rfl
      repeat' (first | (apply RI.yield; (iterate 3 exact rfl); (focus (exact Ext.two _ (Ext.one _ _) (Ext.cons _ (Ext.here _ _)))); intro w1 hw1; exact hY i y x w1 hI hx; rintro v Lo ⟨rfl, L5, ⟨y', hI', rfl⟩, rfl⟩) | (apply R.is1; first | (apply R.isBin; (apply R.pure; exact rfl; first | (apply Ok1.add64; exact rfl; exact rfl; omega; omega) | (apply Ok1.lss_t; exact rfl; exact rfl; omega))) | (apply R.pure; exact rfl; first | (apply Ok1.indexAddrP; (iterate 4 exact rfl); exact hpe; exact rfl; omega; omega) | (apply Ok1.load; exact rfl; apply Ld.row0 H; exact rfl; exact hnb; (iterate 3 exact rfl)) | (apply Ok1.move; exact rfl) | (apply Ok1.assign; exact rfl) | (apply Ok1.not_t; exact rfl))) | apply R.nil | (apply T.is; first | apply T.regionIn (id := 3) | apply T.seq | apply T.region | apply T.block | apply T.skip | (apply T.cond_t; exact rfl) | (apply T.cond_f; exact rfl)) | (apply RI.step; exact rfl) | apply RI.nil)
      refine ⟨(i + 1, y'), ⟨by simp only; omega, hI'⟩, by simp only; omega, ⟨rfl, rfl, rfl, rfl, trivial⟩, ?_⟩
      simp only [List.append_nil, List.cons_append]
      (focus (repeat' first | exact Ext.one _ _ | exact Ext.here _ _ | apply Keep.cons | apply Keep.last | apply Ext.app); done)
    · have him : i = xs.length := by omega
      subst him
      repeat' (first | (apply R.is1; (apply R.isBin; (apply R.pure; exact rfl; (apply Ok1.lss_f; exact rfl; exact rfl; omega)))) | apply R.nil | (apply T.is; first | apply T.seq | apply T.region | apply T.exit | (apply T.cond_f; exact rfl)))
      (apply RetOk.n)
      exact ⟨_, by simp only [List.append_nil]; (focus (repeat' first | exact Ext.one _ _ | exact Ext.all _ | apply Keep.cons | apply Keep.last); done), y, hI, rfl⟩
theorem appendSeq_ok (cb : Nat) (p : Option Addr) (n cap : Nat) (xs : List Int) (hn : n = xs.length) (hbig : n ≤ 1000000) (w : World) (hp : RdSl w p iV xs) (hoff : xs ≠ [] → Off p [cb]) :
    CallM Tryz.prog 250 [.slice none 0 0, .func (.func 209) #[] #[.pointer (some ⟨cb, 0, none⟩)]] [(cb, .cells ⟨[.slice p n cap]⟩ 39 (0, 0))] w fun v L => ∃ ov, OvOk 1 ov n (iis xs) ∧ v = slV ov n ∧ L = (cb, .cells ⟨[.slice p n cap]⟩ 39 (0, 0)) :: blkL 3 ov (iis xs) := by
  subst hn
  refine enterF (tb := tb) Tryz.func250 rfl Tryz.ntmps250 rfl ?_
  repeat' (first | (apply TF.range (gf := 209); exact rfl; exact rfl) | apply TF.seq | (apply R.is1; first | (apply R.pure; exact rfl; first | (apply Ok1.move; exact rfl) | (apply Ok1.assign; exact rfl)) | (apply R.box; (iterate 3 exact rfl); intro)) | apply R.nil | (apply T.is; apply T.region))
  rename_i out
  obtain ⟨Li, hLi⟩ : ∃ Li : Nat → Ov → Lst, Li = fun i ov => (out, .cells ⟨[slV ov i]⟩ 39 (0, 0)) :: blkL 3 ov (iis (xs.take i)) := ⟨_, rfl⟩
  refine ⟨⟨_, (cb, .cells ⟨[.slice p xs.length cap]⟩ 39 (0, 0)) :: Li 0 none, [], fun Lb => ∃ ov, OvOk 1 ov xs.length (iis xs) ∧ Lb = (cb, .cells ⟨[.slice p xs.length cap]⟩ 39 (0, 0)) :: Li xs.length ov, ?_, rfl, ?_, ?_⟩⟩
  · subst hLi
    rw [List.append_nil]
    change Keep _ [_, _]
    (focus (repeat' first | exact Keep.nil _ | exact Ext.one _ _ | apply Keep.cons | apply Ext.cons); done)
  · rintro l rec w1 hok ⟨L2, hw1⟩
    have hrd := hp.chg' hw1.chg hoff
    have hof2 := RdSl.old iV_len (by decide) hp hoff hw1 (Ext.here _ _)
    refine (ivalues1_ok (fun i ov => i ≤ xs.length ∧ OvOk 1 ov i (iis (xs.take i))) Li l _ cb p xs.length cap xs rfl (by omega) none ⟨Nat.zero_le _, OvOk.start 1⟩ ?_ w1 hrd hof2).to ?_
    · intro i ov x w2 ⟨hi, hI⟩ hx
      have hlt : i < xs.length := (List.getElem?_eq_some_iff.1 hx).1
      subst hLi
      apply YieldM.of (tb := tb) hok.mod hok.params (blt_lt rfl) hok.assign hok.body hok.state hok.pending
      repeat' (first | (apply R.is1; (apply R.pure; exact rfl; (apply Ok1.assign; exact rfl))) | apply R.nil | (apply RI.step; exact rfl) | apply RI.nil)
      refine ⟨_, .cons (.one _ _) (.last (.all _)), ?_⟩
      repeat' (first | (apply R.is1; first | (apply R.isCall; (apply R.append1; (iterate 12 exact rfl); (focus (repeat' first | exact OwnAt.base hI | apply OwnAt.tail); done); exact At.head; exact rfl; exact rfl; omega; omega; intro b2 j2 k2 hj2)) | (apply R.pure; exact rfl; first | (apply Ok1.move; exact rfl) | (apply Ok1.load; exact rfl; (apply Ld.own1; exact rfl; exact rfl; (focus (repeat' first | exact At.head | apply At.tail); done); exact rfl))) | (apply R.buildSlice; (iterate 12 exact rfl); intro)) | (apply R.is0; (apply R.store; (iterate 6 exact rfl); (focus (repeat' first | exact Upd.head | apply Upd.tail); done); exact rfl)) | apply R.nil | (apply RI.step; exact rfl) | apply RI.nil)
      have hs : iis (xs.take (i + 1)) = iis (xs.take i) ++ [.int .i64 x] := by rw [List.take_add_one, hx, iis_app]; rfl
      refine ⟨(out, .cells ⟨[slV (some (b2, j2, k2)) (i + 1)]⟩ 39 (0, 0)) :: blkL 3 (some (b2, j2, k2)) (iis (xs.take (i + 1))), ?_, some (b2, j2, k2), ⟨by omega, ?_⟩, rfl⟩
      · rw [hs]
        (focus (repeat' first | exact Keep.nil _ | exact Ext.one _ _ | apply Keep.cons | apply Ext.cons); done)
      · rw [hs]
        exact hI.some (b := b2) (ys := [.int .i64 x]) (m := 1) rfl hj2
    · rintro v L ⟨ov, ⟨_, h2⟩, rfl⟩
      rw [List.take_length] at h2
      exact ⟨_, ⟨ov, h2, rfl⟩, rfl⟩
  · rintro D Lb ⟨ov, h2, rfl⟩
    subst hLi
    simp only [List.cons_append, List.append_nil, List.take_length]
    repeat' (first | apply TD.seq | apply TD.region | apply TD.ret | (apply R.is1; (apply R.pure; exact rfl; first | (apply Ok1.load; exact rfl; (apply Ld.own1; exact rfl; exact rfl; (focus (repeat' first | exact At.head | apply At.tail); done); exact rfl)) | (apply Ok1.assign; exact rfl))) | apply R.nil)
    refine ⟨rfl, _, _, rfl, ?_, ov, h2, rfl, rfl⟩
    (focus (repeat' first | exact Ext.one _ _ | exact Ext.all _ | apply Keep.cons | apply Keep.last | apply Ext.cons); done)
theorem collect_ok (cb : Nat) (p : Option Addr) (n cap : Nat) (xs : List Int) (hn : n = xs.length) (hbig : n ≤ 1000000) (w : World) (hp : RdSl w p iV xs) (hoff : xs ≠ [] → Off p [cb]) :
    CallM Tryz.prog 208 [.func (.func 209) #[] #[.pointer (some ⟨cb, 0, none⟩)]] [(cb, .cells ⟨[.slice p n cap]⟩ 39 (0, 0))] w fun v L => ∃ ov, OvOk 1 ov n (iis xs) ∧ v = slV ov n ∧ L = (cb, .cells ⟨[.slice p n cap]⟩ 39 (0, 0)) :: blkL 3 ov (iis xs) := by
  have h := fun w1 (hc : Chg [cb] w w1) => appendSeq_ok cb p n cap xs hn hbig w1 (hp.chg' hc hoff) hoff
  refine enterK (tb := tb) Tryz.func208 rfl Tryz.ntmps208 rfl ?_
  repeat' (first | (apply R.is1; first | (apply R.isCall; (apply R.callE (vs := [.slice none 0 0, .func (.func 209) #[] #[.pointer (some ⟨cb, 0, none⟩)]]); (iterate 3 exact rfl); exact Ext.all _; intro w1 hw1; exact h w1 hw1.chg; rintro v Lo ⟨ov, hov, rfl, rfl⟩)) | (apply R.pure; exact rfl; first | (apply Ok1.move; exact rfl) | (apply Ok1.assign; exact rfl))) | apply R.nil | (apply T.is; first | apply T.seq | apply T.region | apply T.ret))
  (apply RetOk.t; exact rfl)
  exact ⟨_, by (focus (repeat' first | exact Ext.one _ _ | exact Ext.here _ _ | apply Keep.cons | apply Keep.last); done), ov, hov, rfl, rfl⟩
theorem sorted_ok (cb : Nat) (p : Option Addr) (n cap : Nat) (xs : List Int) (hn : n = xs.length) (hbig : n ≤ 1000000) (w : World) (hp : RdSl w p iV xs) (hoff : xs ≠ [] → Off p [cb]) :
    CallM Tryz.prog 160 [.func (.func 209) #[] #[.pointer (some ⟨cb, 0, none⟩)]] [(cb, .cells ⟨[.slice p n cap]⟩ 39 (0, 0))] w fun v L => ∃ ov, OvOk 1 ov n (iis (srt xs)) ∧ v = slV ov n ∧ L = (cb, .cells ⟨[.slice p n cap]⟩ 39 (0, 0)) :: blkL 3 ov (iis (srt xs)) := by
  subst hn
  have h := fun w1 (hc : Chg [cb] w w1) => collect_ok cb p xs.length cap xs rfl hbig w1 (hp.chg' hc hoff) hoff
  have hs := fun ov hov w1 => isort_ok xs (by omega) ov hov w1
  have hl : (iis (srt xs)).length = xs.length := by rw [iis_len, (srt_perm xs).length_eq]
  refine enterK (tb := tb) Tryz.func160 rfl Tryz.ntmps160 rfl ?_
  repeat' (first | (apply R.is1; first | (apply R.isCall; first | (apply R.callE (vs := [.func (.func 209) #[] #[.pointer (some ⟨cb, 0, none⟩)]]); (iterate 3 exact rfl); exact Ext.all _; intro w1 hw1; exact h w1 hw1.chg; rintro v Lo ⟨ov, hov, rfl, rfl⟩) | (apply R.callE (vs := [slV ov xs.length]); (iterate 3 exact rfl); exact Ext.cons _ (Ext.here _ _); intro w1 hw1; exact hs ov hov w1; rintro v Lo ⟨rfl, rfl⟩)) | (apply R.pure; exact rfl; first | (apply Ok1.move; exact rfl) | (apply Ok1.assign; exact rfl))) | apply R.nil | (apply T.is; first | apply T.seq | apply T.region | apply T.ret))
  (apply RetOk.t; exact rfl)
  refine ⟨_, ?_, ov, ⟨by rw [hl, Nat.mul_one], hov.2⟩, rfl, rfl⟩
  (focus (repeat' first | exact Ext.one _ _ | exact Ext.here _ _ | apply Keep.cons | apply Keep.last | apply Ext.app); done)
theorem twice_ok (p : Option Addr) (n cap : Nat) (xs : List Int) (hn : n = xs.length) (hbig : n ≤ 1000000) (w : World) (hp : RdSl w p iV xs) :
    CallM Tryz.prog 88 [.slice p n cap] [] w fun v L => v = .bool (decide (¬ xs.Nodup)) ∧ L = [] := by
  subst hn
  have hc := fun ys ov (hl : ys.length = xs.length) hov w1 => icompact_ok ys (by omega) ov hov w1
  have hu : (Go.Lib.compact (srt xs)).length ≤ xs.length := uniq_le xs
  have hue : (Go.Lib.compact (srt xs)).length = xs.length ↔ xs.Nodup := uniq_len xs
  have hsl : (srt xs).length = xs.length := (srt_perm xs).length_eq
  have hss := fun cb w1 hr ho => sorted_ok cb p xs.length cap xs rfl hbig w1 hr ho
  generalize srt xs = ys at *
  replace hc := fun ov hov w1 => hc ys ov hsl hov w1
  rw [hsl] at hc
  refine enterK (tb := tb) Tryz.func88 rfl Tryz.ntmps88 rfl ?_
  by_cases hnd : xs.Nodup
  · have h2 := hue.2 hnd
    rw [decide_eq_false (by simp [hnd])]
    repeat' (first | (apply R.is1; first | (apply R.isBin; (apply R.pure; exact rfl; (apply Ok1.neq_f; exact rfl; exact rfl; omega))) | (apply R.isCall; first | (apply R.callE (vs := [.slice p xs.length cap]); (iterate 3 exact rfl); exact Ext.none _; intro w1 hw1; exact ivalues_ok p xs.length cap w1; rintro v Lo ⟨cb, rfl, rfl⟩) | (apply R.callE (vs := [.func (.func 209) #[] #[.pointer (some ⟨cb, 0, none⟩)]]); (iterate 3 exact rfl); exact Ext.here _ _; intro w1 hw1; exact hss cb w1 (hp.chg' hw1.chg (fun _ => Off.nil _)) (RdSl.old iV_len (by decide) hp (fun _ => Off.nil _) hw1 (Li := [(cb, .cells ⟨[.slice p xs.length cap]⟩ 39 (0, 0))]) (by (focus ((repeat' (exact Ext.one _ _)); done)))); rintro v Lo ⟨ov, hov, rfl, rfl⟩) | (apply R.callE (vs := [slV ov xs.length]); (iterate 3 exact rfl); exact Ext.cons _ (Ext.here _ _); intro w1 hw1; exact hc ov hov w1; rintro v Lo ⟨ov2, hov2, rfl, rfl⟩) | (apply R.pure; exact rfl; apply Ok1.lenOv; (iterate 3 exact rfl); exact hov2) | (apply R.pure; exact rfl; (apply Ok1.lenS; (iterate 3 exact rfl)))) | (apply R.pure; exact rfl; first | (apply Ok1.move; exact rfl) | (apply Ok1.assign; exact rfl))) | apply R.nil | (apply T.is; first | apply T.seq | apply T.region | apply T.ret))
    all_goals (apply RetOk.t; exact rfl)
    all_goals exact ⟨_, by (focus ((repeat' (exact Keep.nil _)); done)), rfl, rfl⟩
  · have h2 : (Go.Lib.compact ys).length ≠ xs.length := fun e => hnd (hue.1 e)
    rw [decide_eq_true hnd]
    repeat' (first | (apply R.is1; first | (apply R.isBin; (apply R.pure; exact rfl; (apply Ok1.neq_t; exact rfl; exact rfl; omega))) | (apply R.isCall; first | (apply R.callE (vs := [.slice p xs.length cap]); (iterate 3 exact rfl); exact Ext.none _; intro w1 hw1; exact ivalues_ok p xs.length cap w1; rintro v Lo ⟨cb, rfl, rfl⟩) | (apply R.callE (vs := [.func (.func 209) #[] #[.pointer (some ⟨cb, 0, none⟩)]]); (iterate 3 exact rfl); exact Ext.here _ _; intro w1 hw1; exact hss cb w1 (hp.chg' hw1.chg (fun _ => Off.nil _)) (RdSl.old iV_len (by decide) hp (fun _ => Off.nil _) hw1 (Li := [(cb, .cells ⟨[.slice p xs.length cap]⟩ 39 (0, 0))]) (by (focus ((repeat' (exact Ext.one _ _)); done)))); rintro v Lo ⟨ov, hov, rfl, rfl⟩) | (apply R.callE (vs := [slV ov xs.length]); (iterate 3 exact rfl); exact Ext.cons _ (Ext.here _ _); intro w1 hw1; exact hc ov hov w1; rintro v Lo ⟨ov2, hov2, rfl, rfl⟩) | (apply R.pure; exact rfl; apply Ok1.lenOv; (iterate 3 exact rfl); exact hov2) | (apply R.pure; exact rfl; (apply Ok1.lenS; (iterate 3 exact rfl)))) | (apply R.pure; exact rfl; first | (apply Ok1.move; exact rfl) | (apply Ok1.assign; exact rfl))) | apply R.nil | (apply T.is; first | apply T.seq | apply T.region | apply T.ret))
    all_goals (apply RetOk.t; exact rfl)
    all_goals exact ⟨_, by (focus ((repeat' (exact Keep.nil _)); done)), rfl, rfl⟩
/-- A set: four logs. -/
def setV (gs : List Lg) : List Value := gs.map Lg.v
def LsL (gs : List Lg) : Lst := gs.flatMap Lg.L
def SetL (bs : Nat) (gs : List Lg) : Lst := (bs, .cells ⟨setV gs⟩ 191 (0, 0)) :: LsL gs
structure GOk (gs : List Lg) : Prop where
  len : gs.length = 4
  ok : ∀ g ∈ gs, g.ok
  le : ∀ g ∈ gs, g.xs.length ≤ 256
def lgs (gs : List Lg) : List (List Int) := gs.map Lg.xs
structure SetR (w : World) (bs : Nat) (gs : List Lg) : Prop where
  b : w.heap[bs]? = some (.cells ⟨setV gs⟩ 191 (0, 0))
  rd : ∀ g ∈ gs, RdSl w (ovp g.ov) iV g.xs
theorem mem_LsL {gs : List Lg} {g : Lg} (h : g ∈ gs) {x : Nat × Obj} (hx : x ∈ g.L) : x ∈ LsL gs := List.mem_flatMap.2 ⟨g, h, hx⟩
theorem SetR.of {bs : Nat} {gs : List Lg} (hg : GOk gs) {w0 w : World} {S : List Nat} {L : Lst} (hw : Hp w0 S L w) (hin : ∀ x ∈ SetL bs gs, x ∈ L) : SetR w bs gs :=
  ⟨hw.get _ _ (hin _ List.mem_cons_self), fun g h => Lg.rd (hg.ok g h) hw fun x hx => hin _ (List.mem_cons_of_mem _ (mem_LsL h hx))⟩
theorem SetR.chg {bs : Nat} {gs : List Lg} {w w' : World} (h : SetR w bs gs) (hc : Chg [] w w') : SetR w' bs gs :=
  ⟨hc.heap h.b List.not_mem_nil, fun g hm => (h.rd g hm).chg' hc (fun _ => Off.nil _)⟩
theorem setV_get {gs : List Lg} {i : Nat} {g : Lg} (h : gs[i]? = some g) (hk : g.ok) : (setV gs)[0 + i * 1]? = some (.slice (ovp g.ov) g.xs.length (ovc g.ov g.xs.length)) := by
  rw [Nat.zero_add, Nat.mul_one, setV, List.getElem?_map, h, Option.map_some, Lg.v_eq hk]
theorem log_ok (bs : Nat) (gs : List Lg) (hg : GOk gs) (i : Nat) (g : Lg) (hi : gs[i]? = some g) (w : World) (hs : SetR w bs gs) :
    CallM Tryz.prog 106 [.pointer (some ⟨bs, 0, none⟩), .int .i64 i] [] w fun v L => ∃ ov, OvOk 1 ov g.xs.length (iis g.xs) ∧ v = slV ov g.xs.length ∧ L = blkL 3 ov (iis g.xs) := by
  have hlt : i < 4 := by rw [← hg.len]; exact (List.getElem?_eq_some_iff.1 hi).1
  have hm := List.mem_of_getElem? hi
  have hcell := setV_get hi (hg.ok g hm)
  have hle := hg.le g hm
  have hrd := hs.rd g hm
  have hb := hs.b
  have hcl := fun w1 (hc : Chg [] w w1) => iclone_ok (ovp g.ov) g.xs.length (ovc g.ov g.xs.length) g.xs rfl (by omega) w1 (hrd.chg' hc (fun _ => Off.nil _))
  refine enterK (tb := tb) Tryz.func106 rfl Tryz.ntmps106 rfl ?_
  repeat' (first | (apply R.is1; first | (apply R.isBin; (apply R.pure; exact rfl; first | (apply Ok1.lss_f; exact rfl; exact rfl; omega) | (apply Ok1.geq_f; exact rfl; exact rfl; omega) | (apply Ok1.eqlP; (iterate 5 exact rfl)))) | (apply R.isCall; (apply R.callE (vs := [.slice (ovp g.ov) g.xs.length (ovc g.ov g.xs.length)]); (iterate 3 exact rfl); exact Ext.none _; intro w1 hw1; exact hcl w1 hw1.chg; rintro v Lo ⟨ov, hov, _, rfl, rfl⟩)) | (apply R.pure; exact rfl; first | (apply Ok1.load; exact rfl; apply Ld.blk1; exact rfl; exact rfl; exact hb; exact List.not_mem_nil; exact hcell) | (apply Ok1.move; exact rfl) | (apply Ok1.fieldAddr; (iterate 5 exact rfl)) | (apply Ok1.assign; exact rfl) | (apply Ok1.indexAddrA; (iterate 5 exact rfl); omega; omega) | (apply Ok1.pick_f; exact rfl; exact rfl) | (apply Ok1.nilCheck; exact rfl))) | (apply R.isG; (apply R.guard_run; exact rfl; exact rfl)) | apply R.nil | (apply T.is; first | apply T.seq | apply T.region | apply T.skip | apply T.ret | (apply T.cond_f; exact rfl)))
  all_goals (apply RetOk.t; exact rfl)
  all_goals exact ⟨_, by (focus (repeat' first | exact Ext.here _ _ | apply Keep.last); done), ov, hov, rfl, rfl⟩
def lens (gs : List Lg) : List Value := gs.map fun g => .int .i64 g.xs.length
theorem versions_ok (bs : Nat) (gs : List Lg) (hg : GOk gs) (w : World) (hs : SetR w bs gs) :
    CallW Tryz.prog 70 [.pointer (some ⟨bs, 0, none⟩)] w fun v _ => v = .agg ⟨lens gs⟩ := by
  have hlog := fun i g hi w1 (hc : Chg [] w w1) => log_ok bs gs hg i g hi w1 (hs.chg hc)
  match gs, hg.len with
  | [a, b, c, d], _ =>
  have h0 := hlog 0 a rfl
  have h1 := hlog 1 b rfl
  have h2 := hlog 2 c rfl
  have h3 := hlog 3 d rfl
  clear hlog
  refine enterW (tb := tb) Tryz.func70 rfl Tryz.ntmps70 rfl ?_
  repeat' (first | (apply R.is1; first | (apply R.isBin; (apply R.pure; exact rfl; first | (apply Ok1.add64; exact rfl; exact rfl; omega; omega) | (apply Ok1.lss_t; exact rfl; exact rfl; omega) | (apply Ok1.lss_f; exact rfl; exact rfl; omega))) | (apply R.isCall; first | (apply R.callE; (iterate 3 exact rfl); exact Ext.none _; (first | (intro w1 hw1; exact h0 w1 hw1.chg) | (intro w1 hw1; exact h1 w1 hw1.chg) | (intro w1 hw1; exact h2 w1 hw1.chg) | (intro w1 hw1; exact h3 w1 hw1.chg)); rintro v Lo ⟨ov, hov, rfl, rfl⟩) | (apply R.pure; exact rfl; apply Ok1.lenOv; (iterate 3 exact rfl); exact hov)) | (apply R.pure; exact rfl; first | (apply Ok1.move; exact rfl) | (apply Ok1.load; exact rfl; (apply Ld.ownk; exact rfl; exact rfl; (focus (repeat' first | exact At.head | apply At.right); done); exact rfl)) | (apply Ok1.assign; exact rfl) | (apply Ok1.indexAddrA; (iterate 5 exact rfl); omega; omega)) | (apply R.alloc; (iterate 3 exact rfl); intro)) | (apply R.is0; (apply R.store; (iterate 6 exact rfl); (focus (repeat' first | exact Upd.head | apply Upd.tail | apply Upd.right); done); exact rfl)) | apply R.nil | (apply T.is; first | apply T.rounds 5 | apply T.seq | apply T.region | apply T.block | apply T.skip | apply T.exit | apply T.ret | (apply T.cond_t; exact rfl) | (apply T.cond_f; exact rfl)))
  all_goals (apply RetOk.c; exact rfl; ((apply Ld.ownk; exact rfl; exact rfl; (focus (repeat' first | exact At.head | apply At.tail | apply At.right); done); exact rfl)))
  all_goals rfl
theorem rnew_ok (w : World) : CallM Tryz.prog 31 [] [] w fun v L => ∃ bs, v = .pointer (some ⟨bs, 0, none⟩) ∧ L = SetL bs [lg0, lg0, lg0, lg0] := by
  refine enterK (tb := tb) Tryz.func31 rfl Tryz.ntmps31 rfl ?_
  repeat' (first | (apply R.is1; first | (apply R.pure; exact rfl; first | (apply Ok1.assign; exact rfl) | (apply Ok1.build; (iterate 5 exact rfl))) | (apply R.box; (iterate 3 exact rfl); intro)) | apply R.nil | (apply T.is; first | apply T.seq | apply T.region | apply T.ret))
  (apply RetOk.t; exact rfl)
  exact ⟨_, Keep.last (.all _), _, rfl, rfl⟩
theorem GOk.new : GOk [lg0, lg0, lg0, lg0] := ⟨rfl, by intro g h; simp only [List.mem_cons, List.not_mem_nil, or_false, or_self] at h; rw [h]; exact lg0_ok, by intro g h; simp only [List.mem_cons, List.not_mem_nil, or_false, or_self] at h; rw [h]; decide⟩
theorem join_ok (a0 a1 a2 a3 b0 b1 b2 b3 : Int) : CallP Tryz.prog 150 [.agg ⟨[.int .i64 a0, .int .i64 a1, .int .i64 a2, .int .i64 a3]⟩, .agg ⟨[.int .i64 b0, .int .i64 b1, .int .i64 b2, .int .i64 b3]⟩] (.agg ⟨[.int .i64 (max a0 b0), .int .i64 (max a1 b1), .int .i64 (max a2 b2), .int .i64 (max a3 b3)]⟩) := by
  refine enterP (tb := tb) Tryz.func150 rfl Tryz.ntmps150 rfl fun w => ?_
  repeat' (first | (apply R.is1; first | (apply R.isBin; (apply R.pure; exact rfl; first | (apply Ok1.add64; exact rfl; exact rfl; omega; omega) | (apply Ok1.lss_t; exact rfl; exact rfl; omega) | (apply Ok1.lss_f; exact rfl; exact rfl; omega))) | (apply R.pure; exact rfl; first | (apply Ok1.move; exact rfl) | (apply Ok1.load; exact rfl; (apply Ld.ownk; exact rfl; exact rfl; (focus (repeat' first | exact At.head | apply At.tail); done); exact rfl)) | (apply Ok1.assign; exact rfl)) | (apply R.box; (iterate 3 exact rfl); intro) | (apply R.alloc; (iterate 3 exact rfl); intro)) | (apply R.is0; (apply R.store; (iterate 6 exact rfl); exact Upd.head; exact rfl)) | apply R.nil | (apply T.is; first | apply T.rounds 5 | (apply T.drawC (id := 4) [0,1] (by decide); ((apply A.tk 0; exact rfl; kernel_rfl; (apply Ok1.move; exact rfl)) <;> (apply A.tk 1; exact rfl; kernel_rfl; (apply Ok1.move; exact rfl)) <;> (apply A.tk 2; exact rfl; kernel_rfl; (apply Ok1.indexAddrA; (iterate 5 exact rfl); omega; omega)) <;> (apply A.tk 4; exact rfl; kernel_rfl; (apply Ok1.move; exact rfl)) <;> (apply A.tk 5; exact rfl; kernel_rfl; (apply Ok1.indexAddrA; (iterate 5 exact rfl); omega; omega)) <;> (apply A.tk 6; exact rfl; kernel_rfl; (apply Ok1.load; exact rfl; (apply Ld.own1; exact rfl; exact rfl; (focus (repeat' first | exact At.head | apply At.tail); done); exact rfl))) <;> (apply A.one 3; kernel_rfl; exact rfl; (((apply R.pure; exact rfl; (apply Ok1.load; exact rfl; (apply Ld.own1; exact rfl; exact rfl; (focus (repeat' first | exact At.head | apply At.tail); done); exact rfl))))); apply R.nil; refine ⟨?_, ?_⟩; (focus (repeat' first | exact trivial | exact At.head | apply At.tail | refine ⟨?_, ?_⟩))) <;> (apply A.tk 7; exact rfl; kernel_rfl; (apply Ok1.max2; exact rfl; exact rfl)) <;> (apply A.tk 8; exact rfl; kernel_rfl; (apply Ok1.indexAddrA; (iterate 5 exact rfl); omega; omega)) <;> (apply A.one 9; kernel_rfl; exact rfl; (((apply R.store; (iterate 6 exact rfl); (focus (repeat' first | exact Upd.head | apply Upd.tail); done); exact rfl))); apply R.nil; refine ⟨?_, ?_⟩; (focus (repeat' first | exact trivial | exact At.head | apply At.tail | refine ⟨?_, ?_⟩))) <;> (apply A.done; kernel_rfl))) | apply T.seq | apply T.region | apply T.block | apply T.skip | apply T.exit | apply T.ret | (apply T.cond_t; exact rfl) | (apply T.cond_f; exact rfl)))
  all_goals (apply RetOk.c; exact rfl; ((apply Ld.ownk; exact rfl; exact rfl; exact At.head; exact rfl)))
  all_goals rfl
theorem covers_ok (a0 a1 a2 a3 b0 b1 b2 b3 : Int) : CallP Tryz.prog 75 [.agg ⟨[.int .i64 a0, .int .i64 a1, .int .i64 a2, .int .i64 a3]⟩, .agg ⟨[.int .i64 b0, .int .i64 b1, .int .i64 b2, .int .i64 b3]⟩] (.bool (decide (b0 ≤ a0 ∧ b1 ≤ a1 ∧ b2 ≤ a2 ∧ b3 ≤ a3))) := by
  have hj := join_ok a0 a1 a2 a3 b0 b1 b2 b3
  obtain ⟨q, hq⟩ : ∃ q, decide (b0 ≤ a0 ∧ b1 ≤ a1 ∧ b2 ≤ a2 ∧ b3 ≤ a3) = q := ⟨_, rfl⟩
  have hq2 : [Value.int .i64 (max a0 b0), .int .i64 (max a1 b1), .int .i64 (max a2 b2), .int .i64 (max a3 b3)] = [Value.int .i64 a0, .int .i64 a1, .int .i64 a2, .int .i64 a3] ↔ q = true := by
    rw [← hq, decide_eq_true_iff]
    simp only [List.cons.injEq, Value.int.injEq, true_and, and_true]
    omega
  rw [hq]
  refine enterP (tb := tb) Tryz.func75 rfl Tryz.ntmps75 rfl fun w => ?_
  repeat' (first | (apply R.is1; first | (apply R.pure; exact rfl; (apply Ok1.assign; exact rfl)) | (apply R.box; (iterate 3 exact rfl); intro)) | apply R.nil | (apply T.is; first | (apply T.drawC (id := 1) [0,1] (by decide); ((apply A.tk 0; exact rfl; kernel_rfl; (apply Ok1.load; exact rfl; (apply Ld.ownk; exact rfl; exact rfl; (focus (repeat' first | exact At.head | apply At.tail); done); exact rfl))) <;> (apply A.tk 1; exact rfl; kernel_rfl; (apply Ok1.load; exact rfl; (apply Ld.ownk; exact rfl; exact rfl; exact At.head; exact rfl))) <;> (apply A.call 2; exact rfl; exact rfl; kernel_rfl; kernel_rfl; kernel_rfl; exact rfl; exact rfl; (exact fun w1 _ => hj.w w1)) <;> (apply A.tk 3; exact rfl; kernel_rfl; (apply Ok1.load; exact rfl; (apply Ld.ownk; exact rfl; exact rfl; (focus (repeat' first | exact At.head | apply At.tail); done); exact rfl))) <;> ((apply A.tk 4; exact rfl; kernel_rfl; (apply Ok1.eqlFq2; (iterate 7 exact rfl); exact hq2))) <;> (apply A.tk 5; exact rfl; kernel_rfl; (apply Ok1.assign; exact rfl)) <;> (apply A.done; kernel_rfl))) | apply T.seq | apply T.region | apply T.ret))
  all_goals (apply RetOk.t; exact rfl)
  all_goals rfl
theorem LsL_at {gs : List Lg} {i : Nat} {g : Lg} (h : gs[i]? = some g) : LsL gs = LsL (gs.take i) ++ (g.L ++ LsL (gs.drop (i + 1))) := by
  obtain ⟨hi, rfl⟩ := List.getElem?_eq_some_iff.1 h
  have e := List.take_append_drop i gs
  rw [List.drop_eq_getElem_cons hi] at e
  conv => lhs; rw [← e]
  simp only [LsL, List.flatMap_append, List.flatMap_cons]
theorem LsL_set {gs : List Lg} {i : Nat} (g' : Lg) (hi : i < gs.length) : LsL (gs.set i g') = LsL (gs.take i) ++ (g'.L ++ LsL (gs.drop (i + 1))) := by
  rw [List.set_eq_take_append_cons_drop, if_pos hi]
  simp only [LsL, List.flatMap_append, List.flatMap_cons]
theorem setV_set {gs : List Lg} {i : Nat} (g' : Lg) (hi : i < gs.length) : setE (setV gs) (0 + i * 1) [g'.v] = some (setV (gs.set i g')) := by
  have := setE_one (cs := setV gs) (o := 0 + i * 1) (v := g'.v) (by simp [setV]; omega)
  rw [this]
  simp [setV, List.map_set]
theorem GOk.set {gs : List Lg} (hg : GOk gs) (i : Nat) {g' : Lg} (h : g'.ok) (hl : g'.xs.length ≤ 256) : GOk (gs.set i g') :=
  ⟨by rw [List.length_set]; exact hg.len, fun g hm => by rcases List.mem_or_eq_of_mem_set hm with h1 | rfl; exact hg.ok g h1; exact h, fun g hm => by rcases List.mem_or_eq_of_mem_set hm with h1 | rfl; exact hg.le g h1; exact hl⟩
section
variable {X : Cx} {σ : Env} {L Lr : Lst} {d : Option Nat} {ty : TypeId} {pos : String} {af : Array Edge} {g : Option (Nat × Bool)} {x : Operand} {t e : TypeId} {r re : TRow} {p : Option Addr} {n cap i j : Nat}
theorem Ok1.midR {lo hi : Operand} {sz : Nat} (ht : X.tb.row t = some r) (hk : r.k = .slice e) (he : X.tb.row e = some re) (hsz : re.size = sz) (hx : ev σ x = some (.slice p n cap)) (hl : ev σ lo = some (.int .i64 i)) (hh : ev σ hi = some (.int .i64 j)) (h1 : i ≤ j) (h2 : j ≤ cap) :
    Ok1 X ⟨d, .slice t x (some lo) (some hi) none, ty, pos, af, g⟩ σ L (.slice (sufP p cap i sz) (j - i) (cap - i)) := .mk fun a w ha hw => by
  subst hsz
  rw [slice_run (l := (i : Int)) (h := (j : Int)) (m := (cap : Int)) X.tb ht hk he ha hx rfl (by simp [bd, hh]) (by simp [bd, hl]) (by omega) (by omega) (by omega) (by omega) (.inl rfl)]
  simp [sufP]
end
/-- A delta: from where, and a log's part, of each. -/
abbrev Dl := List (Int × Pi)
def dlV (d : Dl) : List Value := iis (d.map (·.1)) ++ fl Pi.v (d.map (·.2))
def DOk1 (x : Int × Pi) : Prop := 0 ≤ x.1 ∧ x.1 ≤ 256 ∧ x.2.xs.length ≤ 256 ∧ SR x.2.xs
def DOk (d : Dl) : Prop := ∀ x ∈ d, DOk1 x
instance (x : Int × Pi) : Decidable (DOk1 x) := by unfold DOk1; infer_instance
instance (d : Dl) : Decidable (DOk d) := by unfold DOk; infer_instance
theorem fl_pi (ps : List Pi) : fl Pi.v ps = ps.map fun z => .slice z.p z.xs.length z.cap := by
  unfold fl
  induction ps with
  | nil => rfl
  | cons a l ih => simp only [List.map_cons, List.flatten_cons, ih]; rfl
theorem dl_from {d : Dl} {i : Nat} {x : Int × Pi} (h : d[i]? = some x) : (iis (d.map (·.1)))[i * 1]? = some (.int .i64 x.1) := by
  rw [Nat.mul_one, iis, List.map_map, List.getElem?_map, h]; rfl
theorem dl_log {d : Dl} (hl : d.length = 4) {i : Nat} {x : Int × Pi} (h : d[i]? = some x) : (dlV d)[4 + i * 1]? = some (.slice x.2.p x.2.xs.length x.2.cap) := by
  rw [Nat.mul_one, dlV, List.getElem?_append_right (by rw [iis_len, List.length_map]; omega), iis_len, List.length_map, hl, Nat.add_sub_cancel_left, fl_pi, List.map_map, List.getElem?_map, h]; rfl
theorem dl_froms {d : Dl} (hl : d.length = 4) : subE (dlV d) 0 4 = some (iis (d.map (·.1))) := subE_app _ _ (by rw [iis_len, List.length_map, hl])
theorem rcheck_ok (d : Dl) (hl : d.length = 4) (hbig : ∀ x ∈ d, x.2.xs.length ≤ 1000000) (w : World) (hr : ∀ x ∈ d, RdSl w x.2.p iV x.2.xs) :
    CallW Tryz.prog 101 [.agg ⟨dlV d⟩] w fun v _ => v = .int .i64 (if DOk d then 0 else 10) := by
  have hse := fun x (hx : x ∈ d) w1 (hc : Chg [] w w1) => serials_ok x.2.p x.2.xs.length x.2.cap x.2.xs rfl (by have := hbig x hx; omega) w1 ((hr x hx).chg' hc (fun _ => Off.nil _))
  have hfr := dl_froms hl
  have hdl : (dlV d).length = 8 := by simp [dlV, fl_pi, iis_len, hl]
  refine enterW (tb := tb) Tryz.func101 rfl Tryz.ntmps101 rfl ?_
  repeat' (first | (apply R.is1; first | (apply R.pure; exact rfl; first | (apply Ok1.load; exact rfl; apply Ld.ownk; exact rfl; exact rfl; exact At.head; exact hfr) | (apply Ok1.move; exact rfl) | (apply Ok1.fieldAddr; (iterate 5 exact rfl)) | (apply Ok1.assign; exact rfl)) | (apply R.box; (iterate 3 exact rfl); intro)) | apply R.nil | (apply T.is; first | apply T.seq | apply T.region | apply T.block))
  rename_i b
  apply T.loopK (α := Nat) (I := fun i => i ≤ 4 ∧ ∀ x ∈ d.take i, DOk1 x) (σi := fun i => [(1, .pointer (some ⟨b, 0, none⟩)), (6, .agg ⟨iis (d.map (·.1))⟩), (7, .int .i64 i)]) (Li := fun _ => [(b, .cells ⟨dlV d⟩ 76 (0, 0))]) (μ := fun i => 4 - i) (i0 := 0)
  · exact ⟨Nat.zero_le _, by simp⟩
  · exact ⟨rfl, rfl, rfl, trivial⟩
  · (focus (repeat' first | exact Keep.nil _ | exact Ext.one _ _ | apply Keep.cons); done)
  · intro i ⟨hi, hall⟩
    rcases Nat.lt_or_ge i 4 with hlt | hge
    · obtain ⟨x, hx⟩ : ∃ x, d[i]? = some x := ⟨_, List.getElem?_eq_getElem (by omega)⟩
      have hm := List.mem_of_getElem? hx
      have h1 := hse x hm
      have hf := dl_from hx
      have hg := dl_log hl hx
      have hb := hbig x hm
      have hbad : ¬ DOk1 x → (if DOk d then (0 : Int) else 10) = 10 := fun h => if_neg fun hd => h (hd x hm)
      by_cases c1 : x.1 < 0
      · rw [hbad (fun h => by have := h.1; omega)]
        repeat' (first | (apply R.is1; first | (apply R.isBin; (apply R.pure; exact rfl; (apply Ok1.lss_t; exact rfl; exact rfl; omega))) | (apply R.pure; exact rfl; first | (apply Ok1.index1; (iterate 6 exact rfl); omega; omega; exact hf) | (apply Ok1.move; exact rfl) | (apply Ok1.assign; exact rfl) | (apply Ok1.pick_t; exact rfl; exact rfl))) | (apply R.isG; (apply R.guard_not; (iterate 3 exact rfl))) | apply R.nil | (apply T.is; first | apply T.seq | apply T.region | apply T.block | apply T.skip | apply T.ret | (apply T.cond_t; exact rfl)))
        (apply RetOk.t; exact rfl)
        rfl
      · by_cases c2 : 256 < x.1
        · rw [hbad (fun h => by have := h.2.1; omega)]
          repeat' (first | (apply R.is1; first | (apply R.isBin; (apply R.pure; exact rfl; first | (apply Ok1.lss_t; exact rfl; exact rfl; omega) | (apply Ok1.lss_f; exact rfl; exact rfl; omega) | (apply Ok1.gtr_t; exact rfl; exact rfl; omega))) | (apply R.pure; exact rfl; first | (apply Ok1.index1; (iterate 6 exact rfl); omega; omega; exact hf) | (apply Ok1.move; exact rfl) | (apply Ok1.assign; exact rfl) | (apply Ok1.pick_t; exact rfl; exact rfl) | (apply Ok1.pick_f; exact rfl; exact rfl))) | (apply R.isG; first | (apply R.guard_run; exact rfl; exact rfl) | (apply R.guard_not; (iterate 3 exact rfl))) | apply R.nil | (apply T.is; first | apply T.seq | apply T.region | apply T.block | apply T.skip | apply T.ret | (apply T.cond_t; exact rfl)))
          (apply RetOk.t; exact rfl)
          rfl
        · by_cases c3 : 256 < x.2.xs.length
          · rw [hbad (fun h => by have := h.2.2.1; omega)]
            repeat' (first | (apply R.is1; first | (apply R.isBin; (apply R.pure; exact rfl; first | (apply Ok1.lss_t; exact rfl; exact rfl; omega) | (apply Ok1.lss_f; exact rfl; exact rfl; omega) | (apply Ok1.gtr_t; exact rfl; exact rfl; omega) | (apply Ok1.gtr_f; exact rfl; exact rfl; omega))) | (apply R.isCall; (apply R.pure; exact rfl; (apply Ok1.lenS; (iterate 3 exact rfl)))) | (apply R.pure; exact rfl; first | (apply Ok1.index1; (iterate 6 exact rfl); omega; omega; exact hf) | (apply Ok1.load; exact rfl; apply Ld.own1; exact rfl; exact rfl; exact At.head; exact hg) | (apply Ok1.move; exact rfl) | (apply Ok1.fieldAddr; (iterate 5 exact rfl)) | (apply Ok1.assign; exact rfl) | (apply Ok1.indexAddrA; (iterate 5 exact rfl); omega; omega) | (apply Ok1.pick_t; exact rfl; exact rfl) | (apply Ok1.pick_f; exact rfl; exact rfl))) | (apply R.isG; first | (apply R.guard_run; exact rfl; exact rfl) | (apply R.guard_not; (iterate 3 exact rfl))) | apply R.nil | (apply T.is; first | apply T.seq | apply T.region | apply T.block | apply T.skip | apply T.ret | (apply T.cond_t; exact rfl)))
            (apply RetOk.t; exact rfl)
            rfl
          · by_cases c4 : SR x.2.xs
            · rw [decide_eq_true c4] at h1
              repeat' (first | (apply R.is1; first | (apply R.isBin; (apply R.pure; exact rfl; first | (apply Ok1.add64; exact rfl; exact rfl; omega; omega) | (apply Ok1.lss_t; exact rfl; exact rfl; omega) | (apply Ok1.lss_f; exact rfl; exact rfl; omega) | (apply Ok1.gtr_f; exact rfl; exact rfl; omega))) | (apply R.isCall; first | (apply R.callV (vs := [.slice x.2.p x.2.xs.length x.2.cap]); (iterate 3 exact rfl); intro w1 hw1; exact h1 w1 hw1.chg) | (apply R.pure; exact rfl; (apply Ok1.lenS; (iterate 3 exact rfl)))) | (apply R.pure; exact rfl; first | (apply Ok1.index1; (iterate 6 exact rfl); omega; omega; exact hf) | (apply Ok1.load; exact rfl; apply Ld.own1; exact rfl; exact rfl; exact At.head; exact hg) | (apply Ok1.move; exact rfl) | (apply Ok1.fieldAddr; (iterate 5 exact rfl)) | (apply Ok1.assign; exact rfl) | (apply Ok1.indexAddrA; (iterate 5 exact rfl); omega; omega) | (apply Ok1.pick_f; exact rfl; exact rfl) | (apply Ok1.not_t; exact rfl))) | (apply R.isG; (apply R.guard_run; exact rfl; exact rfl)) | apply R.nil | (apply T.is; first | apply T.seq | apply T.region | apply T.block | apply T.skip | (apply T.cond_t; exact rfl) | (apply T.cond_f; exact rfl)))
              refine ⟨i + 1, ⟨by omega, ?_⟩, by omega, ⟨rfl, rfl, rfl, trivial⟩, by (focus (repeat' first | exact Keep.nil _ | exact Ext.one _ _ | apply Keep.cons); done)⟩
              intro z hz
              rw [List.take_add_one, hx, List.mem_append] at hz
              rcases hz with hz | hz
              · exact hall z hz
              · simp only [Option.toList_some, List.mem_singleton] at hz
                rw [hz]
                exact ⟨by omega, by omega, by omega, c4⟩
            · rw [hbad (fun h => c4 h.2.2.2)]
              rw [decide_eq_false c4] at h1
              repeat' (first | (apply R.is1; first | (apply R.isBin; (apply R.pure; exact rfl; first | (apply Ok1.lss_t; exact rfl; exact rfl; omega) | (apply Ok1.lss_f; exact rfl; exact rfl; omega) | (apply Ok1.gtr_f; exact rfl; exact rfl; omega))) | (apply R.isCall; first | (apply R.callV (vs := [.slice x.2.p x.2.xs.length x.2.cap]); (iterate 3 exact rfl); intro w1 hw1; exact h1 w1 hw1.chg) | (apply R.pure; exact rfl; (apply Ok1.lenS; (iterate 3 exact rfl)))) | (apply R.pure; exact rfl; first | (apply Ok1.index1; (iterate 6 exact rfl); omega; omega; exact hf) | (apply Ok1.load; exact rfl; apply Ld.own1; exact rfl; exact rfl; exact At.head; exact hg) | (apply Ok1.move; exact rfl) | (apply Ok1.fieldAddr; (iterate 5 exact rfl)) | (apply Ok1.assign; exact rfl) | (apply Ok1.indexAddrA; (iterate 5 exact rfl); omega; omega) | (apply Ok1.pick_f; exact rfl; exact rfl) | (apply Ok1.not_f; exact rfl))) | (apply R.isG; (apply R.guard_run; exact rfl; exact rfl)) | apply R.nil | (apply T.is; first | apply T.seq | apply T.region | apply T.block | apply T.skip | apply T.ret | (apply T.cond_t; exact rfl)))
              (apply RetOk.t; exact rfl)
              rfl
    · have him : i = 4 := by omega
      subst him
      rw [List.take_of_length_le (by omega)] at hall
      have h5 : (if DOk d then (0 : Int) else 10) = 0 := if_pos hall
      rw [h5]
      repeat' (first | (apply R.is1; first | (apply R.isBin; (apply R.pure; exact rfl; (apply Ok1.lss_f; exact rfl; exact rfl; omega))) | (apply R.pure; exact rfl; (apply Ok1.assign; exact rfl))) | apply R.nil | (apply T.is; first | apply T.seq | apply T.region | apply T.exit | apply T.ret | (apply T.cond_f; exact rfl)))
      (apply RetOk.t; exact rfl)
      rfl
/-- How much of it both have; the error; the log. -/
def both (xs ys : List Int) (k : Nat) : Nat := min (xs.length - k) ys.length
def jAll (xs ys : List Int) (k : Nat) : List Int := xs ++ ys.drop (both xs ys k)
def jE (xs ys : List Int) (k : Nat) : Int :=
  if (xs.drop k).take (both xs ys k) ≠ ys.take (both xs ys k) then 3 else if ¬ (jAll xs ys k).Nodup then 3 else if 256 < (jAll xs ys k).length then 6 else 0
def jL (xs ys : List Int) (k : Nat) : List Int := if jE xs ys k = 0 then jAll xs ys k else []
theorem mid_take (xs : List Int) (k b : Nat) (h : k + b ≤ xs.length) : ((xs.drop k).take b).length = b := by rw [List.length_take, List.length_drop]; omega
theorem joined_ok (p1 : Option Addr) (n1 c1 : Nat) (xs : List Int) (hn1 : n1 = xs.length) (hc1 : n1 ≤ c1) (hb1 : n1 ≤ 256) (k : Nat) (hk : k ≤ n1) (p2 : Option Addr) (n2 c2 : Nat) (ys : List Int) (hn2 : n2 = ys.length) (hc2 : n2 ≤ c2) (hb2 : n2 ≤ 256) (w : World) (h1 : RdSl w p1 iV xs) (h2 : RdSl w p2 iV ys) :
    CallM Tryz.prog 149 [.slice p1 n1 c1, .int .i64 k, .slice p2 n2 c2] [] w fun v L => ∃ ov, v = .tuple #[slV ov (jL xs ys k).length, .int .i64 (jE xs ys k)] ∧ OvOk 1 ov (jL xs ys k).length (iis (jL xs ys k)) ∧ L = blkL 3 ov (iis (jL xs ys k)) := by
  subst hn1 hn2
  obtain ⟨b, hb⟩ : ∃ b, both xs ys k = b := ⟨_, rfl⟩
  have hbx : k + b ≤ xs.length := by unfold both at hb; omega
  have hby : b ≤ ys.length := by unfold both at hb; omega
  have hmin : min ((xs.length : Int) - k) ys.length = (b : Int) := by unfold both at hb; omega
  have hja : jAll xs ys k = xs ++ ys.drop b := by rw [jAll, hb]
  have hje : jE xs ys k = if (xs.drop k).take b ≠ ys.take b then 3 else if ¬ (xs ++ ys.drop b).Nodup then 3 else if 256 < (xs ++ ys.drop b).length then 6 else 0 := by rw [jE, hja, hb]
  have hml := mid_take xs k b hbx
  have hdl : (ys.drop b).length = ys.length - b := List.length_drop
  have hr1 : RdSl w (sufP p1 c1 k 1) iV ((xs.drop k).take b) := (h1.suf iV_len (by omega) hc1).pre iV_len b
  have hr2 : RdSl w p2 iV (ys.take b) := h2.pre iV_len b
  have hr3 : RdSl w (sufP p2 c2 b 1) iV (ys.drop b) := h2.suf iV_len hby hc2
  have heq := fun w1 (hc : Chg [] w w1) => ieqs_ok (sufP p1 c1 k 1) p2 (k + b - k) b (c1 - k) c2 ((xs.drop k).take b) (ys.take b) (by rw [hml]; omega) (by rw [List.length_take]; omega) (by omega) w1 (hr1.chg' hc (fun _ => Off.nil _)) (hr2.chg' hc (fun _ => Off.nil _))
  have hcat : icat [⟨p1, c1, xs⟩, ⟨sufP p2 c2 b 1, c2 - b, ys.drop b⟩] = xs ++ ys.drop b := by simp [icat]
  have hal : (xs ++ ys.drop b).length ≤ 512 := by rw [List.length_append]; omega
  have hcon : ∀ bq w1, Hp w [] [(bq, .cells ⟨[.slice p1 xs.length c1, .slice (sufP p2 c2 b 1) (ys.length - b) (c2 - b)]⟩ 39 (0, 0))] w1 → CallM Tryz.prog 87 [.slice (some ⟨bq, 0, none⟩) 2 2] [] w1 fun v L => ∃ ov, OvOk 1 ov (xs ++ ys.drop b).length (iis (xs ++ ys.drop b)) ∧ v = slV ov (xs ++ ys.drop b).length ∧ L = blkL 3 ov (iis (xs ++ ys.drop b)) := by
    intro bq w1 hw1
    have := iconcat_ok (some ⟨bq, 0, none⟩) 2 2 [⟨p1, c1, xs⟩, ⟨sufP p2 c2 b 1, c2 - b, ys.drop b⟩] rfl (by rw [hcat]; omega) (by decide) w1 (RdSl.of (junk := []) hw1 .head (by simp [fl, Pi.v, hdl])) (by
      intro z hz
      simp only [List.mem_cons, List.not_mem_nil, or_false] at hz
      rcases hz with rfl | rfl
      · exact h1.chg' hw1.chg (fun _ => Off.nil _)
      · exact hr3.chg' hw1.chg (fun _ => Off.nil _))
    rw [hcat] at this
    exact this
  have htw := fun p cap w1 hh => twice_ok p (xs ++ ys.drop b).length cap (xs ++ ys.drop b) rfl (by omega) w1 hh
  have hjl : jL xs ys k = if jE xs ys k = 0 then xs ++ ys.drop b else [] := by rw [jL, hja]
  refine enterK (tb := tb) Tryz.func149 rfl Tryz.ntmps149 rfl ?_
  repeat' (first | (apply R.is1; first | (apply R.isBin; (apply R.pure; exact rfl; (apply Ok1.sub64; exact rfl; exact rfl; omega; omega))) | (apply R.isCall; (apply R.pure; exact rfl; first | (apply Ok1.lenS; (iterate 3 exact rfl)) | (apply Ok1.min2; exact rfl; exact rfl))) | (apply R.pure; exact rfl; first | (apply Ok1.move; exact rfl) | (apply Ok1.assign; exact rfl))) | apply R.nil | (apply T.is; first | apply T.seq | apply T.region))
  rw [hmin]
  by_cases c : (xs.drop k).take b = ys.take b
  · rw [decide_eq_true c] at heq
    rw [if_neg (fun h => h c)] at hje
    generalize xs ++ ys.drop b = all at *
    by_cases hnd : all.Nodup
    · rw [decide_eq_false (fun h => h hnd)] at htw
      rw [if_neg (fun h => h hnd)] at hje
      by_cases hf : 256 < all.length
      · rw [if_pos hf] at hje
        rw [hje, if_neg (by decide)] at hjl
        rw [hje, hjl]
        repeat' (first | (apply R.is1; first | (apply R.isBin; (apply R.pure; exact rfl; (apply Ok1.gtr_t; exact rfl; exact rfl; omega))) | (apply R.isCall; first | (apply R.callE (vs := [.slice (some ⟨_, 0, none⟩) 2 2]); (iterate 3 exact rfl); exact Ext.none _; intro w1 hw1; exact hcon _ w1 hw1; rintro v Lo ⟨ov, hov, rfl, rfl⟩; rw [slV_eq hov]) | (apply R.callE (vs := [.slice (ovp ov) all.length (ovc ov all.length)]); (iterate 3 exact rfl); exact Ext.none _; intro w1 hw1; exact htw (ovp ov) (ovc ov all.length) w1 (irdown hov hw1 (Ext.mem (by (focus ((repeat' (exact Ext.here _ _)); done))))); rintro v Lo ⟨rfl, rfl⟩) | (apply R.pure; exact rfl; (apply Ok1.lenS; (iterate 3 exact rfl)))) | (apply R.pure; exact rfl; first | (apply Ok1.sufR (i := b) (sz := 1); (iterate 6 exact rfl); omega; omega) | (apply Ok1.move; exact rfl) | (apply Ok1.assign; exact rfl)) | (apply R.buildSlice; (iterate 12 exact rfl); intro)) | apply R.nil | (apply T.is; first | (apply T.drawC (id := 2) [] (by decide); ((apply A.tk 0; exact rfl; kernel_rfl; (apply Ok1.move; exact rfl)) <;> (apply A.tk 1; exact rfl; kernel_rfl; (apply Ok1.move; exact rfl)) <;> (apply A.tk 2; exact rfl; kernel_rfl; (apply Ok1.move; exact rfl)) <;> (apply A.tk 3; exact rfl; kernel_rfl; (apply Ok1.move; exact rfl)) <;> (apply A.tk 4; exact rfl; kernel_rfl; (apply Ok1.add64; exact rfl; exact rfl; omega; omega)) <;> (apply A.tk 5; exact rfl; kernel_rfl; (apply Ok1.midR (i := k) (j := k + b) (sz := 1); (iterate 6 exact rfl); exact congrArg (fun z : Int => some (Value.int .i64 z)) (Int.natCast_add k b).symm; omega; omega)) <;> (apply A.tk 6; exact rfl; kernel_rfl; (apply Ok1.move; exact rfl)) <;> (apply A.tk 7; exact rfl; kernel_rfl; (apply Ok1.move; exact rfl)) <;> (apply A.tk 8; exact rfl; kernel_rfl; (apply Ok1.preR (i := b); (iterate 5 exact rfl); omega)) <;> (apply A.one 9; kernel_rfl; exact rfl; (((apply R.callV (vs := [.slice (sufP p1 c1 k 1) (k + b - k) (c1 - k), .slice p2 b c2]); (iterate 3 exact rfl); intro w1 hw1; exact heq w1 hw1.chg))); apply R.nil; refine ⟨?_, ?_⟩; (focus ((repeat' (exact trivial))))) <;> (apply A.tk 10; exact rfl; kernel_rfl; (apply Ok1.not_t; exact rfl)) <;> (apply A.done; kernel_rfl))) | apply T.seq | apply T.region | apply T.block | apply T.skip | apply T.ret | (apply T.cond_t; exact rfl) | (apply T.cond_f; exact rfl)))
        (apply RetOk.tt; exact rfl; exact rfl)
        exact ⟨_, Keep.nil _, none, rfl, ⟨rfl, rfl⟩, rfl⟩
      · rw [if_neg hf] at hje
        rw [hje, if_pos rfl] at hjl
        rw [hje, hjl]
        repeat' (first | (apply R.is1; first | (apply R.isBin; (apply R.pure; exact rfl; (apply Ok1.gtr_f; exact rfl; exact rfl; omega))) | (apply R.isCall; first | (apply R.callE (vs := [.slice (some ⟨_, 0, none⟩) 2 2]); (iterate 3 exact rfl); exact Ext.none _; intro w1 hw1; exact hcon _ w1 hw1; rintro v Lo ⟨ov, hov, rfl, rfl⟩; rw [slV_eq hov]) | (apply R.callE (vs := [.slice (ovp ov) all.length (ovc ov all.length)]); (iterate 3 exact rfl); exact Ext.none _; intro w1 hw1; exact htw (ovp ov) (ovc ov all.length) w1 (irdown hov hw1 (Ext.mem (by (focus ((repeat' (exact Ext.here _ _)); done))))); rintro v Lo ⟨rfl, rfl⟩) | (apply R.pure; exact rfl; (apply Ok1.lenS; (iterate 3 exact rfl)))) | (apply R.pure; exact rfl; first | (apply Ok1.sufR (i := b) (sz := 1); (iterate 6 exact rfl); omega; omega) | (apply Ok1.move; exact rfl) | (apply Ok1.assign; exact rfl)) | (apply R.buildSlice; (iterate 12 exact rfl); intro)) | apply R.nil | (apply T.is; first | (apply T.drawC (id := 2) [] (by decide); ((apply A.tk 0; exact rfl; kernel_rfl; (apply Ok1.move; exact rfl)) <;> (apply A.tk 1; exact rfl; kernel_rfl; (apply Ok1.move; exact rfl)) <;> (apply A.tk 2; exact rfl; kernel_rfl; (apply Ok1.move; exact rfl)) <;> (apply A.tk 3; exact rfl; kernel_rfl; (apply Ok1.move; exact rfl)) <;> (apply A.tk 4; exact rfl; kernel_rfl; (apply Ok1.add64; exact rfl; exact rfl; omega; omega)) <;> (apply A.tk 5; exact rfl; kernel_rfl; (apply Ok1.midR (i := k) (j := k + b) (sz := 1); (iterate 6 exact rfl); exact congrArg (fun z : Int => some (Value.int .i64 z)) (Int.natCast_add k b).symm; omega; omega)) <;> (apply A.tk 6; exact rfl; kernel_rfl; (apply Ok1.move; exact rfl)) <;> (apply A.tk 7; exact rfl; kernel_rfl; (apply Ok1.move; exact rfl)) <;> (apply A.tk 8; exact rfl; kernel_rfl; (apply Ok1.preR (i := b); (iterate 5 exact rfl); omega)) <;> (apply A.one 9; kernel_rfl; exact rfl; (((apply R.callV (vs := [.slice (sufP p1 c1 k 1) (k + b - k) (c1 - k), .slice p2 b c2]); (iterate 3 exact rfl); intro w1 hw1; exact heq w1 hw1.chg))); apply R.nil; refine ⟨?_, ?_⟩; (focus ((repeat' (exact trivial))))) <;> (apply A.tk 10; exact rfl; kernel_rfl; (apply Ok1.not_t; exact rfl)) <;> (apply A.done; kernel_rfl))) | apply T.seq | apply T.region | apply T.block | apply T.skip | apply T.ret | (apply T.cond_f; exact rfl)))
        (apply RetOk.tt; exact rfl; exact rfl)
        refine ⟨_, ?_, ov, by rw [slV_eq hov], hov, rfl⟩
        (focus (repeat' first | exact Ext.here _ _ | apply Keep.last | apply Ext.app); done)
    · rw [decide_eq_true hnd] at htw
      rw [if_pos hnd] at hje
      rw [hje, if_neg (by decide)] at hjl
      rw [hje, hjl]
      repeat' (first | (apply R.is1; first | (apply R.isCall; first | (apply R.callE (vs := [.slice (some ⟨_, 0, none⟩) 2 2]); (iterate 3 exact rfl); exact Ext.none _; intro w1 hw1; exact hcon _ w1 hw1; rintro v Lo ⟨ov, hov, rfl, rfl⟩; rw [slV_eq hov]) | (apply R.callE (vs := [.slice (ovp ov) all.length (ovc ov all.length)]); (iterate 3 exact rfl); exact Ext.none _; intro w1 hw1; exact htw (ovp ov) (ovc ov all.length) w1 (irdown hov hw1 (Ext.mem (by (focus ((repeat' (exact Ext.here _ _)); done))))); rintro v Lo ⟨rfl, rfl⟩)) | (apply R.pure; exact rfl; first | (apply Ok1.sufR (i := b) (sz := 1); (iterate 6 exact rfl); omega; omega) | (apply Ok1.move; exact rfl) | (apply Ok1.assign; exact rfl)) | (apply R.buildSlice; (iterate 12 exact rfl); intro)) | apply R.nil | (apply T.is; first | (apply T.drawC (id := 2) [] (by decide); ((apply A.tk 0; exact rfl; kernel_rfl; (apply Ok1.move; exact rfl)) <;> (apply A.tk 1; exact rfl; kernel_rfl; (apply Ok1.move; exact rfl)) <;> (apply A.tk 2; exact rfl; kernel_rfl; (apply Ok1.move; exact rfl)) <;> (apply A.tk 3; exact rfl; kernel_rfl; (apply Ok1.move; exact rfl)) <;> (apply A.tk 4; exact rfl; kernel_rfl; (apply Ok1.add64; exact rfl; exact rfl; omega; omega)) <;> (apply A.tk 5; exact rfl; kernel_rfl; (apply Ok1.midR (i := k) (j := k + b) (sz := 1); (iterate 6 exact rfl); exact congrArg (fun z : Int => some (Value.int .i64 z)) (Int.natCast_add k b).symm; omega; omega)) <;> (apply A.tk 6; exact rfl; kernel_rfl; (apply Ok1.move; exact rfl)) <;> (apply A.tk 7; exact rfl; kernel_rfl; (apply Ok1.move; exact rfl)) <;> (apply A.tk 8; exact rfl; kernel_rfl; (apply Ok1.preR (i := b); (iterate 5 exact rfl); omega)) <;> (apply A.one 9; kernel_rfl; exact rfl; (((apply R.callV (vs := [.slice (sufP p1 c1 k 1) (k + b - k) (c1 - k), .slice p2 b c2]); (iterate 3 exact rfl); intro w1 hw1; exact heq w1 hw1.chg))); apply R.nil; refine ⟨?_, ?_⟩; (focus ((repeat' (exact trivial))))) <;> (apply A.tk 10; exact rfl; kernel_rfl; (apply Ok1.not_t; exact rfl)) <;> (apply A.done; kernel_rfl))) | apply T.seq | apply T.region | apply T.block | apply T.skip | apply T.ret | (apply T.cond_t; exact rfl) | (apply T.cond_f; exact rfl)))
      (apply RetOk.tt; exact rfl; exact rfl)
      exact ⟨_, Keep.nil _, none, rfl, ⟨rfl, rfl⟩, rfl⟩
  · rw [decide_eq_false c] at heq
    rw [if_pos c] at hje
    rw [hje, if_neg (by decide)] at hjl
    rw [hje, hjl]
    repeat' (first | (apply R.is1; (apply R.pure; exact rfl; (apply Ok1.assign; exact rfl))) | apply R.nil | (apply T.is; first | (apply T.drawC (id := 2) [] (by decide); ((apply A.tk 0; exact rfl; kernel_rfl; (apply Ok1.move; exact rfl)) <;> (apply A.tk 1; exact rfl; kernel_rfl; (apply Ok1.move; exact rfl)) <;> (apply A.tk 2; exact rfl; kernel_rfl; (apply Ok1.move; exact rfl)) <;> (apply A.tk 3; exact rfl; kernel_rfl; (apply Ok1.move; exact rfl)) <;> (apply A.tk 4; exact rfl; kernel_rfl; (apply Ok1.add64; exact rfl; exact rfl; omega; omega)) <;> (apply A.tk 5; exact rfl; kernel_rfl; (apply Ok1.midR (i := k) (j := k + b) (sz := 1); (iterate 6 exact rfl); exact congrArg (fun z : Int => some (Value.int .i64 z)) (Int.natCast_add k b).symm; omega; omega)) <;> (apply A.tk 6; exact rfl; kernel_rfl; (apply Ok1.move; exact rfl)) <;> (apply A.tk 7; exact rfl; kernel_rfl; (apply Ok1.move; exact rfl)) <;> (apply A.tk 8; exact rfl; kernel_rfl; (apply Ok1.preR (i := b); (iterate 5 exact rfl); omega)) <;> (apply A.one 9; kernel_rfl; exact rfl; (((apply R.callV (vs := [.slice (sufP p1 c1 k 1) (k + b - k) (c1 - k), .slice p2 b c2]); (iterate 3 exact rfl); intro w1 hw1; exact heq w1 hw1.chg))); apply R.nil; refine ⟨?_, ?_⟩; (focus ((repeat' (exact trivial))))) <;> (apply A.tk 10; exact rfl; kernel_rfl; (apply Ok1.not_f; exact rfl)) <;> (apply A.done; kernel_rfl))) | apply T.seq | apply T.region | apply T.ret | (apply T.cond_t; exact rfl)))
    (apply RetOk.tt; exact rfl; exact rfl)
    exact ⟨_, Keep.nil _, none, rfl, ⟨rfl, rfl⟩, rfl⟩
/-- A log, from where, and the delta's part of it. -/
abbrev Jx := List Int × Int × List Int
def JE (x : Jx) : Int := jE x.1 x.2.2 x.2.1.toNat
def JL (x : Jx) : List Int := jL x.1 x.2.2 x.2.1.toNat
def DR (dd : List (Int × List Int)) : Prop := ∀ y ∈ dd, 0 ≤ y.1 ∧ y.1 ≤ 256 ∧ y.2.length ≤ 256 ∧ SR y.2
instance (dd : List (Int × List Int)) : Decidable (DR dd) := by unfold DR; infer_instance
def appE (zz : List Jx) : Int := if ∃ x ∈ zz, (x.1.length : Int) < x.2.1 then 9 else if ∃ x ∈ zz, JE x = 3 then 3 else if ∃ x ∈ zz, JE x = 6 then 6 else 0
def appX (ls : List (List Int)) (dd : List (Int × List Int)) : Int := if DR dd then appE (ls.zip dd) else 10
def appN (ls : List (List Int)) (dd : List (Int × List Int)) : Int := if appX ls dd = 0 then ((ls.zip dd).map fun x => ((JL x).length : Int) - x.1.length).sum else 0
def appL (ls : List (List Int)) (dd : List (Int × List Int)) : List (List Int) := if appX ls dd = 0 then (ls.zip dd).map JL else ls
theorem je_cases (x : Jx) : JE x = 0 ∨ JE x = 3 ∨ JE x = 6 := by
  unfold JE jE
  by_cases c1 : (x.1.drop x.2.1.toNat).take (both x.1 x.2.2 x.2.1.toNat) ≠ x.2.2.take (both x.1 x.2.2 x.2.1.toNat)
  · exact .inr (.inl (if_pos c1))
  · rw [if_neg c1]
    by_cases c2 : ¬ (jAll x.1 x.2.2 x.2.1.toNat).Nodup
    · exact .inr (.inl (if_pos c2))
    · rw [if_neg c2]
      by_cases c3 : 256 < (jAll x.1 x.2.2 x.2.1.toNat).length
      · exact .inr (.inr (if_pos c3))
      · exact .inl (if_neg c3)
theorem jl_len (x : Jx) : (JL x).length ≤ 256 := by
  unfold JL jL
  by_cases h : jE x.1 x.2.2 x.2.1.toNat = 0
  · rw [if_pos h]
    unfold jE at h
    split at h
    · cases h
    · split at h
      · cases h
      · split at h
        · cases h
        · omega
  · rw [if_neg h]; simp
theorem covers_list (us vs : List Int) (ha : us.length = 4) (hb : vs.length = 4) : CallP Tryz.prog 75 [.agg ⟨iis us⟩, .agg ⟨iis vs⟩] (.bool (decide (∀ x ∈ us.zip vs, x.2 ≤ x.1))) := by
  match us, vs, ha, hb with
  | [a0, a1, a2, a3], [b0, b1, b2, b3], _, _ =>
    have h := covers_ok a0 a1 a2 a3 b0 b1 b2 b3
    have he : decide (b0 ≤ a0 ∧ b1 ≤ a1 ∧ b2 ≤ a2 ∧ b3 ≤ a3) = decide (∀ x ∈ [a0, a1, a2, a3].zip [b0, b1, b2, b3], x.2 ≤ x.1) := by
      simp
    rw [he] at h
    exact h
def zz (gs : List Lg) (d : Dl) : List Jx := (lgs gs).zip (d.map fun x => (x.1, x.2.xs))
theorem zz_get {gs : List Lg} {d : Dl} {i : Nat} {g : Lg} {x : Int × Pi} (h1 : gs[i]? = some g) (h2 : d[i]? = some x) : (zz gs d)[i]? = some (g.xs, x.1, x.2.xs) := by
  rw [zz, List.getElem?_zip_eq_some]
  simp [lgs, h1, h2]
theorem zz_len {gs : List Lg} {d : Dl} (h1 : gs.length = 4) (h2 : d.length = 4) : (zz gs d).length = 4 := by simp [zz, lgs, h1, h2]
def sumN (l : List Jx) : Int := (l.map fun x => ((JL x).length : Int) - x.1.length).sum
theorem sumN_snoc {l : List Jx} {i : Nat} {x : Jx} (h : l[i]? = some x) : sumN (l.take (i + 1)) = sumN (l.take i) + (((JL x).length : Int) - x.1.length) := by
  unfold sumN
  rw [List.take_add_one, h]
  simp
def fullB (l : List Jx) : Bool := l.any fun x => decide (JE x = 6)
theorem fullB_snoc {l : List Jx} {i : Nat} {x : Jx} (h : l[i]? = some x) : fullB (l.take (i + 1)) = (fullB (l.take i) || decide (JE x = 6)) := by
  unfold fullB
  rw [List.take_add_one, h, List.any_append]
  simp
theorem lens_eq (gs : List Lg) : lens gs = iis (gs.map fun g => (g.xs.length : Int)) := by simp [lens, iis]
theorem sumN_le (l : List Jx) (h : ∀ x ∈ l, x.1.length ≤ 256) : -(256 * (l.length : Int)) ≤ sumN l ∧ sumN l ≤ 256 * (l.length : Int) := by
  induction l with
  | nil => simp [sumN]
  | cons x l ih =>
    have h1 := h x List.mem_cons_self
    have h2 := jl_len x
    have h3 := ih fun y hy => h y (List.mem_cons_of_mem _ hy)
    simp only [sumN, List.map_cons, List.sum_cons, List.length_cons] at *
    omega
theorem setV_all {gs : List Lg} (hl : gs.length = 4) : subE (setV gs) 0 4 = some (setV gs) := by
  exact subE_all (by rw [setV, List.length_map, hl])
theorem set_mid {α : Type} {A : List α} {n i : Nat} {z y : α} (h : A.length = i) : (A ++ List.replicate (n + 1) z).set i y = (A ++ [y]) ++ List.replicate n z := by
  subst h
  rw [List.set_append_right _ _ (Nat.le_refl _), Nat.sub_self, List.replicate_succ, List.set_cons_zero, List.append_assoc]
  rfl
theorem apply_ok (bs : Nat) (gs : List Lg) (hg : GOk gs) (d : Dl) (hd : d.length = 4) (hdb : ∀ x ∈ d, x.2.xs.length ≤ 1000000 ∧ x.2.xs.length ≤ x.2.cap) (w : World) (hr : ∀ x ∈ d, RdSl w x.2.p iV x.2.xs) (hoff : ∀ x ∈ d, x.2.xs ≠ [] → Off x.2.p (blks (SetL bs gs))) :
    CallM Tryz.prog 73 [.pointer (some ⟨bs, 0, none⟩), .agg ⟨dlV d⟩] (SetL bs gs) w fun v L => ∃ gs', v = .tuple #[.int .i64 (appN (lgs gs) (d.map fun x => (x.1, x.2.xs))), .int .i64 (appX (lgs gs) (d.map fun x => (x.1, x.2.xs)))] ∧ lgs gs' = appL (lgs gs) (d.map fun x => (x.1, x.2.xs)) ∧ GOk gs' ∧ L = SetL bs gs' := by
  have hrd := fun x hx w1 (hc : Chg (blks (SetL bs gs)) w w1) => (hr x hx).chg' hc (hoff x hx)
  have hchk := fun w1 (hc : Chg (blks (SetL bs gs)) w w1) => rcheck_ok d hd (fun x hx => (hdb x hx).1) w1 (fun x hx => hrd x hx w1 hc)
  have hdr : DOk d ↔ DR (d.map fun x => (x.1, x.2.xs)) := by
    unfold DOk DR
    rw [List.forall_mem_map]
    exact Iff.rfl
  have hdl : (dlV d).length = 8 := by simp [dlV, fl_pi, iis_len, hd]
  have hfr := dl_froms hd
  by_cases hok : DOk d
  · rw [if_pos hok] at hchk
    have hX : appX (lgs gs) (d.map fun x => (x.1, x.2.xs)) = appE (zz gs d) := if_pos (hdr.1 hok)
    have hN : appN (lgs gs) (d.map fun x => (x.1, x.2.xs)) = if appE (zz gs d) = 0 then sumN (zz gs d) else 0 := by rw [appN, hX]; rfl
    have hLL : appL (lgs gs) (d.map fun x => (x.1, x.2.xs)) = if appE (zz gs d) = 0 then (zz gs d).map JL else lgs gs := by rw [appL, hX]; rfl
    rw [hX, hN, hLL]
    clear hX hN hLL
    have hcov := covers_list (gs.map fun g => (g.xs.length : Int)) (d.map (·.1)) (by rw [List.length_map, hg.len]) (by rw [List.length_map, hd])
    rw [← lens_eq] at hcov
    have hver : ∀ L w1, (∀ x ∈ SetL bs gs, x ∈ L) → Hp w (blks (SetL bs gs)) L w1 → CallW Tryz.prog 70 [.pointer (some ⟨bs, 0, none⟩)] w1 fun v _ => v = .agg ⟨lens gs⟩ := fun L w1 hin hw1 => versions_ok bs gs hg w1 (SetR.of hg hw1 hin)
    have hall9 : (∀ x ∈ (gs.map fun g => (g.xs.length : Int)).zip (d.map (·.1)), x.2 ≤ x.1) ↔ ¬ ∃ x ∈ zz gs d, (x.1.length : Int) < x.2.1 := by
      unfold zz lgs
      rw [List.zip_map, List.zip_map, List.forall_mem_map]
      constructor
      · rintro h ⟨y, hy, hq⟩
        obtain ⟨z, hz, rfl⟩ := List.mem_map.1 hy
        have h5 := h z hz
        simp only [Prod.map] at h5 hq
        omega
      · intro h z hz
        refine Classical.byContradiction fun hc => h ⟨_, List.mem_map.2 ⟨z, hz, rfl⟩, ?_⟩
        simp only [Prod.map] at hc ⊢
        omega
    by_cases h9 : ∃ x ∈ zz gs d, (x.1.length : Int) < x.2.1
    · have hE : appE (zz gs d) = 9 := if_pos h9
      rw [hE, if_neg (by decide), if_neg (by decide)]
      rw [decide_eq_false (fun h => (hall9.1 h) h9)] at hcov
      refine enterK (tb := tb) Tryz.func73 rfl Tryz.ntmps73 rfl ?_
      simp only [SetL]
      repeat' (first | (apply R.is1; first | (apply R.isBin; (apply R.pure; exact rfl; first | (apply Ok1.neq_f; exact rfl; exact rfl; omega) | (apply Ok1.eqlP; (iterate 5 exact rfl)))) | (apply R.isCall; (apply R.callV (vs := [.agg ⟨dlV d⟩]); (iterate 3 exact rfl); intro w1 hw1; exact hchk w1 hw1.chg)) | (apply R.pure; exact rfl; first | (apply Ok1.load; exact rfl; (apply Ld.ownk; exact rfl; exact rfl; exact At.head; exact subE_all hdl)) | (apply Ok1.move; exact rfl) | (apply Ok1.assign; exact rfl)) | (apply R.box; (iterate 3 exact rfl); intro)) | apply R.nil | (apply T.is; first | (apply T.drawC (id := 6) [0] (by decide); ((apply A.tk 0; exact rfl; kernel_rfl; (apply Ok1.move; exact rfl)) <;> (apply A.tk 2; exact rfl; kernel_rfl; (apply Ok1.fieldAddr; (iterate 5 exact rfl))) <;> (apply A.tk 3; exact rfl; kernel_rfl; (apply Ok1.load; exact rfl; (apply Ld.ownk; exact rfl; exact rfl; exact At.head; exact hfr))) <;> (apply A.one 1; kernel_rfl; exact rfl; (((apply R.callV (vs := [.pointer (some ⟨bs, 0, none⟩)]); (iterate 3 exact rfl); intro w1 hw1; exact hver _ w1 (fun x hx => List.mem_cons_of_mem _ hx) hw1))); apply R.nil; refine ⟨?_, ?_⟩; (focus ((repeat' (first | exact trivial | (refine ⟨?_, ?_⟩; exact At.head)))))) <;> (apply A.one 4; kernel_rfl; exact rfl; ((apply R.callP rfl rfl rfl hcov)); apply R.nil; refine ⟨?_, ?_⟩; (focus ((repeat' (first | exact trivial | (refine ⟨?_, ?_⟩; exact At.head)))))) <;> (apply A.tk 5; exact rfl; kernel_rfl; (apply Ok1.not_f; exact rfl)) <;> (apply A.done; kernel_rfl))) | apply T.seq | apply T.region | apply T.skip | apply T.ret | (apply T.cond_t; exact rfl) | (apply T.cond_f; exact rfl)))
      (apply RetOk.tt; exact rfl; exact rfl)
      exact ⟨_, by (focus (repeat' first | exact Ext.one _ _ | exact Ext.all _ | apply Keep.cons | apply Keep.last | apply Ext.cons); done), gs, rfl, rfl, hg, rfl⟩
    · have hE : appE (zz gs d) = if ∃ x ∈ zz gs d, JE x = 3 then 3 else if ∃ x ∈ zz gs d, JE x = 6 then 6 else 0 := if_neg h9
      rw [decide_eq_true (hall9.2 h9)] at hcov
      have hzl := zz_len hg.len hd
      have hz256 : ∀ x ∈ zz gs d, x.1.length ≤ 256 := by
        intro x hx
        unfold zz lgs at hx
        obtain ⟨g, hgm, he⟩ := List.mem_map.1 (List.of_mem_zip hx).1
        rw [← he]
        exact hg.le g hgm
      refine enterK (tb := tb) Tryz.func73 rfl Tryz.ntmps73 rfl ?_
      simp only [SetL]
      repeat' (first | (apply R.is1; first | (apply R.isBin; (apply R.pure; exact rfl; first | (apply Ok1.neq_f; exact rfl; exact rfl; omega) | (apply Ok1.eqlP; (iterate 5 exact rfl)))) | (apply R.isCall; first | (apply R.callV (vs := [.agg ⟨dlV d⟩]); (iterate 3 exact rfl); intro w1 hw1; exact hchk w1 hw1.chg) | (apply R.callE (vs := []); (iterate 3 exact rfl); exact Ext.none _; intro w1 hw1; exact rnew_ok w1; rintro v Lo ⟨bc, rfl, rfl⟩)) | (apply R.pure; exact rfl; first | (apply Ok1.load; exact rfl; (apply Ld.ownk; exact rfl; exact rfl; exact At.head; exact subE_all hdl)) | (apply Ok1.move; exact rfl) | (apply Ok1.assign; exact rfl)) | (apply R.box; (iterate 3 exact rfl); intro)) | apply R.nil | (apply T.is; first | (apply T.drawC (id := 6) [0] (by decide); ((apply A.tk 0; exact rfl; kernel_rfl; (apply Ok1.move; exact rfl)) <;> (apply A.tk 2; exact rfl; kernel_rfl; (apply Ok1.fieldAddr; (iterate 5 exact rfl))) <;> (apply A.tk 3; exact rfl; kernel_rfl; (apply Ok1.load; exact rfl; (apply Ld.ownk; exact rfl; exact rfl; exact At.head; exact hfr))) <;> (apply A.one 1; kernel_rfl; exact rfl; (((apply R.callV (vs := [.pointer (some ⟨bs, 0, none⟩)]); (iterate 3 exact rfl); intro w1 hw1; exact hver _ w1 (fun x hx => List.mem_cons_of_mem _ hx) hw1))); apply R.nil; refine ⟨?_, ?_⟩; (focus ((repeat' (first | exact trivial | (refine ⟨?_, ?_⟩; exact At.head)))))) <;> (apply A.one 4; kernel_rfl; exact rfl; ((apply R.callP rfl rfl rfl hcov)); apply R.nil; refine ⟨?_, ?_⟩; (focus ((repeat' (first | exact trivial | (refine ⟨?_, ?_⟩; exact At.head)))))) <;> (apply A.tk 5; exact rfl; kernel_rfl; (apply Ok1.not_t; exact rfl)) <;> (apply A.done; kernel_rfl))) | apply T.seq | apply T.region | apply T.block | apply T.skip | (apply T.cond_f; exact rfl)))
      rename_i bd
      apply T.loopK (α := Nat × List Lg) (I := fun y => y.1 ≤ 4 ∧ GOk y.2 ∧ lgs y.2 = ((zz gs d).take y.1).map JL ++ List.replicate (4 - y.1) [] ∧ ∀ x ∈ (zz gs d).take y.1, JE x ≠ 3)
        (σi := fun y => [(0, .pointer (some ⟨bs, 0, none⟩)), (3, .pointer (some ⟨bd, 0, none⟩)), (7, .pointer (some ⟨bc, 0, none⟩)), (8, .int .i64 (sumN ((zz gs d).take y.1))), (9, .bool (fullB ((zz gs d).take y.1))), (27, .int .i64 y.1)])
        (Li := fun y => (bd, .cells ⟨dlV d⟩ 76 (0, 0)) :: (bs, .cells ⟨setV gs⟩ 191 (0, 0)) :: (bc, .cells ⟨setV y.2⟩ 191 (0, 0)) :: (LsL gs ++ LsL y.2)) (μ := fun y => 4 - y.1) (i0 := (0, [lg0, lg0, lg0, lg0]))
      · exact ⟨Nat.zero_le _, GOk.new, rfl, by simp⟩
      · exact ⟨rfl, rfl, rfl, rfl, rfl, rfl, trivial⟩
      · simp only [SetL, List.cons_append]
        (focus (repeat' first | exact Keep.nil _ | exact Ext.one _ _ | exact Ext.all _ | apply Keep.cons | apply Keep.app | apply Ext.cons); done)
      · rintro ⟨i, gs2⟩ ⟨hi, hg2, hlg2, hn3⟩
        simp only at hi hg2 hlg2 hn3 ⊢
        rcases Nat.lt_or_ge i 4 with hlt | hge
        · obtain ⟨g, hx1⟩ : ∃ g, gs[i]? = some g := ⟨_, List.getElem?_eq_getElem (by rw [hg.len]; omega)⟩
          obtain ⟨x, hx2⟩ : ∃ x, d[i]? = some x := ⟨_, List.getElem?_eq_getElem (by rw [hd]; omega)⟩
          obtain ⟨g2, hx3⟩ : ∃ g2, gs2[i]? = some g2 := ⟨_, List.getElem?_eq_getElem (by rw [hg2.len]; omega)⟩
          have hm := List.mem_of_getElem? hx1
          have hgo := hg.ok g hm
          have hgl := hg.le g hm
          have hxm := List.mem_of_getElem? hx2
          obtain ⟨hx0, hx256, hxl, _⟩ := hok x hxm
          have hxc := (hdb x hxm).2
          have hz := zz_get hx1 hx2
          have hzm := List.mem_of_getElem? hz
          obtain ⟨k, hk⟩ : ∃ k : Nat, x.1 = k := ⟨x.1.toNat, by omega⟩
          have hle : k ≤ g.xs.length := by
            have hnl : ¬ ((g.xs.length : Int) < x.1) := fun h => h9 ⟨_, hzm, h⟩
            omega
          have hcell := setV_get hx1 hgo
          have hf : (dlV d)[0 + i * 1]? = some (.int .i64 k) := by
            have := dl_from hx2
            rw [Nat.zero_add, dlV, List.getElem?_append_left (by rw [iis_len, List.length_map]; omega), this, hk]
          have hl4 := dl_log hd hx2
          have hJE : JE (g.xs, x.1, x.2.xs) = jE g.xs x.2.xs k := by rw [JE, hk, Int.toNat_natCast]
          have hJL : JL (g.xs, x.1, x.2.xs) = jL g.xs x.2.xs k := by rw [JL, hk, Int.toNat_natCast]
          have hjl := jl_len (g.xs, x.1, x.2.xs)
          have hjc := je_cases (g.xs, x.1, x.2.xs)
          have hsn := sumN_snoc hz
          have hfn := fullB_snoc hz
          rw [hJL] at hjl hsn
          rw [hJE] at hjc hfn
          have hsb := sumN_le ((zz gs d).take i) fun y hy => hz256 y (List.mem_of_mem_take hy)
          have htl : ((zz gs d).take i).length = i := by rw [List.length_take]; omega
          rw [htl] at hsb
          have hset := fun g' => setV_set (gs := gs2) (i := i) g' (by rw [hg2.len]; omega)
          have hjo : ∀ w1 L, Hp w (blks (SetL bs gs)) L w1 → (∃ L1, Ext L (LsL gs) L1) → CallM Tryz.prog 149 [.slice (ovp g.ov) g.xs.length (ovc g.ov g.xs.length), .int .i64 k, .slice x.2.p x.2.xs.length x.2.cap] [] w1 fun v L => ∃ ov, v = .tuple #[slV ov (jL g.xs x.2.xs k).length, .int .i64 (jE g.xs x.2.xs k)] ∧ OvOk 1 ov (jL g.xs x.2.xs k).length (iis (jL g.xs x.2.xs k)) ∧ L = blkL 3 ov (iis (jL g.xs x.2.xs k)) := by
            rintro w1 L hw1 ⟨L1, hL1⟩
            have hcc : g.xs.length ≤ ovc g.ov g.xs.length := by
              unfold ovc
              cases hov : g.ov with
              | none => have := hgo.2; rw [hov] at this; simp only at this ⊢; omega
              | some q => simp only; omega
            exact joined_ok _ _ _ g.xs rfl hcc hgl k hle _ _ _ x.2.xs rfl hxc hxl w1 (Lg.rd hgo hw1 fun z hz => Ext.mem hL1 z (mem_LsL hm hz)) (hrd x hxm w1 hw1.chg)
          have hmem3 : (g.xs, x.1, x.2.xs) ∈ (zz gs d).take (i + 1) := by
            rw [List.take_add_one, hz]
            exact List.mem_append_right _ (List.mem_singleton.2 rfl)
          have hnext : ∀ ov, OvOk 1 ov (jL g.xs x.2.xs k).length (iis (jL g.xs x.2.xs k)) → jE g.xs x.2.xs k ≠ 3 → (i + 1 ≤ 4 ∧ GOk (gs2.set i ⟨ov, jL g.xs x.2.xs k⟩) ∧ lgs (gs2.set i ⟨ov, jL g.xs x.2.xs k⟩) = ((zz gs d).take (i + 1)).map JL ++ List.replicate (4 - (i + 1)) [] ∧ ∀ x ∈ (zz gs d).take (i + 1), JE x ≠ 3) := by
            intro ov hov hne
            refine ⟨by omega, hg2.set i hov hjl, ?_, ?_⟩
            · rw [lgs, List.map_set, ← lgs, hlg2, show 4 - i = (4 - (i + 1)) + 1 by omega, set_mid (by rw [List.length_map, htl]), List.take_add_one, hz]
              simp [hJL]
            · intro y hy
              rw [List.take_add_one, hz, List.mem_append] at hy
              rcases hy with hy | hy
              · exact hn3 y hy
              · simp only [Option.toList_some, List.mem_singleton] at hy
                rw [hy, hJE]
                exact hne
          rcases hjc with hj | hj | hj
          · simp only [hj] at hjo hfn
            repeat' (first | (apply R.is1; first | (apply R.isBin; (apply R.pure; exact rfl; first | (apply Ok1.add64; exact rfl; exact rfl; omega; omega) | (apply Ok1.sub64; exact rfl; exact rfl; omega; omega) | (apply Ok1.lss_t; exact rfl; exact rfl; omega) | (apply Ok1.eql_f; exact rfl; exact rfl; omega))) | (apply R.isCall; (apply R.pure; exact rfl; (apply Ok1.lenS; (iterate 3 exact rfl)))) | (apply R.pure; exact rfl; first | (apply Ok1.load; exact rfl; (apply Ld.own1; exact rfl; exact rfl; (focus (repeat' first | exact At.head | apply At.tail | apply At.right); done); exact hcell)) | (apply Ok1.move; exact rfl) | (apply Ok1.fieldAddr; (iterate 5 exact rfl)) | (apply Ok1.assign; exact rfl) | (apply Ok1.indexAddrA; (iterate 5 exact rfl); omega; omega) | (apply Ok1.nilCheck; exact rfl))) | (apply R.is0; (apply R.store; (iterate 6 exact rfl); (focus (repeat' first | exact Upd.head | apply Upd.tail | apply Upd.right); done); have h9 := hset ⟨ov, jL g.xs x.2.xs k⟩; rw [Lg.v_eq (g := ⟨ov, jL g.xs x.2.xs k⟩) hov] at h9; exact h9)) | apply R.nil | (apply T.is; first | (apply T.drawC (id := 12) [0,1] (by decide); ((apply A.tk 0; exact rfl; kernel_rfl; (apply Ok1.move; exact rfl)) <;> (apply A.tk 1; exact rfl; kernel_rfl; (apply Ok1.move; exact rfl)) <;> (apply A.tk 2; exact rfl; kernel_rfl; (apply Ok1.nilCheck; exact rfl)) <;> (apply A.tk 3; exact rfl; kernel_rfl; (apply Ok1.fieldAddr; (iterate 5 exact rfl))) <;> (apply A.tk 4; exact rfl; kernel_rfl; (apply Ok1.indexAddrA; (iterate 5 exact rfl); omega; omega)) <;> (apply A.tk 5; exact rfl; kernel_rfl; (apply Ok1.load; exact rfl; (apply Ld.own1; exact rfl; exact rfl; (focus (repeat' first | exact At.head | apply At.tail); done); exact hcell))) <;> (apply A.tk 6; exact rfl; kernel_rfl; (apply Ok1.move; exact rfl)) <;> (apply A.tk 7; exact rfl; kernel_rfl; (apply Ok1.fieldAddr; (iterate 5 exact rfl))) <;> (apply A.tk 8; exact rfl; kernel_rfl; (apply Ok1.indexAddrA; (iterate 5 exact rfl); omega; omega)) <;> (apply A.tk 9; exact rfl; kernel_rfl; (apply Ok1.load; exact rfl; (apply Ld.own1; exact rfl; exact rfl; exact At.head; exact hf))) <;> (apply A.tk 10; exact rfl; kernel_rfl; (apply Ok1.move; exact rfl)) <;> (apply A.tk 11; exact rfl; kernel_rfl; (apply Ok1.fieldAddr; (iterate 5 exact rfl))) <;> (apply A.tk 12; exact rfl; kernel_rfl; (apply Ok1.indexAddrA; (iterate 5 exact rfl); omega; omega)) <;> (apply A.tk 13; exact rfl; kernel_rfl; (apply Ok1.load; exact rfl; (apply Ld.own1; exact rfl; exact rfl; exact At.head; exact hl4))) <;> (apply A.one 14; kernel_rfl; exact rfl; (((apply R.callE (vs := [.slice (ovp g.ov) g.xs.length (ovc g.ov g.xs.length), .int .i64 k, .slice x.2.p x.2.xs.length x.2.cap]); (iterate 3 exact rfl); exact Ext.none _; intro w1 hw1; exact hjo w1 _ hw1 ⟨_, by (focus (repeat' first | exact Ext.here _ _ | apply Ext.cons); done)⟩; rintro v Lo ⟨ov, rfl, hov, rfl⟩; rw [slV_eq hov]))); apply R.nil; refine ⟨?_, ?_⟩; (focus (repeat' first | exact trivial | exact At.head | apply At.tail | apply At.right | refine ⟨?_, ?_⟩))) <;> (apply A.tk 15; exact rfl; kernel_rfl; (apply Ok1.move; exact rfl)) <;> (apply A.tk 16; exact rfl; kernel_rfl; (apply Ok1.extract; exact rfl; exact rfl)) <;> (apply A.tk 17; exact rfl; kernel_rfl; (apply Ok1.extract; exact rfl; exact rfl)) <;> (apply A.tk 18; exact rfl; kernel_rfl; (apply Ok1.assign; exact rfl)) <;> (apply A.tk 19; exact rfl; kernel_rfl; (apply Ok1.assign; exact rfl)) <;> (apply A.done; kernel_rfl))) | apply T.seq | apply T.region | apply T.block | apply T.skip | (apply T.cond_t; exact rfl) | (apply T.cond_f; exact rfl)))
            refine ⟨(i + 1, gs2.set i ⟨ov, jL g.xs x.2.xs k⟩), hnext ov hov (by rw [hj]; decide), by simp only; omega, ⟨rfl, rfl, rfl, ?_, ?_, rfl, trivial⟩, ?_⟩
            · simp only [hsn]; rfl
            · simp only [hfn]; simp; rfl
            · simp only
              rw [LsL_set _ (by rw [hg2.len]; omega), LsL_at hx3]
              simp only [Lg.L]
              (focus (repeat' first | exact Ext.one _ _ | exact Ext.here _ _ | exact Ext.all _ | apply Keep.cons | apply Keep.app | apply Keep.last | apply Ext.app); done)
          · simp only [hj] at hjo hfn
            have h3 : ∃ x ∈ zz gs d, JE x = 3 := ⟨_, hzm, by rw [hJE, hj]⟩
            rw [hE, if_pos h3, if_neg (by decide), if_neg (by decide)]
            repeat' (first | (apply R.is1; first | (apply R.isBin; (apply R.pure; exact rfl; first | (apply Ok1.lss_t; exact rfl; exact rfl; omega) | (apply Ok1.eql_t; exact rfl; exact rfl; omega))) | (apply R.pure; exact rfl; first | (apply Ok1.move; exact rfl) | (apply Ok1.assign; exact rfl))) | apply R.nil | (apply T.is; first | (apply T.drawC (id := 12) [0,1] (by decide); ((apply A.tk 0; exact rfl; kernel_rfl; (apply Ok1.move; exact rfl)) <;> (apply A.tk 1; exact rfl; kernel_rfl; (apply Ok1.move; exact rfl)) <;> (apply A.tk 2; exact rfl; kernel_rfl; (apply Ok1.nilCheck; exact rfl)) <;> (apply A.tk 3; exact rfl; kernel_rfl; (apply Ok1.fieldAddr; (iterate 5 exact rfl))) <;> (apply A.tk 4; exact rfl; kernel_rfl; (apply Ok1.indexAddrA; (iterate 5 exact rfl); omega; omega)) <;> (apply A.tk 5; exact rfl; kernel_rfl; (apply Ok1.load; exact rfl; (apply Ld.own1; exact rfl; exact rfl; (focus (repeat' first | exact At.head | apply At.tail); done); exact hcell))) <;> (apply A.tk 6; exact rfl; kernel_rfl; (apply Ok1.move; exact rfl)) <;> (apply A.tk 7; exact rfl; kernel_rfl; (apply Ok1.fieldAddr; (iterate 5 exact rfl))) <;> (apply A.tk 8; exact rfl; kernel_rfl; (apply Ok1.indexAddrA; (iterate 5 exact rfl); omega; omega)) <;> (apply A.tk 9; exact rfl; kernel_rfl; (apply Ok1.load; exact rfl; (apply Ld.own1; exact rfl; exact rfl; exact At.head; exact hf))) <;> (apply A.tk 10; exact rfl; kernel_rfl; (apply Ok1.move; exact rfl)) <;> (apply A.tk 11; exact rfl; kernel_rfl; (apply Ok1.fieldAddr; (iterate 5 exact rfl))) <;> (apply A.tk 12; exact rfl; kernel_rfl; (apply Ok1.indexAddrA; (iterate 5 exact rfl); omega; omega)) <;> (apply A.tk 13; exact rfl; kernel_rfl; (apply Ok1.load; exact rfl; (apply Ld.own1; exact rfl; exact rfl; exact At.head; exact hl4))) <;> (apply A.one 14; kernel_rfl; exact rfl; (((apply R.callE (vs := [.slice (ovp g.ov) g.xs.length (ovc g.ov g.xs.length), .int .i64 k, .slice x.2.p x.2.xs.length x.2.cap]); (iterate 3 exact rfl); exact Ext.none _; intro w1 hw1; exact hjo w1 _ hw1 ⟨_, by (focus (repeat' first | exact Ext.here _ _ | apply Ext.cons); done)⟩; rintro v Lo ⟨ov, rfl, hov, rfl⟩; rw [slV_eq hov]))); apply R.nil; refine ⟨?_, ?_⟩; (focus (repeat' first | exact trivial | exact At.head | apply At.tail | apply At.right | refine ⟨?_, ?_⟩))) <;> (apply A.tk 15; exact rfl; kernel_rfl; (apply Ok1.move; exact rfl)) <;> (apply A.tk 16; exact rfl; kernel_rfl; (apply Ok1.extract; exact rfl; exact rfl)) <;> (apply A.tk 17; exact rfl; kernel_rfl; (apply Ok1.extract; exact rfl; exact rfl)) <;> (apply A.tk 18; exact rfl; kernel_rfl; (apply Ok1.assign; exact rfl)) <;> (apply A.tk 19; exact rfl; kernel_rfl; (apply Ok1.assign; exact rfl)) <;> (apply A.done; kernel_rfl))) | apply T.seq | apply T.region | apply T.block | apply T.skip | apply T.ret | (apply T.cond_t; exact rfl)))
            (apply RetOk.tt; exact rfl; exact rfl)
            exact ⟨_, by (focus (repeat' first | exact Ext.one _ _ | exact Ext.here _ _ | apply Keep.cons | apply Keep.last | apply Ext.cons | apply Ext.app); done), gs, rfl, rfl, hg, rfl⟩
          · simp only [hj] at hjo hfn
            repeat' (first | (apply R.is1; first | (apply R.isBin; (apply R.pure; exact rfl; first | (apply Ok1.add64; exact rfl; exact rfl; omega; omega) | (apply Ok1.sub64; exact rfl; exact rfl; omega; omega) | (apply Ok1.lss_t; exact rfl; exact rfl; omega) | (apply Ok1.eql_t; exact rfl; exact rfl; omega) | (apply Ok1.eql_f; exact rfl; exact rfl; omega))) | (apply R.isCall; (apply R.pure; exact rfl; (apply Ok1.lenS; (iterate 3 exact rfl)))) | (apply R.pure; exact rfl; first | (apply Ok1.load; exact rfl; (apply Ld.own1; exact rfl; exact rfl; (focus (repeat' first | exact At.head | apply At.tail | apply At.right); done); exact hcell)) | (apply Ok1.move; exact rfl) | (apply Ok1.fieldAddr; (iterate 5 exact rfl)) | (apply Ok1.assign; exact rfl) | (apply Ok1.indexAddrA; (iterate 5 exact rfl); omega; omega) | (apply Ok1.nilCheck; exact rfl))) | (apply R.is0; (apply R.store; (iterate 6 exact rfl); (focus (repeat' first | exact Upd.head | apply Upd.tail | apply Upd.right); done); have h9 := hset ⟨ov, jL g.xs x.2.xs k⟩; rw [Lg.v_eq (g := ⟨ov, jL g.xs x.2.xs k⟩) hov] at h9; exact h9)) | apply R.nil | (apply T.is; first | (apply T.drawC (id := 12) [0,1] (by decide); ((apply A.tk 0; exact rfl; kernel_rfl; (apply Ok1.move; exact rfl)) <;> (apply A.tk 1; exact rfl; kernel_rfl; (apply Ok1.move; exact rfl)) <;> (apply A.tk 2; exact rfl; kernel_rfl; (apply Ok1.nilCheck; exact rfl)) <;> (apply A.tk 3; exact rfl; kernel_rfl; (apply Ok1.fieldAddr; (iterate 5 exact rfl))) <;> (apply A.tk 4; exact rfl; kernel_rfl; (apply Ok1.indexAddrA; (iterate 5 exact rfl); omega; omega)) <;> (apply A.tk 5; exact rfl; kernel_rfl; (apply Ok1.load; exact rfl; (apply Ld.own1; exact rfl; exact rfl; (focus (repeat' first | exact At.head | apply At.tail); done); exact hcell))) <;> (apply A.tk 6; exact rfl; kernel_rfl; (apply Ok1.move; exact rfl)) <;> (apply A.tk 7; exact rfl; kernel_rfl; (apply Ok1.fieldAddr; (iterate 5 exact rfl))) <;> (apply A.tk 8; exact rfl; kernel_rfl; (apply Ok1.indexAddrA; (iterate 5 exact rfl); omega; omega)) <;> (apply A.tk 9; exact rfl; kernel_rfl; (apply Ok1.load; exact rfl; (apply Ld.own1; exact rfl; exact rfl; exact At.head; exact hf))) <;> (apply A.tk 10; exact rfl; kernel_rfl; (apply Ok1.move; exact rfl)) <;> (apply A.tk 11; exact rfl; kernel_rfl; (apply Ok1.fieldAddr; (iterate 5 exact rfl))) <;> (apply A.tk 12; exact rfl; kernel_rfl; (apply Ok1.indexAddrA; (iterate 5 exact rfl); omega; omega)) <;> (apply A.tk 13; exact rfl; kernel_rfl; (apply Ok1.load; exact rfl; (apply Ld.own1; exact rfl; exact rfl; exact At.head; exact hl4))) <;> (apply A.one 14; kernel_rfl; exact rfl; (((apply R.callE (vs := [.slice (ovp g.ov) g.xs.length (ovc g.ov g.xs.length), .int .i64 k, .slice x.2.p x.2.xs.length x.2.cap]); (iterate 3 exact rfl); exact Ext.none _; intro w1 hw1; exact hjo w1 _ hw1 ⟨_, by (focus (repeat' first | exact Ext.here _ _ | apply Ext.cons); done)⟩; rintro v Lo ⟨ov, rfl, hov, rfl⟩; rw [slV_eq hov]))); apply R.nil; refine ⟨?_, ?_⟩; (focus (repeat' first | exact trivial | exact At.head | apply At.tail | apply At.right | refine ⟨?_, ?_⟩))) <;> (apply A.tk 15; exact rfl; kernel_rfl; (apply Ok1.move; exact rfl)) <;> (apply A.tk 16; exact rfl; kernel_rfl; (apply Ok1.extract; exact rfl; exact rfl)) <;> (apply A.tk 17; exact rfl; kernel_rfl; (apply Ok1.extract; exact rfl; exact rfl)) <;> (apply A.tk 18; exact rfl; kernel_rfl; (apply Ok1.assign; exact rfl)) <;> (apply A.tk 19; exact rfl; kernel_rfl; (apply Ok1.assign; exact rfl)) <;> (apply A.done; kernel_rfl))) | apply T.seq | apply T.region | apply T.block | apply T.skip | (apply T.cond_t; exact rfl) | (apply T.cond_f; exact rfl)))
            refine ⟨(i + 1, gs2.set i ⟨ov, jL g.xs x.2.xs k⟩), hnext ov hov (by rw [hj]; decide), by simp only; omega, ⟨rfl, rfl, rfl, ?_, ?_, rfl, trivial⟩, ?_⟩
            · simp only [hsn]; rfl
            · simp only [hfn]; simp; rfl
            · simp only
              rw [LsL_set _ (by rw [hg2.len]; omega), LsL_at hx3]
              simp only [Lg.L]
              (focus (repeat' first | exact Ext.one _ _ | exact Ext.here _ _ | exact Ext.all _ | apply Keep.cons | apply Keep.app | apply Keep.last | apply Ext.app); done)
        · have him : i = 4 := by omega
          subst him
          have htk : (zz gs d).take 4 = zz gs d := List.take_of_length_le (by omega)
          rw [htk] at hlg2 hn3 ⊢
          rw [if_neg (fun ⟨x, hx, he⟩ => hn3 x hx he)] at hE
          rw [Nat.sub_self, List.replicate_zero, List.append_nil] at hlg2
          by_cases h6 : ∃ x ∈ zz gs d, JE x = 6
          · have hfb : fullB (zz gs d) = true := by
              obtain ⟨x, hx, he⟩ := h6
              exact List.any_eq_true.2 ⟨x, hx, decide_eq_true he⟩
            rw [if_pos h6] at hE
            rw [hfb, hE, if_neg (by decide), if_neg (by decide)]
            repeat' (first | (apply R.is1; first | (apply R.isBin; (apply R.pure; exact rfl; (apply Ok1.lss_f; exact rfl; exact rfl; omega))) | (apply R.pure; exact rfl; first | (apply Ok1.move; exact rfl) | (apply Ok1.assign; exact rfl))) | apply R.nil | (apply T.is; first | apply T.seq | apply T.region | apply T.exit | apply T.ret | (apply T.cond_t; exact rfl) | (apply T.cond_f; exact rfl)))
            (apply RetOk.tt; exact rfl; exact rfl)
            exact ⟨_, by (focus (repeat' first | exact Ext.one _ _ | exact Ext.here _ _ | apply Keep.cons | apply Keep.last | apply Ext.cons); done), gs, rfl, rfl, hg, rfl⟩
          · have hfb : fullB (zz gs d) = false := by
              cases h : fullB (zz gs d) with
              | false => rfl
              | true =>
                obtain ⟨x, hx, he⟩ := List.any_eq_true.1 h
                exact absurd ⟨x, hx, of_decide_eq_true he⟩ h6
            have hv1 : (setV gs2).length = 4 := by rw [setV, List.length_map, hg2.len]
            have hv0 : (setV gs).length = 4 := by rw [setV, List.length_map, hg.len]
            have hone : (setV gs2).all Value.oneCell' = true := by
              rw [List.all_eq_true]
              intro v hv
              obtain ⟨q, hq, rfl⟩ := List.mem_map.1 hv
              rw [Lg.v_eq (hg2.ok q hq)]
              rfl
            rw [if_neg h6] at hE
            rw [hfb, hE, if_pos rfl, if_pos rfl]
            repeat' (first | (apply R.is1; first | (apply R.isBin; (apply R.pure; exact rfl; (apply Ok1.lss_f; exact rfl; exact rfl; omega))) | (apply R.pure; exact rfl; first | (apply Ok1.load; exact rfl; apply Ld.ownk; exact rfl; exact rfl; (focus (repeat' first | exact At.head | apply At.tail); done); exact setV_all hg2.len) | (apply Ok1.move; exact rfl) | (apply Ok1.fieldAddr; (iterate 5 exact rfl)) | (apply Ok1.assign; exact rfl) | (apply Ok1.nilCheck; exact rfl))) | (apply R.is0; (apply R.store; (iterate 4 exact rfl); exact hv1; exact hone; (focus (repeat' first | exact Upd.head | apply Upd.tail); done); exact setE_all (by rw [hv0, hv1]))) | apply R.nil | (apply T.is; first | apply T.seq | apply T.region | apply T.skip | apply T.exit | apply T.ret | (apply T.cond_f; exact rfl)))
            (apply RetOk.tt; exact rfl; exact rfl)
            exact ⟨_, by (focus (repeat' first | exact Ext.one _ _ | exact Ext.all _ | apply Keep.cons | apply Keep.last | apply Ext.cons | apply Ext.app); done), gs2, rfl, hlg2, hg2, rfl⟩
  · rw [if_neg hok] at hchk
    have hX : appX (lgs gs) (d.map fun x => (x.1, x.2.xs)) = 10 := if_neg fun h => hok (hdr.2 h)
    have hN : appN (lgs gs) (d.map fun x => (x.1, x.2.xs)) = 0 := by rw [appN, hX]; rfl
    have hLL : appL (lgs gs) (d.map fun x => (x.1, x.2.xs)) = lgs gs := by rw [appL, hX]; rfl
    rw [hX, hN, hLL]
    refine enterK (tb := tb) Tryz.func73 rfl Tryz.ntmps73 rfl ?_
    simp only [SetL]
    repeat' (first | (apply R.is1; first | (apply R.isBin; (apply R.pure; exact rfl; first | (apply Ok1.neq_t; exact rfl; exact rfl; omega) | (apply Ok1.eqlP; (iterate 5 exact rfl)))) | (apply R.isCall; (apply R.callV (vs := [.agg ⟨dlV d⟩]); (iterate 3 exact rfl); intro w1 hw1; exact hchk w1 hw1.chg)) | (apply R.pure; exact rfl; first | (apply Ok1.load; exact rfl; apply Ld.ownk; exact rfl; exact rfl; exact At.head; exact subE_all hdl) | (apply Ok1.move; exact rfl) | (apply Ok1.assign; exact rfl)) | (apply R.box; (iterate 3 exact rfl); intro)) | apply R.nil | (apply T.is; first | apply T.seq | apply T.region | apply T.skip | apply T.ret | (apply T.cond_t; exact rfl) | (apply T.cond_f; exact rfl)))
    (apply RetOk.tt; exact rfl; exact rfl)
    exact ⟨_, by (focus (repeat' first | exact Ext.one _ _ | exact Ext.all _ | apply Keep.cons | apply Keep.last | apply Ext.cons); done), gs, rfl, rfl, hg, rfl⟩
section
variable {X : Cx} {σ : Env} {L Lr : Lst} {d : Option Nat} {ty : TypeId} {pos : String} {af : Array Edge} {g : Option (Nat × Bool)} {x : Operand} {t e : TypeId} {r re : TRow} {p : Option Addr} {n cap i j : Nat}
theorem Ok1.mid3 {lo hi mx : Operand} {sz : Nat} (ht : X.tb.row t = some r) (hk : r.k = .slice e) (he : X.tb.row e = some re) (hsz : re.size = sz) (hx : ev σ x = some (.slice p n cap)) (hl : ev σ lo = some (.int .i64 i)) (hh : ev σ hi = some (.int .i64 j)) (hm : ev σ mx = some (.int .i64 j)) (h1 : i ≤ j) (h2 : j ≤ cap) :
    Ok1 X ⟨d, .slice t x (some lo) (some hi) (some mx), ty, pos, af, g⟩ σ L (.slice (sufP p j i sz) (j - i) (j - i)) := .mk fun a w ha hw => by
  subst hsz
  rw [slice_run (l := (i : Int)) (h := (j : Int)) (m := (j : Int)) X.tb ht hk he ha hx (by simp [bd, hm]) (by simp [bd, hh]) (by simp [bd, hl]) (by omega) (by omega) (by omega) (by omega) (.inr (by simp))]
  simp [sufP]
end
theorem ovc_le {n : Nat} {ov : Ov} {xs : List Value} (h : OvOk 1 ov n xs) : n ≤ ovc ov n := by
  unfold ovc
  cases ov with
  | none => have := h.2; simp only at this ⊢; omega
  | some q => simp only; omega
/-- A delta whose logs lie in the blocks of L. -/
structure DlO (d : Dl) (L : Lst) : Prop where
  cap : ∀ x ∈ d, x.2.xs.length ≤ x.2.cap
  adr : ∀ x ∈ d, x.2.xs ≠ [] → ∃ b o, x.2.p = some ⟨b, o, none⟩ ∧ b ∈ blks L
  rd : ∀ (w0 w : World) (S : List Nat) (L' : Lst), Hp w0 S L' w → (∀ z ∈ L, z ∈ L') → ∀ x ∈ d, RdSl w x.2.p iV x.2.xs
theorem DlO.nil (L : Lst) : DlO [] L := ⟨by simp, by simp, by simp⟩
theorem DlO.snoc {d : Dl} {L : Lst} (h : DlO d L) {ov : Ov} {xs : List Int} (hov : OvOk 1 ov xs.length (iis xs)) (f : Int) {k c : Nat} (hk : k ≤ xs.length) (hc : xs.length ≤ c) {m : Nat} (hm : xs.length - k ≤ m) :
    DlO (d ++ [(f, ⟨sufP (ovp ov) c k 1, m, xs.drop k⟩)]) (blkL 3 ov (iis xs) ++ L) := by
  refine ⟨fun x hx => ?_, fun x hx hne => ?_, fun w0 w S L' hw hin x hx => ?_⟩
  · rcases List.mem_append.1 hx with h1 | h1
    · exact h.cap x h1
    · rw [List.mem_singleton.1 h1]
      simp only [List.length_drop]
      exact hm
  · rcases List.mem_append.1 hx with h1 | h1
    · obtain ⟨b, o, h2, h3⟩ := h.adr x h1 hne
      refine ⟨b, o, h2, ?_⟩
      rw [blks, List.map_append]
      exact List.mem_append_right _ h3
    · rw [List.mem_singleton.1 h1] at hne ⊢
      simp only at hne ⊢
      cases ov with
      | none =>
        have h0 : xs.length = 0 := hov.2
        have : xs = [] := List.eq_nil_of_length_eq_zero h0
        subst this
        simp at hne
      | some q =>
        obtain ⟨b, j, junk⟩ := q
        have hb : b ∈ blks (blkL 3 (some (b, j, junk)) (iis xs) ++ L) := by simp [blks, blkL]
        unfold sufP ovp
        by_cases hck : c = k
        · exact ⟨b, 0, by rw [if_pos hck], hb⟩
        · exact ⟨b, 0 + k * 1, by rw [if_neg hck]; simp [Addr.add]; omega, hb⟩
  · rcases List.mem_append.1 hx with h1 | h1
    · exact h.rd w0 w S L' hw (fun z hz => hin z (List.mem_append_right _ hz)) x h1
    · rw [List.mem_singleton.1 h1]
      exact (irdown hov hw fun z hz => hin z (List.mem_append_left _ hz)).suf iV_len hk hc
def pur (d : Dl) : List (Int × List Int) := d.map fun x => (x.1, x.2.xs)
def noD : List Value := [.int .i64 0, .int .i64 0, .int .i64 0, .int .i64 0, .slice none 0 0, .slice none 0 0, .slice none 0 0, .slice none 0 0]
/-- The versions are such as the set has. -/
def VOk (ls : List (List Int)) (vs : List Int) : Prop := ∀ x ∈ ls.zip vs, 0 ≤ x.2 ∧ x.2 ≤ (x.1.length : Int)
instance (ls : List (List Int)) (vs : List Int) : Decidable (VOk ls vs) := by unfold VOk; infer_instance
def sinD (ls : List (List Int)) (vs : List Int) : List (Int × List Int) := (ls.zip vs).map fun x => (x.2, x.1.drop x.2.toNat)
def dPart (vs : List Int) (d : Dl) : List Value := iis vs ++ (fl Pi.v (d.map (·.2)) ++ List.replicate (4 - d.length) (.slice none 0 0))
theorem dPart_set {vs : List Int} (hv : vs.length = 4) {d : Dl} {i : Nat} (hd : d.length = i) (hi : i < 4) (x : Int × Pi) : setE (dPart vs d) (4 + i * 1) [.slice x.2.p x.2.xs.length x.2.cap] = some (dPart vs (d ++ [x])) := by
  have hl : (iis vs ++ fl Pi.v (d.map (·.2))).length = 4 + i * 1 := by rw [List.length_append, iis_len, fl_pi, List.length_map, List.length_map, hv, hd, Nat.mul_one]
  unfold dPart
  rw [← List.append_assoc, ← hl, setE_mid _ (by rw [List.length_singleton, List.length_replicate]; omega), hd, List.length_append, List.length_singleton, hd, List.map_append, fl_pi, fl_pi, List.map_append]
  rw [show 4 - i = (4 - (i + 1)) + 1 by omega, List.replicate_succ]
  simp
theorem sin_get {ls : List (List Int)} {vs : List Int} {i : Nat} {xs : List Int} {v : Int} (h1 : ls[i]? = some xs) (h2 : vs[i]? = some v) : (sinD ls vs)[i]? = some (v, xs.drop v.toNat) := by
  have h3 : (ls.zip vs)[i]? = some (xs, v) := by rw [List.getElem?_zip_eq_some]; exact ⟨h1, h2⟩
  rw [sinD, List.getElem?_map, h3]; rfl
theorem sin_fst {ls : List (List Int)} {vs : List Int} (h : vs.length ≤ ls.length) : (sinD ls vs).map (·.1) = vs := by
  unfold sinD
  rw [List.map_map]
  exact List.map_snd_zip h
theorem since_ok (bs : Nat) (gs : List Lg) (hg : GOk gs) (vs : List Int) (hv : vs.length = 4) (w : World) (hs : SetR w bs gs) :
    CallM Tryz.prog 152 [.pointer (some ⟨bs, 0, none⟩), .agg ⟨iis vs⟩] [] w fun v L => (VOk (lgs gs) vs ∧ ∃ d, v = .tuple #[.agg ⟨dlV d⟩, .int .i64 0] ∧ pur d = sinD (lgs gs) vs ∧ DlO d L) ∨ (¬ VOk (lgs gs) vs ∧ v = .tuple #[.agg ⟨noD⟩, .int .i64 10]) := by
  have hlog := fun i g hi w1 (hc : Chg [] w w1) => log_ok bs gs hg i g hi w1 (hs.chg hc)
  match vs, hv with
  | [v0, v1, v2, v3], hv =>
  refine enterK (tb := tb) Tryz.func152 rfl Tryz.ntmps152 rfl ?_
  simp only [iis, List.map_cons, List.map_nil]
  repeat' (first | (apply R.is1; first | (apply R.isBin; (apply R.pure; exact rfl; (apply Ok1.eqlP; (iterate 5 exact rfl)))) | (apply R.pure; exact rfl; first | (apply Ok1.move; exact rfl) | (apply Ok1.load; exact rfl; (apply Ld.ownk; exact rfl; exact rfl; (focus (repeat' first | exact At.head | apply At.tail); done); exact rfl)) | (apply Ok1.assign; exact rfl) | (apply Ok1.build; (iterate 5 exact rfl))) | (apply R.box; (iterate 3 exact rfl); intro) | (apply R.alloc; (iterate 3 exact rfl); intro)) | (apply R.is0; (apply R.store; (iterate 6 exact rfl); exact Upd.head; exact rfl)) | apply R.nil | (apply T.is; first | apply T.seq | apply T.region | apply T.block | apply T.skip | (apply T.cond_f; exact rfl)))
  rename_i b3 b4 b6
  obtain ⟨vs, hvs⟩ : ∃ vs, vs = [v0, v1, v2, v3] := ⟨_, rfl⟩
  have hiv : [Value.int .i64 v0, .int .i64 v1, .int .i64 v2, .int .i64 v3] = iis vs := by rw [hvs]; rfl
  have hd0 : [Value.int .i64 v0, .int .i64 v1, .int .i64 v2, .int .i64 v3, .slice none 0 0, .slice none 0 0, .slice none 0 0, .slice none 0 0] = dPart vs [] := by rw [hvs]; rfl
  rw [hiv, hd0]
  rw [← hvs] at hv ⊢
  clear hiv hd0 hvs
  apply T.loopK (α := Nat × Dl × Lst) (I := fun y => y.1 ≤ 4 ∧ y.2.1.length = y.1 ∧ pur y.2.1 = (sinD (lgs gs) vs).take y.1 ∧ DlO y.2.1 y.2.2 ∧ ∀ x ∈ ((lgs gs).zip vs).take y.1, 0 ≤ x.2 ∧ x.2 ≤ (x.1.length : Int))
    (σi := fun y => [(0, .pointer (some ⟨bs, 0, none⟩)), (4, .pointer (some ⟨b4, 0, none⟩)), (6, .pointer (some ⟨b6, 0, none⟩)), (15, .agg ⟨iis vs⟩), (16, .int .i64 y.1)]) (Li := fun y => (b4, .cells ⟨noD⟩ 76 (0, 0)) :: (b6, .cells ⟨dPart vs y.2.1⟩ 76 (0, 0)) :: y.2.2) (μ := fun y => 4 - y.1) (i0 := (0, [], []))
  · exact ⟨Nat.zero_le _, rfl, rfl, DlO.nil _, by simp⟩
  · exact ⟨rfl, rfl, rfl, rfl, rfl, trivial⟩
  · (focus (repeat' first | exact Keep.nil _ | exact Ext.one _ _ | apply Keep.cons | apply Ext.cons); done)
  · rintro ⟨i, d, M⟩ ⟨hi, hdl, hpur, hdo, hall⟩
    simp only at hi hdl hpur hdo hall ⊢
    rcases Nat.lt_or_ge i 4 with hlt | hge
    · obtain ⟨g, hx1⟩ : ∃ g, gs[i]? = some g := ⟨_, List.getElem?_eq_getElem (by rw [hg.len]; omega)⟩
      obtain ⟨v, hx2⟩ : ∃ v, vs[i]? = some v := ⟨_, List.getElem?_eq_getElem (by omega)⟩
      have hgl := hg.le g (List.mem_of_getElem? hx1)
      have h1 := hlog i g hx1
      have hlx : (lgs gs)[i]? = some g.xs := by rw [lgs, List.getElem?_map, hx1]; rfl
      have hzx : ((lgs gs).zip vs)[i]? = some (g.xs, v) := by rw [List.getElem?_zip_eq_some]; exact ⟨hlx, hx2⟩
      have hzm := List.mem_of_getElem? hzx
      have hf : (iis vs)[i * 1]? = some (.int .i64 v) := by rw [Nat.mul_one, iis, List.getElem?_map, hx2]; rfl
      by_cases c1 : v < 0
      · repeat' (first | (apply R.is1; first | (apply R.isBin; (apply R.pure; exact rfl; (apply Ok1.lss_t; exact rfl; exact rfl; omega))) | (apply R.isCall; (apply R.callE (vs := [.pointer (some ⟨bs, 0, none⟩), .int .i64 i]); (iterate 3 exact rfl); exact Ext.none _; intro w1 hw1; exact h1 w1 hw1.chg; rintro z Lo ⟨ov, hov, rfl, rfl⟩; rw [slV_eq hov])) | (apply R.pure; exact rfl; first | (apply Ok1.index1; (iterate 6 exact rfl); omega; omega; exact hf) | (apply Ok1.move; exact rfl) | (apply Ok1.assign; exact rfl) | (apply Ok1.build; (iterate 5 exact rfl)) | (apply Ok1.pick_t; exact rfl; exact rfl))) | (apply R.is0; (apply R.store; (iterate 6 exact rfl); (focus (repeat' first | exact Upd.head | apply Upd.right); done); exact rfl)) | (apply R.isG; (apply R.guard_not; (iterate 3 exact rfl))) | apply R.nil | (apply T.is; first | apply T.seq | apply T.region | apply T.block | apply T.skip | apply T.ret | (apply T.cond_t; exact rfl)))
        (apply RetOk.ct; exact rfl; ((apply Ld.ownk; exact rfl; exact rfl; (focus (repeat' first | exact At.head | apply At.right); done); exact rfl)); exact rfl)
        refine ⟨_, Keep.nil _, .inr ⟨fun h => ?_, rfl⟩⟩
        have := (h _ hzm).1
        simp only at this
        omega
      · obtain ⟨k, rfl⟩ : ∃ k : Nat, v = k := ⟨v.toNat, by omega⟩
        by_cases c2 : g.xs.length < k
        · repeat' (first | (apply R.is1; first | (apply R.isBin; (apply R.pure; exact rfl; first | (apply Ok1.lss_t; exact rfl; exact rfl; omega) | (apply Ok1.lss_f; exact rfl; exact rfl; omega) | (apply Ok1.gtr_t; exact rfl; exact rfl; omega))) | (apply R.isCall; first | (apply R.callE (vs := [.pointer (some ⟨bs, 0, none⟩), .int .i64 i]); (iterate 3 exact rfl); exact Ext.none _; intro w1 hw1; exact h1 w1 hw1.chg; rintro z Lo ⟨ov, hov, rfl, rfl⟩; rw [slV_eq hov]) | (apply R.pure; exact rfl; (apply Ok1.lenS; (iterate 3 exact rfl)))) | (apply R.pure; exact rfl; first | (apply Ok1.index1; (iterate 6 exact rfl); omega; omega; exact hf) | (apply Ok1.move; exact rfl) | (apply Ok1.assign; exact rfl) | (apply Ok1.build; (iterate 5 exact rfl)) | (apply Ok1.pick_f; exact rfl; exact rfl))) | (apply R.is0; (apply R.store; (iterate 6 exact rfl); (focus (repeat' first | exact Upd.head | apply Upd.right); done); exact rfl)) | (apply R.isG; (apply R.guard_run; exact rfl; exact rfl)) | apply R.nil | (apply T.is; first | apply T.seq | apply T.region | apply T.block | apply T.skip | apply T.ret | (apply T.cond_t; exact rfl)))
          (apply RetOk.ct; exact rfl; ((apply Ld.ownk; exact rfl; exact rfl; (focus (repeat' first | exact At.head | apply At.right); done); exact rfl)); exact rfl)
          refine ⟨_, Keep.nil _, .inr ⟨fun h => ?_, rfl⟩⟩
          have := (h _ hzm).2
          simp only at this
          omega
        · have hset := fun x => dPart_set hv hdl hlt x
          repeat' (first | (apply R.is1; first | (apply R.isBin; (apply R.pure; exact rfl; first | (apply Ok1.add64; exact rfl; exact rfl; omega; omega) | (apply Ok1.lss_t; exact rfl; exact rfl; omega) | (apply Ok1.lss_f; exact rfl; exact rfl; omega) | (apply Ok1.gtr_f; exact rfl; exact rfl; omega))) | (apply R.isCall; first | (apply R.callE (vs := [.pointer (some ⟨bs, 0, none⟩), .int .i64 i]); (iterate 3 exact rfl); exact Ext.none _; intro w1 hw1; exact h1 w1 hw1.chg; rintro z Lo ⟨ov, hov, rfl, rfl⟩; rw [slV_eq hov]) | (apply R.pure; exact rfl; (apply Ok1.lenS; (iterate 3 exact rfl)))) | (apply R.pure; exact rfl; first | (apply Ok1.index1; (iterate 6 exact rfl); omega; omega; exact hf) | (apply Ok1.mid3 (i := k) (j := g.xs.length) (sz := 1); (iterate 8 exact rfl); omega; exact ovc_le hov) | (apply Ok1.move; exact rfl) | (apply Ok1.fieldAddr; (iterate 5 exact rfl)) | (apply Ok1.assign; exact rfl) | (apply Ok1.indexAddrA; (iterate 5 exact rfl); omega; omega) | (apply Ok1.pick_f; exact rfl; exact rfl))) | (apply R.is0; (apply R.store; (iterate 6 exact rfl); (focus (repeat' first | exact Upd.head | apply Upd.tail | apply Upd.right); done); have h9 := hset ((k : Int), ⟨sufP (ovp ov) g.xs.length k 1, g.xs.length - k, g.xs.drop k⟩); simp only [List.length_drop] at h9; exact h9)) | (apply R.isG; (apply R.guard_run; exact rfl; exact rfl)) | apply R.nil | (apply T.is; first | apply T.seq | apply T.region | apply T.block | apply T.skip | (apply T.cond_t; exact rfl) | (apply T.cond_f; exact rfl)))
          refine ⟨(i + 1, d ++ [((k : Int), ⟨sufP (ovp ov) g.xs.length k 1, g.xs.length - k, g.xs.drop k⟩)], blkL 3 ov (iis g.xs) ++ M), ⟨by omega, by rw [List.length_append, hdl]; rfl, ?_, hdo.snoc hov k (by omega) (Nat.le_refl _) (Nat.le_refl _), ?_⟩, by simp only; omega, ⟨rfl, rfl, rfl, rfl, rfl, trivial⟩, ?_⟩
          · rw [List.take_add_one, sin_get hlx hx2, ← hpur, pur, List.map_append]
            rfl
          · intro x hx
            rw [List.take_add_one, hzx, List.mem_append] at hx
            rcases hx with hx | hx
            · exact hall x hx
            · simp only [Option.toList_some, List.mem_singleton] at hx
              rw [hx]
              simp only
              omega
          · simp only
            (focus (repeat' first | exact Ext.one _ _ | exact Ext.here _ _ | exact Ext.all _ | apply Keep.cons | apply Keep.app | apply Keep.last | apply Ext.app); done)
    · have him : i = 4 := by omega
      subst him
      have hsl : (sinD (lgs gs) vs).length = 4 := by simp [sinD, lgs, hg.len, hv]
      rw [List.take_of_length_le (by omega)] at hpur
      rw [List.take_of_length_le (by simp [lgs, hg.len, hv])] at hall
      have hfst : d.map (·.1) = vs := by
        have := congrArg (List.map (·.1)) hpur
        rw [sin_fst (by simp [lgs, hg.len, hv]), pur, List.map_map] at this
        exact this
      have hdd : dPart vs d = dlV d := by
        rw [dPart, hdl, Nat.sub_self, List.replicate_zero, List.append_nil, dlV, hfst]
      have hlen : (dlV d).length = 8 := by simp [dlV, fl_pi, iis_len, hdl]
      have hone : (dlV d).all Value.oneCell' = true := by
        rw [dlV, List.all_append, iis_one, fl_pi]
        simp [Value.oneCell']
      rw [hdd]
      repeat' (first | (apply R.is1; first | (apply R.isBin; (apply R.pure; exact rfl; (apply Ok1.lss_f; exact rfl; exact rfl; omega))) | (apply R.pure; exact rfl; first | (apply Ok1.load; exact rfl; apply Ld.ownk; exact rfl; exact rfl; (focus (repeat' first | exact At.head | apply At.tail); done); exact subE_all hlen) | (apply Ok1.assign; exact rfl))) | (apply R.is0; (apply R.store; (iterate 4 exact rfl); exact hlen; exact hone; exact Upd.head; exact setE_all (by rw [hlen]; rfl))) | apply R.nil | (apply T.is; first | apply T.seq | apply T.region | apply T.exit | apply T.ret | (apply T.cond_f; exact rfl)))
      all_goals apply RetOk.ct
      all_goals first | exact rfl | skip
      all_goals first | (apply Ld.ownk; exact rfl; exact rfl; exact At.head; exact subE_all hlen) | skip
      exact ⟨_, by (focus (repeat' first | exact Ext.all _ | apply Keep.last | apply Ext.cons); done), .inl ⟨hall, d, rfl, hpur, hdo⟩⟩
theorem lens_of {gs : List Lg} {ls : List (List Int)} (h : lgs gs = ls) : lens gs = iis (ls.map fun x => (x.length : Int)) := by
  rw [lens_eq, ← h, lgs, List.map_map]; rfl
/-- Logs as they must be. -/
def LOk (ls : List (List Int)) : Prop := ∀ xs ∈ ls, SR xs ∧ xs.Nodup ∧ xs.length ≤ 256
def preD (ls : List (List Int)) (vs : List Int) : List (List Int) := (ls.zip vs).map fun x => x.1.take x.2.toNat
theorem je_whole {xs : List Int} {k : Nat} (hk : k ≤ xs.length) (hn : xs.Nodup) (hl : xs.length ≤ 256) : jE xs (xs.drop k) k = 0 ∧ jL xs (xs.drop k) k = xs := by
  have hb : both xs (xs.drop k) k = xs.length - k := by unfold both; rw [List.length_drop]; omega
  have ha : jAll xs (xs.drop k) k = xs := by rw [jAll, hb, List.drop_drop, List.drop_of_length_le (by omega), List.append_nil]
  have he : jE xs (xs.drop k) k = 0 := by
    unfold jE
    rw [hb, ha, if_neg (fun h => h rfl), if_neg (fun h => h hn), if_neg (by omega)]
  exact ⟨he, by rw [jL, if_pos he, ha]⟩
theorem app_eq {ls : List (List Int)} {dd : List (Int × List Int)} (hd : DR dd) (h9 : ∀ x ∈ ls.zip dd, x.2.1 ≤ (x.1.length : Int)) (h0 : ∀ x ∈ ls.zip dd, JE x = 0) : appX ls dd = 0 := by
  unfold appX
  rw [if_pos hd, appE, if_neg, if_neg, if_neg]
  · rintro ⟨x, hx, h⟩; rw [h0 x hx] at h; cases h
  · rintro ⟨x, hx, h⟩; rw [h0 x hx] at h; cases h
  · rintro ⟨x, hx, h⟩; have := h9 x hx; omega
theorem sin_dr {ls : List (List Int)} {vs : List Int} (h : LOk ls) (hv : VOk ls vs) : DR (sinD ls vs) := by
  intro y hy
  obtain ⟨x, hx, rfl⟩ := List.mem_map.1 hy
  have h1 := h x.1 (List.of_mem_zip hx).1
  have h2 := hv x hx
  refine ⟨h2.1, by omega, by simp only [List.length_drop]; omega, fun z hz => h1.1 z (List.mem_of_mem_drop hz)⟩
theorem app_whole {ls : List (List Int)} {vs : List Int} (hl : vs.length = ls.length) (h : LOk ls) (hv : VOk ls vs) : appX ls (sinD ls vs) = 0 ∧ appL ls (sinD ls vs) = ls ∧ appN ls (sinD ls vs) = 0 := by
  have hz : ls.zip (sinD ls vs) = (ls.zip vs).map fun x => (x.1, x.2, x.1.drop x.2.toNat) := by
    have : ls = (ls.zip vs).map (·.1) := by rw [List.map_fst_zip (by omega)]
    conv => lhs; rw [this]; arg 2; unfold sinD; rw [← this]
    rw [List.zip_map']
  have hk : ∀ x ∈ ls.zip vs, x.2.toNat ≤ x.1.length ∧ (x.2.toNat : Int) = x.2 := fun x hx => by have := hv x hx; omega
  have hj : ∀ x ∈ ls.zip vs, JE (x.1, x.2, x.1.drop x.2.toNat) = 0 ∧ JL (x.1, x.2, x.1.drop x.2.toNat) = x.1 := fun x hx => by
    have h1 := h x.1 (List.of_mem_zip hx).1
    exact je_whole (hk x hx).1 h1.2.1 h1.2.2
  have hx0 : appX ls (sinD ls vs) = 0 := by
    refine app_eq (sin_dr h hv) ?_ ?_
    · rw [hz]
      intro y hy
      obtain ⟨x, hx, rfl⟩ := List.mem_map.1 hy
      exact (hv x hx).2
    · rw [hz]
      intro y hy
      obtain ⟨x, hx, rfl⟩ := List.mem_map.1 hy
      exact (hj x hx).1
  refine ⟨hx0, ?_, ?_⟩
  · rw [appL, if_pos hx0, hz, List.map_map]
    have : (ls.zip vs).map (JL ∘ fun x => (x.1, x.2, x.1.drop x.2.toNat)) = (ls.zip vs).map (·.1) := List.map_congr_left fun x hx => (hj x hx).2
    rw [this, List.map_fst_zip (by omega)]
  · rw [appN, if_pos hx0, hz, List.map_map]
    have : (ls.zip vs).map ((fun x : Jx => ((JL x).length : Int) - x.1.length) ∘ fun x => (x.1, x.2, x.1.drop x.2.toNat)) = (ls.zip vs).map fun _ => (0 : Int) := List.map_congr_left fun x hx => by simp only [Function.comp_apply, (hj x hx).2]; omega
    rw [this]
    generalize ls.zip vs = l
    induction l with
    | nil => rfl
    | cons a l ih => simpa using ih
def encL (x : Int × List Int) : List Int := numsI 1 [x.1, (x.2.length : Int)] ++ numsI 1 x.2
def encD (dd : List (Int × List Int)) : List Int := dd.flatMap encL
theorem nums1_len (xs : List Int) : (numsI 1 xs).length = 2 * xs.length := by
  induction xs with
  | nil => rfl
  | cons x l ih =>
    simp only [numsI, List.flatMap_cons, List.length_append, List.length_cons] at *
    simp only [numI, List.length_cons, List.length_nil]
    omega
theorem encL_len (x : Int × List Int) : (encL x).length = 4 + 2 * x.2.length := by
  rw [encL, List.length_append, nums1_len, nums1_len]; rfl
theorem encD_snoc {dd : List (Int × List Int)} {i : Nat} {x : Int × List Int} (h : dd[i]? = some x) : encD (dd.take (i + 1)) = encD (dd.take i) ++ encL x := by
  unfold encD
  rw [List.take_add_one, h, List.flatMap_append]
  simp
theorem nums_byt (s : Nat) (xs : List Int) : Byt (numsI s xs) := by
  intro y hy
  obtain ⟨x, hx, h⟩ := List.mem_flatMap.1 hy
  exact num_byt s x y h
theorem encD_byt (dd : List (Int × List Int)) : Byt (encD dd) := by
  intro y hy
  obtain ⟨x, hx, h⟩ := List.mem_flatMap.1 hy
  rcases List.mem_append.1 h with h | h
  · exact nums_byt _ _ y h
  · exact nums_byt _ _ y h
theorem i_at {xs : List Int} {i : Nat} {x : Int} (h : xs[i]? = some x) : (iis xs)[i * 1]? = some (.int .i64 x) := by rw [Nat.mul_one, iis, List.getElem?_map, h]; rfl
theorem dok_fits {x : Int × Pi} (h : DOk1 x) : (∀ y ∈ [x.1, (x.2.xs.length : Int)], Fits 1 y) ∧ ∀ y ∈ x.2.xs, Fits 1 y := by
  obtain ⟨h1, h2, h3, h4⟩ := h
  refine ⟨fun y hy => ?_, fun y hy => ?_⟩
  · simp only [List.mem_cons, List.not_mem_nil, or_false] at hy
    rcases hy with rfl | rfl
    · exact ⟨h1, .inr (.inl ⟨rfl, by omega⟩)⟩
    · exact ⟨by omega, .inr (.inl ⟨rfl, by omega⟩)⟩
  · have := h4 y hy
    exact ⟨by omega, .inr (.inl ⟨rfl, this.2⟩)⟩
def BRes (bs : List Int) (v : Value) (L : Lst) : Prop := ∃ ov, OvOk 1 ov bs.length (u8s bs) ∧ v = .tuple #[slV ov bs.length, .int .i64 0] ∧ L = blkL 5 ov (u8s bs)
theorem wbytes_c (d : Dl) (hl : d.length = 4) (h40 : ∀ x ∈ d, x.2.xs.length ≤ 160) (hle : ∀ i, (encD ((pur d).take i)).length ≤ 336) (hd : DOk d) (w : World) (hr : ∀ x ∈ d, RdSl w x.2.p iV x.2.xs) :
    CallM Tryz.prog 80 [.agg ⟨dlV d⟩] [] w (BRes (encD (pur d))) := by
  have hck := fun w1 (hc : Chg [] w w1) => rcheck_ok d hl (fun x hx => by have := h40 x hx; omega) w1 fun x hx => (hr x hx).chg' hc (fun _ => Off.nil _)
  rw [if_pos hd] at hck
  have hl8 : (dlV d).length = 8 := by simp [dlV, fl_pi, iis_len, hl]
  have hfr := dl_froms hl
  have hcells := fun i x h => dl_log hl (i := i) (x := x) h
  unfold BRes
  refine enterK (tb := tb) Tryz.func80 rfl Tryz.ntmps80 rfl ?_
  repeat' (first | (apply R.is1; first | (apply R.isBin; (apply R.pure; exact rfl; (apply Ok1.neq_f; exact rfl; exact rfl; omega))) | (apply R.isCall; (apply R.callV (vs := [.agg ⟨dlV d⟩]); (iterate 3 exact rfl); intro w1 hw1; exact hck w1 hw1.chg)) | (apply R.pure; exact rfl; first | (apply Ok1.load; exact rfl; first | (apply Ld.ownk; exact rfl; exact rfl; (focus (repeat' first | exact At.head | apply At.tail); done); exact subE_all hl8) | (apply Ld.ownk; exact rfl; exact rfl; (focus (repeat' first | exact At.head | apply At.tail); done); exact hfr)) | (apply Ok1.move; exact rfl) | (apply Ok1.fieldAddr; (iterate 5 exact rfl)) | (apply Ok1.assign; exact rfl)) | (apply R.box; (iterate 3 exact rfl); intro) | (apply R.alloc; (iterate 3 exact rfl); intro)) | apply R.nil | (apply T.is; first | apply T.seq | apply T.region | apply T.block | apply T.skip | (apply T.cond_f; exact rfl)))
  rename_i bd bw
  have hpl : (pur d).length = 4 := by rw [pur, List.length_map, hl]
  apply T.loopK (α := Nat × Ov) (I := fun y => y.1 ≤ 4 ∧ OvOk 1 y.2 (encD ((pur d).take y.1)).length (u8s (encD ((pur d).take y.1)))) (σi := fun y => [(1, .pointer (some ⟨bd, 0, none⟩)), (5, .pointer (some ⟨bw, 0, none⟩)), (14, .agg ⟨iis (d.map (·.1))⟩), (15, .int .i64 y.1)])
    (Li := fun y => (bd, .cells ⟨dlV d⟩ 76 (0, 0)) :: WL bw y.2 (encD ((pur d).take y.1))) (μ := fun y => 4 - y.1) (i0 := (0, none))
  · exact ⟨Nat.zero_le _, OvOk.start 1⟩
  · exact ⟨rfl, rfl, rfl, rfl, trivial⟩
  · (focus (repeat' first | exact Keep.nil _ | exact Ext.one _ _ | apply Keep.cons | apply Ext.cons); done)
  · rintro ⟨i, ov⟩ ⟨hi, hov⟩
    simp only at hi hov ⊢
    rcases Nat.lt_or_ge i 4 with hlt | hge
    · obtain ⟨x, hx⟩ : ∃ x, d[i]? = some x := ⟨_, List.getElem?_eq_getElem (by omega)⟩
      have hxm := List.mem_of_getElem? hx
      have hxp : (pur d)[i]? = some (x.1, x.2.xs) := by rw [pur, List.getElem?_map, hx]; rfl
      have hfx : (iis (d.map (·.1)))[i * 1]? = some (.int .i64 x.1) := i_at (by rw [List.getElem?_map, hx]; rfl)
      have hlx := hcells i x hx
      have hx40 := h40 x hxm
      obtain ⟨f1, f2⟩ := dok_fits (hd x hxm)
      have hrx := hr x hxm
      have hli := hle i
      have hn1 := fun p w1 h1 h2 => numbers_ok bw ov (encD ((pur d).take i)) hov 1 p 2 2 [x.1, (x.2.xs.length : Int)] rfl f1 (by simp only [List.length_cons, List.length_nil]; omega) w1 h1 h2
      have hn2 := fun ov1 hov1 w1 h1 h2 => numbers_ok bw ov1 (encD ((pur d).take i) ++ numsI 1 [x.1, (x.2.xs.length : Int)]) hov1 1 x.2.p x.2.xs.length x.2.cap x.2.xs rfl f2 (by rw [List.length_append, nums1_len]; simp only [List.length_cons, List.length_nil]; omega) w1 h1 h2
      have hsn := encD_snoc hxp
      rw [encL, ← List.append_assoc] at hsn
      simp only [← hsn] at hn2
      generalize encD ((pur d).take i) = B0 at *
      generalize hB2 : encD ((pur d).take (i + 1)) = B2 at *
      generalize B0 ++ numsI 1 [x.1, (x.2.xs.length : Int)] = B1 at *
      repeat' (first | (apply R.is1; first | (apply R.isBin; (apply R.pure; exact rfl; first | (apply Ok1.add64; exact rfl; exact rfl; omega; omega) | (apply Ok1.lss_t; exact rfl; exact rfl; omega))) | (apply R.pure; exact rfl; first | (apply Ok1.index1; (iterate 6 exact rfl); omega; omega; exact hfx) | (apply Ok1.move; exact rfl) | (apply Ok1.assign; exact rfl))) | apply R.nil | (apply T.is; first | (apply T.drawC (id := 8) [0] (by decide); ((apply A.tk 0; exact rfl; kernel_rfl; (apply Ok1.move; exact rfl)) <;> (apply A.tk 1; exact rfl; kernel_rfl; (apply Ok1.move; exact rfl)) <;> (apply A.tk 2; exact rfl; kernel_rfl; (apply Ok1.fieldAddr; (iterate 5 exact rfl))) <;> (apply A.tk 3; exact rfl; kernel_rfl; (apply Ok1.indexAddrA; (iterate 5 exact rfl); omega; omega)) <;> (apply A.tk 4; exact rfl; kernel_rfl; (apply Ok1.load; exact rfl; apply Ld.own1; exact rfl; exact rfl; exact At.head; exact hlx)) <;> (apply A.tk 5; exact rfl; kernel_rfl; (apply Ok1.lenS; (iterate 3 exact rfl))) <;> (apply A.tk 8; exact rfl; kernel_rfl; (apply Ok1.move; exact rfl)) <;> (apply A.tk 9; exact rfl; kernel_rfl; (apply Ok1.fieldAddr; (iterate 5 exact rfl))) <;> (apply A.tk 10; exact rfl; kernel_rfl; (apply Ok1.indexAddrA; (iterate 5 exact rfl); omega; omega)) <;> (apply A.tk 11; exact rfl; kernel_rfl; (apply Ok1.load; exact rfl; apply Ld.own1; exact rfl; exact rfl; exact At.head; exact hlx)) <;> (apply A.one 6; kernel_rfl; exact rfl; (((apply R.buildSlice; (iterate 12 exact rfl); intro))); apply R.nil; refine ⟨?_, ?_⟩; (focus (repeat' first | exact trivial | exact At.head | apply At.tail | refine ⟨?_, ?_⟩))) <;> (apply A.one 7; kernel_rfl; exact rfl; (((apply R.callE (Li := WL bw ov B0) (vs := [.pointer (some ⟨bw, 0, none⟩), .int .i64 1, .slice (some ⟨_, 0, none⟩) 2 2]); (iterate 3 exact rfl); (focus (repeat' first | exact Ext.all _ | apply Ext.cons); done); intro w1 hw1; exact hn1 _ w1 (RdSl.of (junk := []) hw1 (by exact At.head) rfl) (fun _ => Off.of hw1 (by (focus (repeat' first | exact Ext.all _ | apply Ext.cons); done)) (by exact At.head)); rintro v Lo ⟨ov1, rfl, hov1, rfl⟩))); apply R.nil; refine ⟨?_, ?_⟩; (focus (repeat' first | exact trivial | exact At.head | apply At.tail | apply At.right | refine ⟨?_, ?_⟩))) <;> (apply A.one 12; kernel_rfl; exact rfl; (((apply R.callE (Li := WL bw ov1 B1) (vs := [.pointer (some ⟨bw, 0, none⟩), .int .i64 1, .slice x.2.p x.2.xs.length x.2.cap]); (iterate 3 exact rfl); (focus ((repeat' (exact Ext.here _ _)); done)); intro w1 hw1; exact hn2 ov1 hov1 w1 (hrx.chg' hw1.chg (fun _ => Off.nil _)) (RdSl.old iV_len (by decide) hrx (fun _ => Off.nil _) hw1 (by (focus ((repeat' (exact Ext.here _ _)); done)))); rintro v Lo ⟨ov2, rfl, hov2, rfl⟩))); apply R.nil; refine ⟨?_, ?_⟩; (focus (repeat' first | exact trivial | exact At.head | apply At.tail | apply At.right | refine ⟨?_, ?_⟩))) <;> (apply A.done; kernel_rfl))) | apply T.seq | apply T.region | apply T.block | apply T.skip | (apply T.cond_t; exact rfl)))
      subst hB2
      exact ⟨(i + 1, ov2), ⟨by simp only; omega, hov2⟩, by simp only; omega, ⟨rfl, rfl, rfl, rfl, trivial⟩, by (focus (repeat' first | exact Ext.one _ _ | exact Ext.here _ _ | apply Keep.cons | apply Keep.last | apply Ext.cons | apply Ext.app); done)⟩
    · have hi4 : i = 4 := by omega
      subst hi4
      have hli := hle 4
      rw [List.take_of_length_le (by omega)] at hov hli ⊢
      have hwo := fun w1 h1 h2 => wout_ok bw ov (encD (pur d)) hov (by omega) w1 h1 h2
      generalize encD (pur d) = B at *
      simp only [WL]
      repeat' (first | (apply R.is1; first | (apply R.isBin; (apply R.pure; exact rfl; (apply Ok1.lss_f; exact rfl; exact rfl; omega))) | (apply R.isCall; (apply R.callE (vs := [.pointer (some ⟨bw, 0, none⟩)]); (iterate 3 exact rfl); exact Ext.none _; intro w1 hw1; exact hwo w1 (hw1.get _ _ (At.mem (by (focus (repeat' first | exact At.head | apply At.tail); done)))) (rdown hov hw1 (Ext.mem (by (focus (repeat' first | exact Ext.all _ | apply Ext.cons); done)))); rintro v Lo ⟨ov2, hov2, rfl, rfl⟩)) | (apply R.pure; exact rfl; first | (apply Ok1.assign; exact rfl) | (apply Ok1.extract; exact rfl; exact rfl))) | apply R.nil | (apply T.is; first | apply T.seq | apply T.region | apply T.exit | apply T.ret | (apply T.cond_f; exact rfl)))
      (apply RetOk.tt; exact rfl; exact rfl)
      exact ⟨_, by (focus (repeat' first | exact Ext.here _ _ | apply Keep.last); done), ov2, hov2, rfl, rfl⟩
/-- A delta's cells of which the first so many are there. -/
def padV (d : Dl) : List Value := iis (d.map (·.1) ++ List.replicate (4 - d.length) 0) ++ (fl Pi.v (d.map (·.2)) ++ List.replicate (4 - d.length) (.slice none 0 0))
theorem pad_all {d : Dl} (h : d.length = 4) : padV d = dlV d := by simp [padV, dlV, h]
theorem pad0 : padV [] = noD := rfl
theorem pad_from {d : Dl} {i : Nat} (hd : d.length = i) (hi : i < 4) (f : Int) : setE (padV d) (0 + i * 1) [.int .i64 f] = some (padV (d ++ [(f, ⟨none, 0, []⟩)])) := by
  have e : padV d = iis (d.map (·.1)) ++ ([.int .i64 0] ++ (iis (List.replicate (3 - i) 0) ++ (fl Pi.v (d.map (·.2)) ++ List.replicate (4 - i) (.slice none 0 0)))) := by
    rw [padV, iis_app, hd, show 4 - i = (3 - i) + 1 by omega, List.replicate_succ, List.append_assoc]
    rfl
  have hl : (iis (d.map (·.1))).length = 0 + i * 1 := by rw [iis_len, List.length_map, hd]; omega
  rw [e, ← hl, setE_mid _ (by simp)]
  congr 1
  simp only [padV, List.length_append, hd, List.length_singleton, List.map_append, iis_app, fl_pi, show 4 - (i + 1) = 3 - i by omega, show 4 - i = (3 - i) + 1 by omega, List.replicate_succ]
  simp [iis]
theorem pad_log {d : Dl} {i : Nat} (hd : d.length = i) (hi : i < 4) (f : Int) (x : Pi) (y : Pi) : setE (padV (d ++ [(f, x)])) (4 + i * 1) [.slice y.p y.xs.length y.cap] = some (padV (d ++ [(f, y)])) := by
  have e : ∀ z : Pi, padV (d ++ [(f, z)]) = (iis (d.map (·.1) ++ [f] ++ List.replicate (3 - i) 0) ++ fl Pi.v (d.map (·.2))) ++ ([.slice z.p z.xs.length z.cap] ++ List.replicate (3 - i) (.slice none 0 0)) := by
    intro z
    rw [padV, List.length_append, hd, List.length_singleton, List.map_append, List.map_append, fl_pi, fl_pi, List.map_append, show 4 - (i + 1) = 3 - i by omega]
    simp
  have hl : (iis (d.map (·.1) ++ [f] ++ List.replicate (3 - i) 0) ++ fl Pi.v (d.map (·.2))).length = 4 + i * 1 := by
    rw [List.length_append, iis_len, fl_pi, List.length_map, List.length_append, List.length_append, List.length_map, List.length_replicate, List.length_map, List.length_singleton, hd]
    omega
  rw [e x, e y, ← hl, setE_mid _ (by simp)]
  simp
theorem pad_at {d : Dl} {i : Nat} (hd : d.length = i) (hi : i < 4) (f : Int) (y : Pi) : (padV (d ++ [(f, y)]))[4 + i * 1]? = some (.slice y.p y.xs.length y.cap) := by
  have h := setE_spec (pad_log hd hi f y y)
  rw [h.2.2, if_pos ⟨Nat.le_refl _, by simp⟩]
  simp
def ru0 : RS := ⟨false, ⟨0, 0, 0, 0, 0, 0, 0, 0⟩, none, [], none, 0, 0, [], 0⟩
theorem ru0_ok : RuI ru0 [] := ⟨OvOk.start 1, Sfx.refl _ _, rfl, Nat.le_refl _, rfl, rfl, (fun x hx => by cases hx), (fun h => by cases h), fun _ => rfl⟩
/-- A number's two bytes; those of a log; those of all logs. -/
def pB (n : Int) : List Int := [IntKind.u8.wrap (n / 256), IntKind.u8.wrap n]
def lB (xs : List Int) : List Int := ((xs.length : Int) :: xs).flatMap pB
def prI (ls : List (List Int)) : List Int := ls.flatMap lB
theorem pB_byt (n : Int) : Byt (pB n) := by
  intro x hx
  simp only [pB, List.mem_cons, List.not_mem_nil, or_false] at hx
  rcases hx with rfl | rfl <;> (rw [u8_mod]; omega)
theorem fpB_len (zs : List Int) : (zs.flatMap pB).length = 2 * zs.length := by
  induction zs with
  | nil => rfl
  | cons z zs ih => rw [List.flatMap_cons, List.length_append, ih]; simp [pB]; omega
theorem pr_len {ls : List (List Int)} (h : ∀ xs ∈ ls, xs.length ≤ 256) : (prI ls).length ≤ 514 * ls.length := by
  induction ls with
  | nil => simp [prI]
  | cons x ls ih =>
    have h1 := h x List.mem_cons_self
    have h2 := ih fun y hy => h y (List.mem_cons_of_mem _ hy)
    have h3 : (lB x).length = 2 * (x.length + 1) := by rw [lB, fpB_len, List.length_cons]
    simp only [prI, List.flatMap_cons, List.length_append, List.length_cons] at *
    omega
theorem pr_snoc {ls : List (List Int)} {i : Nat} {xs : List Int} (h : ls[i]? = some xs) : prI (ls.take (i + 1)) = prI (ls.take i) ++ lB xs := by
  unfold prI
  rw [List.take_add_one, h, List.flatMap_append]
  simp
theorem print_gen (s : Value) (ls : List (List Int)) (hl : ls.length = 4) (hle : ∀ xs ∈ ls, xs.length ≤ 256) (w : World)
    (hlog : ∀ (i : Nat) (xs : List Int), ls[i]? = some xs → ∀ w1, Chg [] w w1 → CallM Tryz.prog 106 [s, .int .i64 i] [] w1 fun v L => ∃ ov, OvOk 1 ov xs.length (iis xs) ∧ v = slV ov xs.length ∧ L = blkL 3 ov (iis xs)) :
    CallW Tryz.prog 103 [s] w fun v _ => v = .agg ⟨u8s (shaI (prI ls))⟩ := by
  refine enterW (tb := tb) Tryz.func103 rfl Tryz.ntmps103 rfl ?_
  repeat' (first | (apply R.is1; first | (apply R.pure; exact rfl; (apply Ok1.move; exact rfl)) | (apply R.alloc; (iterate 3 exact rfl); intro)) | apply R.nil | (apply T.is; first | apply T.seq | apply T.region | apply T.block))
  rename_i b2 b3
  apply T.loopK (α := Nat × RS) (I := fun y => y.1 ≤ 4 ∧ RuI y.2 (prI (ls.take y.1))) (σi := fun y => [(0, s), (2, .pointer (some ⟨b2, 0, none⟩)), (3, .pointer (some ⟨b3, 0, none⟩)), (8, .int .i64 y.1)])
    (Li := fun y => (b2, .cells ⟨List.replicate 32 (.int .u8 0)⟩ 98 (0, 0)) :: RL b3 y.2) (μ := fun y => 4 - y.1) (i0 := (0, ru0))
  · exact ⟨Nat.zero_le _, ru0_ok⟩
  · exact ⟨rfl, rfl, rfl, rfl, trivial⟩
  · simp only [RL]
    (focus (repeat' first | exact Keep.nil _ | exact Ext.one _ _ | apply Keep.cons | apply Ext.cons); done)
  · rintro ⟨i, st⟩ ⟨hi, hI⟩
    simp only at hi hI ⊢
    have hpl := pr_len (ls := ls.take i) fun xs hx => hle xs (List.mem_of_mem_take hx)
    have htl : (ls.take i).length ≤ 4 := by rw [List.length_take, hl]; omega
    rcases Nat.lt_or_ge i 4 with hlt | hge
    · obtain ⟨xs, hx⟩ : ∃ xs, ls[i]? = some xs := ⟨_, List.getElem?_eq_getElem (by omega)⟩
      have hxl := hle xs (List.mem_of_getElem? hx)
      have h1 := hlog i xs hx
      have hsn := pr_snoc hx
      have hlb : lB xs = ((xs.length : Int) :: xs).flatMap pB := rfl
      rw [hlb] at hsn
      have hcat : ∀ p1 p2 c2, icat [⟨p1, 1, [(xs.length : Int)]⟩, ⟨p2, c2, xs⟩] = (xs.length : Int) :: xs := fun _ _ _ => by simp [icat]
      have hcon : ∀ (bq b1 : Nat) (ov : Ov) w1, OvOk 1 ov xs.length (iis xs) → RdSl w1 (some ⟨bq, 0, none⟩) Pi.v [⟨some ⟨b1, 0, none⟩, 1, [(xs.length : Int)]⟩, ⟨ovp ov, ovc ov xs.length, xs⟩] → RdSl w1 (some ⟨b1, 0, none⟩) iV [(xs.length : Int)] → RdSl w1 (ovp ov) iV xs → CallM Tryz.prog 87 [.slice (some ⟨bq, 0, none⟩) 2 2] [] w1 fun v L => ∃ ov', OvOk 1 ov' ((xs.length : Int) :: xs).length (iis ((xs.length : Int) :: xs)) ∧ v = slV ov' ((xs.length : Int) :: xs).length ∧ L = blkL 3 ov' (iis ((xs.length : Int) :: xs)) := by
        intro bq b1 ov w1 hov h2 h3 h4
        have := iconcat_ok (some ⟨bq, 0, none⟩) 2 2 [⟨some ⟨b1, 0, none⟩, 1, [(xs.length : Int)]⟩, ⟨ovp ov, ovc ov xs.length, xs⟩] rfl (by rw [hcat, List.length_cons]; omega) (by decide) w1 h2 (by
          intro z hz
          simp only [List.mem_cons, List.not_mem_nil, or_false] at hz
          rcases hz with rfl | rfl
          · exact h3
          · exact h4)
        rw [hcat] at this
        exact this
      have hzl : ((xs.length : Int) :: xs).length ≤ 257 := by rw [List.length_cons]; omega
      repeat' (first | (apply R.is1; first | (apply R.isBin; (apply R.pure; exact rfl; (apply Ok1.lss_t; exact rfl; exact rfl; omega))) | (apply R.isCall; first | (apply R.callE (vs := [s, .int .i64 i]); (iterate 3 exact rfl); exact Ext.none _; intro w1 hw1; exact h1 w1 hw1.chg; rintro v Lo ⟨ov, hov, rfl, rfl⟩; rw [slV_eq hov]) | (apply R.callE (vs := [.slice (some ⟨_, 0, none⟩) 2 2]); (iterate 3 exact rfl); exact Ext.none _; intro w1 hw1; exact hcon _ _ ov w1 hov (RdSl.of (junk := []) hw1 (by exact At.head) rfl) (RdSl.of (junk := []) hw1 (by (focus (repeat' first | exact At.head | apply At.tail); done)) rfl) (irdown hov hw1 (Ext.mem (by (focus (repeat' first | exact Ext.here _ _ | apply Ext.cons); done)))); rintro v Lo ⟨ovz, hovz, rfl, rfl⟩; rw [slV_eq hovz]) | (apply R.pure; exact rfl; (apply Ok1.lenS; (iterate 3 exact rfl)))) | (apply R.pure; exact rfl; first | (apply Ok1.move; exact rfl) | (apply Ok1.assign; exact rfl)) | (apply R.buildSlice; (iterate 12 exact rfl); intro)) | apply R.nil | (apply T.is; first | apply T.seq | apply T.region | apply T.block | apply T.skip | (apply T.cond_t; exact rfl)))
      generalize ((xs.length : Int) :: xs) = zs at *
      apply T.loopK (α := Nat × RS) (I := fun y => y.1 ≤ zs.length ∧ RuI y.2 (prI (ls.take i) ++ (zs.take y.1).flatMap pB)) (σi := fun y => [(0, s), (2, .pointer (some ⟨b2, 0, none⟩)), (3, .pointer (some ⟨b3, 0, none⟩)), (8, .int .i64 i), (19, .slice (ovp ovz) zs.length (ovc ovz zs.length)), (20, .int .i64 zs.length), (21, .int .i64 y.1)])
        (Li := fun y => (b2, .cells ⟨List.replicate 32 (.int .u8 0)⟩ 98 (0, 0)) :: (RL b3 y.2 ++ blkL 3 ovz (iis zs))) (μ := fun y => zs.length - y.1) (i0 := (0, st))
      · exact ⟨Nat.zero_le _, by simpa using hI⟩
      · exact ⟨rfl, rfl, rfl, rfl, rfl, rfl, rfl, trivial⟩
      · (focus (repeat' first | exact Ext.one _ _ | exact Ext.here _ _ | exact Ext.all _ | apply Keep.cons | apply Keep.app | apply Keep.last | apply Ext.cons | apply Ext.app); done)
      · rintro ⟨j, st1⟩ ⟨hj, hI1⟩
        simp only at hj hI1 ⊢
        rcases Nat.lt_or_ge j zs.length with hjl | hjg
        · obtain ⟨y, hy⟩ : ∃ y, zs[j]? = some y := ⟨_, List.getElem?_eq_getElem (by omega)⟩
          obtain ⟨b9, j9, k9, rfl⟩ := ovsome hovz (by omega)
          have hcy : ∀ w1, RdSl w1 (ovp (some (b9, j9, k9))) iV zs → w1.cell? ⟨b9, 0 + j * 1, none⟩ = some (.int .i64 y) := by
            intro w1 h1
            obtain ⟨b', o', hpe', H'⟩ := h1.at hy
            cases hpe'
            exact H' 1 iV_len 0 (by decide)
          have hbl : (prI (ls.take i) ++ (zs.take j).flatMap pB).length ≤ 3000 := by
            rw [List.length_append, fpB_len, List.length_take]
            omega
          have hca : ∀ bp : Nat, cat [⟨some ⟨bp, 0, none⟩, 2, pB y⟩] = pB y := fun _ => by simp [cat]
          have hpl2 : (pB y).length = 2 := rfl
          have hbd : ∀ bp : Nat, ((prI (ls.take i) ++ (zs.take j).flatMap pB) ++ cat [⟨some ⟨bp, 0, none⟩, 2, pB y⟩]).length ≤ 1000000000 := fun bp => by rw [hca, List.length_append, hpl2]; omega
          have hadd := fun (bp bq : Nat) w1 h2 h3 h4 h5 => rAdd_ok b3 st1 (prI (ls.take i) ++ (zs.take j).flatMap pB) hI1 (some ⟨bq, 0, none⟩) 1 1 [⟨some ⟨bp, 0, none⟩, 2, pB y⟩] rfl (by rw [hca]; exact pB_byt y) (hbd bp) (by decide) w1 h2 h3 (fun z hz => by rw [List.mem_singleton.1 hz]; exact ⟨h4, h5⟩)
          have hnx : prI (ls.take i) ++ (zs.take (j + 1)).flatMap pB = (prI (ls.take i) ++ (zs.take j).flatMap pB) ++ pB y := by
            rw [List.take_add_one, hy, List.flatMap_append, List.append_assoc]
            simp
          repeat' (first | (apply R.is1; first | (apply R.isBin; (apply R.pure; exact rfl; first | (apply Ok1.lss_t; exact rfl; exact rfl; omega) | (apply Ok1.shr; exact rfl; exact rfl; omega; exact Nat.le_of_ble_eq_true rfl; (exact pwE8)))) | (apply R.pure; exact rfl; first | (apply Ok1.indexAddrP (b := b9) (o := 0); (iterate 6 exact rfl); omega; omega) | (apply Ok1.load; exact rfl; apply Ld.of1; exact rfl; exact rfl; intro w1 hw1; exact hcy w1 (irdown hovz hw1 (Ext.mem (by (focus (repeat' first | exact Ext.one _ _ | apply Ext.cons | apply Ext.app); done))))) | (apply Ok1.move; exact rfl) | (apply Ok1.assign; exact rfl) | (apply Ok1.conv; (iterate 5 exact rfl))) | (apply R.buildSlice; (iterate 12 exact rfl); intro)) | apply R.nil | (apply T.is; first | apply T.seq | apply T.region | apply T.block | apply T.skip | (apply T.cond_t; exact rfl)))
          rename_i bp bq
          repeat' (first | (apply R.is1; first | (apply R.isBin; (apply R.pure; exact rfl; (apply Ok1.add64; exact rfl; exact rfl; omega; omega))) | (apply R.isCall; (apply R.callE (Li := RL b3 st1) (vs := [.pointer (some ⟨b3, 0, none⟩), .slice (some ⟨bq, 0, none⟩) 1 1]); (iterate 3 exact rfl); (focus (repeat' first | exact Ext.here _ _ | apply Ext.cons); done); intro w1 hw1; exact hadd bp bq w1 (RdSl.of (junk := []) hw1 (by exact At.head) rfl) (fun _ => Off.of (k := 0) hw1 (by (focus (repeat' first | exact Ext.here _ _ | apply Ext.cons); done)) (by exact At.head)) (RdSl.of (v := u8V) (rs := pB y) (junk := []) hw1 (by (focus (repeat' first | exact At.head | apply At.tail); done)) rfl) (fun _ => Off.of (k := 0) hw1 (by (focus (repeat' first | exact Ext.here _ _ | apply Ext.cons); done)) (by (focus (repeat' first | exact At.head | apply At.tail); done))); rintro v Lo ⟨st2, rfl, rfl, hI2, hon2⟩; rw [hca] at hI2)) | (apply R.pure; exact rfl; (apply Ok1.move; exact rfl))) | apply R.nil | (apply T.is; apply T.region))
          exact ⟨(j + 1, st2), ⟨by simp only; omega, by simp only [hnx]; exact hI2⟩, by simp only; omega, ⟨rfl, rfl, rfl, rfl, rfl, rfl, rfl, trivial⟩, by (focus (repeat' first | exact Keep.nil _ | exact Ext.one _ _ | exact Ext.here _ _ | apply Keep.cons | apply Keep.app | apply Ext.cons | apply Ext.app); done)⟩
        · have hjz : j = zs.length := by omega
          subst hjz
          rw [List.take_length, ← hsn] at hI1
          repeat' (first | (apply R.is1; first | (apply R.isBin; (apply R.pure; exact rfl; first | (apply Ok1.add64; exact rfl; exact rfl; omega; omega) | (apply Ok1.lss_f; exact rfl; exact rfl; omega))) | (apply R.pure; exact rfl; (apply Ok1.move; exact rfl))) | apply R.nil | (apply T.is; first | apply T.seq | apply T.region | apply T.exit | (apply T.cond_f; exact rfl)))
          exact ⟨(i + 1, st1), ⟨by simp only; omega, hI1⟩, by simp only; omega, ⟨rfl, rfl, rfl, rfl, trivial⟩, by (focus (repeat' first | exact Ext.one _ _ | exact Ext.here _ _ | apply Keep.cons | apply Keep.last); done)⟩
    · have him : i = 4 := by omega
      subst him
      rw [List.take_of_length_le (by omega)] at hI hpl
      have hsum := fun w1 hb h2 => rSum_ok b3 st (prI ls) hI (by omega) w1 hb h2
      have hls : (u8s (shaI (prI ls))).length = 32 := by rw [u8s_len, sha_len]
      have hone := u8s_one (shaI (prI ls))
      have hset : ∀ cs : List Value, cs.length = 32 → setE cs 0 (u8s (shaI (prI ls))) = some (u8s (shaI (prI ls))) := fun cs h => setE_all (by rw [hls, h])
      have hsub := subE_all hls
      generalize shaI (prI ls) = d0 at *
      repeat' (first | (apply R.is1; first | (apply R.isBin; (apply R.pure; exact rfl; (apply Ok1.lss_f; exact rfl; exact rfl; omega))) | (apply R.isCall; (apply R.callV (vs := [.pointer (some ⟨b3, 0, none⟩)]); (iterate 3 exact rfl); intro w1 hw1; exact hsum w1 (hw1.get _ _ (List.mem_cons_of_mem _ List.mem_cons_self)) (hI.rd hw1 (fun z hz => List.mem_cons_of_mem _ (List.mem_cons_of_mem _ hz)))))) | (apply R.is0; (apply R.store; (iterate 4 exact rfl); exact hls; exact hone; exact Upd.head; exact hset _ rfl)) | apply R.nil | (apply T.is; first | apply T.seq | apply T.region | apply T.exit | apply T.ret | (apply T.cond_f; exact rfl)))
      all_goals apply RetOk.c
      all_goals first | exact rfl | skip
      all_goals (apply Ld.ownk; exact rfl; exact rfl; exact At.head; exact hsub)
theorem print_ok (bs : Nat) (gs : List Lg) (hg : GOk gs) (w : World) (hs : SetR w bs gs) : CallW Tryz.prog 103 [.pointer (some ⟨bs, 0, none⟩)] w fun v _ => v = .agg ⟨u8s (shaI (prI (lgs gs)))⟩ :=
  print_gen _ (lgs gs) (by rw [lgs, List.length_map, hg.len]) (fun xs hx => by obtain ⟨g, hgm, rfl⟩ := List.mem_map.1 hx; exact hg.le g hgm) w fun i xs hi w1 hc => by
    rw [lgs, List.getElem?_map] at hi
    cases hgi : gs[i]? with
    | none => rw [hgi] at hi; cases hi
    | some g =>
      rw [hgi] at hi
      cases hi
      exact log_ok bs gs hg i g hgi w1 (hs.chg hc)
/-- A digest: versions, and eight bytes. -/
def dgV (vs p8 : List Int) : List Value := iis vs ++ u8s p8
theorem dg_len {vs p8 : List Int} (hv : vs.length = 4) (hp : p8.length = 8) : (dgV vs p8).length = 12 := by simp [dgV, iis_len, u8s_len, hv, hp]
theorem dg_one (vs p8 : List Int) : (dgV vs p8).all Value.oneCell' = true := by rw [dgV, List.all_append, iis_one, u8s_one]; rfl
theorem fill_dg (a b : Nat) {vs p8 : List Int} (hv : vs.length = 4) (hp : p8.length = 8) : fillE (fldPl [(a, 0, 4), (b, 4, 8)]) (dgV [0, 0, 0, 0] [0, 0, 0, 0, 0, 0, 0, 0]) [(0, .agg ⟨iis vs⟩), (1, .agg ⟨u8s p8⟩)] = some (dgV vs p8) := by
  match vs, hv, p8, hp with
  | [v0, v1, v2, v3], _, [x0, x1, x2, x3, x4, x5, x6, x7], _ => rfl
theorem dOf_gen (s : Value) (vs pr : List Int) (hv : vs.length = 4) (hp : pr.length = 32) (w : World) (hpr : ∀ w1, Chg [] w w1 → CallW Tryz.prog 103 [s] w1 fun v _ => v = .agg ⟨u8s pr⟩) (hve : ∀ w1, Chg [] w w1 → CallW Tryz.prog 70 [s] w1 fun v _ => v = .agg ⟨iis vs⟩) :
    CallW Tryz.prog 79 [s] w fun v _ => v = .agg ⟨dgV vs (pr.take 8)⟩ := by
  have hpl : (u8s pr).length = 32 := by rw [u8s_len, hp]
  have hpo := u8s_one pr
  have h8 : (pr.take 8).length = 8 := by rw [List.length_take, hp]; rfl
  have hs8 : subE (u8s pr) 0 8 = some (u8s (pr.take 8)) := by
    have : u8s pr = u8s (pr.take 8) ++ u8s (pr.drop 8) := by rw [← u8s_app, List.take_append_drop]
    rw [this]
    exact subE_app _ _ (by rw [u8s_len, h8])
  have hset : ∀ cs : List Value, cs.length = 32 → setE cs 0 (u8s pr) = some (u8s pr) := fun cs h => setE_all (by rw [hpl, h])
  have hfill := fun a b => fill_dg a b hv h8
  have hdl := dg_len hv h8
  have hdo := dg_one vs (pr.take 8)
  have hset2 : ∀ cs : List Value, cs.length = 12 → setE cs 0 (dgV vs (pr.take 8)) = some (dgV vs (pr.take 8)) := fun cs h => setE_all (by rw [hdl, h])
  have hsub := subE_all hdl
  generalize dgV vs (pr.take 8) = D at *
  generalize pr.take 8 = p8 at *
  generalize u8s pr = P at *
  refine enterW (tb := tb) Tryz.func79 rfl Tryz.ntmps79 rfl ?_
  repeat' (first | (apply R.is1; first | (apply R.isCall; (apply R.callV (vs := [s]); (iterate 3 exact rfl); intro w1 hw1; exact hpr w1 hw1.chg)) | (apply R.pure; exact rfl; (apply Ok1.move; exact rfl)) | (apply R.alloc; (iterate 3 exact rfl); intro)) | (apply R.is0; (apply R.store; (iterate 4 exact rfl); (exact hpl); (exact hpo); exact Upd.head; (exact hset _ rfl))) | apply R.nil | (apply T.is; first | (apply T.drawC (id := 2) [0] (by decide); ((apply A.tk 0; exact rfl; kernel_rfl; (apply Ok1.move; exact rfl)) <;> (apply A.call 1; exact rfl; exact rfl; kernel_rfl; kernel_rfl; kernel_rfl; exact rfl; exact rfl; (exact fun w1 hw1 => hve w1 hw1.chg)) <;> (apply A.tk 2; exact rfl; kernel_rfl; (apply Ok1.sliceArrTo (i := 8); (iterate 5 exact rfl); decide)) <;> (apply A.tk 3; exact rfl; kernel_rfl; (apply Ok1.arrAt; (iterate 3 exact rfl); decide)) <;> (apply A.tk 4; exact rfl; kernel_rfl; (apply Ok1.load; exact rfl; apply Ld.ownk; exact rfl; exact rfl; exact At.head; exact hs8)) <;> (apply A.tk 5; exact rfl; kernel_rfl; (apply Ok1.build; (iterate 4 exact rfl); exact hfill _ _)) <;> (apply A.one 6; kernel_rfl; exact rfl; (((apply R.store; (iterate 4 exact rfl); (exact hdl); (exact hdo); (focus (repeat' first | exact Upd.head | apply Upd.tail); done); (exact hset2 _ rfl)))); apply R.nil; refine ⟨?_, ?_⟩; (focus ((repeat' (first | exact trivial | (refine ⟨?_, ?_⟩; exact At.head)))))) <;> (apply A.done; kernel_rfl))) | apply T.seq | apply T.region | apply T.ret))
  all_goals apply RetOk.c
  all_goals first | exact rfl | skip
  all_goals (apply Ld.ownk; exact rfl; exact rfl; (focus (repeat' first | exact At.head | apply At.tail); done); exact hsub)
theorem dOf_ok (bs : Nat) (gs : List Lg) (hg : GOk gs) (w : World) (hs : SetR w bs gs) : CallW Tryz.prog 79 [.pointer (some ⟨bs, 0, none⟩)] w fun v _ => v = .agg ⟨dgV ((lgs gs).map fun x => (x.length : Int)) ((shaI (prI (lgs gs))).take 8)⟩ := by
  refine dOf_gen _ _ _ (by rw [List.length_map, lgs, List.length_map, hg.len]) (sha_len _) w (fun w1 hc => print_ok bs gs hg w1 (hs.chg hc)) (fun w1 hc => ?_)
  have h := versions_ok bs gs hg w1 (hs.chg hc)
  rw [lens_of rfl] at h
  exact h
theorem copy_ok (bs : Nat) (gs : List Lg) (hg : GOk gs) (w : World) (hs : SetR w bs gs) :
    CallM Tryz.prog 81 [.pointer (some ⟨bs, 0, none⟩)] [] w fun v L => ∃ bc gs', v = .pointer (some ⟨bc, 0, none⟩) ∧ lgs gs' = lgs gs ∧ GOk gs' ∧ L = SetL bc gs' := by
  have hlog := fun i g hi w1 (hc : Chg [] w w1) => log_ok bs gs hg i g hi w1 (hs.chg hc)
  refine enterK (tb := tb) Tryz.func81 rfl Tryz.ntmps81 rfl ?_
  repeat' (first | (apply R.is1; first | (apply R.isBin; (apply R.pure; exact rfl; (apply Ok1.eqlP; (iterate 5 exact rfl)))) | (apply R.isCall; (apply R.callE (vs := []); (iterate 3 exact rfl); exact Ext.none _; intro w1 hw1; exact rnew_ok w1; rintro v Lo ⟨bc, rfl, rfl⟩)) | (apply R.pure; exact rfl; first | (apply Ok1.move; exact rfl) | (apply Ok1.assign; exact rfl))) | apply R.nil | (apply T.is; first | apply T.seq | apply T.region | apply T.block | apply T.skip | (apply T.cond_f; exact rfl)))
  apply T.loopK (α := Nat × List Lg) (I := fun y => y.1 ≤ 4 ∧ GOk y.2 ∧ lgs y.2 = (lgs gs).take y.1 ++ List.replicate (4 - y.1) []) (σi := fun y => [(0, .pointer (some ⟨bs, 0, none⟩)), (3, .pointer (some ⟨bc, 0, none⟩)), (8, .int .i64 y.1)]) (Li := fun y => SetL bc y.2) (μ := fun y => 4 - y.1) (i0 := (0, [lg0, lg0, lg0, lg0]))
  · exact ⟨Nat.zero_le _, GOk.new, rfl⟩
  · exact ⟨rfl, rfl, rfl, trivial⟩
  · (focus (repeat' first | exact Keep.nil _ | exact Ext.one _ _ | apply Keep.cons); done)
  · rintro ⟨i, gs2⟩ ⟨hi, hg2, hlg⟩
    simp only at hi hg2 hlg ⊢
    simp only [SetL]
    rcases Nat.lt_or_ge i 4 with hlt | hge
    · obtain ⟨g, hx⟩ : ∃ g, gs[i]? = some g := ⟨_, List.getElem?_eq_getElem (by rw [hg.len]; omega)⟩
      obtain ⟨g2, hx3⟩ : ∃ g2, gs2[i]? = some g2 := ⟨_, List.getElem?_eq_getElem (by rw [hg2.len]; omega)⟩
      have h1 := hlog i g hx
      have hgl := hg.le g (List.mem_of_getElem? hx)
      have hset := fun g' => setV_set (gs := gs2) (i := i) g' (by rw [hg2.len]; omega)
      repeat' (first | (apply R.is1; first | (apply R.isBin; (apply R.pure; exact rfl; first | (apply Ok1.add64; exact rfl; exact rfl; omega; omega) | (apply Ok1.lss_t; exact rfl; exact rfl; omega))) | (apply R.pure; exact rfl; first | (apply Ok1.move; exact rfl) | (apply Ok1.assign; exact rfl))) | apply R.nil | (apply T.is; first | (apply T.drawC (id := 7) [] (by decide); ((apply A.tk 0; exact rfl; kernel_rfl; (apply Ok1.move; exact rfl)) <;> (apply A.tk 1; exact rfl; kernel_rfl; (apply Ok1.move; exact rfl)) <;> (apply A.tk 2; exact rfl; kernel_rfl; (apply Ok1.move; exact rfl)) <;> (apply A.tk 3; exact rfl; kernel_rfl; (apply Ok1.move; exact rfl)) <;> (apply A.tk 5; exact rfl; kernel_rfl; (apply Ok1.nilCheck; exact rfl)) <;> (apply A.tk 6; exact rfl; kernel_rfl; (apply Ok1.fieldAddr; (iterate 5 exact rfl))) <;> (apply A.one 4; kernel_rfl; exact rfl; (((apply R.callE (vs := [.pointer (some ⟨bs, 0, none⟩), .int .i64 i]); (iterate 3 exact rfl); exact Ext.none _; intro w1 hw1; exact h1 w1 hw1.chg; rintro v Lo ⟨ov, hov, rfl, rfl⟩; rw [slV_eq hov]))); apply R.nil; refine ⟨?_, ?_⟩; (focus ((repeat' (exact trivial))))) <;> (apply A.tk 7; exact rfl; kernel_rfl; (apply Ok1.indexAddrA; (iterate 5 exact rfl); omega; omega)) <;> (apply A.one 8; kernel_rfl; exact rfl; (((apply R.store; (iterate 6 exact rfl); (focus (repeat' first | exact Upd.head | apply Upd.right); done); have h9 := hset ⟨ov, g.xs⟩; rw [Lg.v_eq (g := ⟨ov, g.xs⟩) hov] at h9; exact h9))); apply R.nil; refine ⟨?_, ?_⟩; (focus ((repeat' (exact trivial))))) <;> (apply A.done; kernel_rfl))) | apply T.seq | apply T.region | apply T.block | apply T.skip | (apply T.cond_t; exact rfl)))
      refine ⟨(i + 1, gs2.set i ⟨ov, g.xs⟩), ⟨by simp only; omega, hg2.set i hov hgl, ?_⟩, by simp only; omega, ⟨rfl, rfl, rfl, trivial⟩, ?_⟩
      · have hl : (lgs gs)[i]? = some g.xs := by rw [lgs, List.getElem?_map, hx]; rfl
        rw [lgs, List.map_set, ← lgs, hlg, show 4 - i = (4 - (i + 1)) + 1 by omega, set_mid (by rw [List.length_take, lgs, List.length_map, hg.len]; omega), List.take_add_one, hl]
        simp
      · simp only
        rw [LsL_set _ (by rw [hg2.len]; omega), LsL_at hx3]
        simp only [Lg.L]
        (focus (repeat' first | exact Ext.one _ _ | exact Ext.here _ _ | exact Ext.all _ | apply Keep.cons | apply Keep.app | apply Keep.last | apply Ext.app); done)
    · have him : i = 4 := by omega
      subst him
      rw [List.take_of_length_le (by rw [lgs, List.length_map, hg.len]; omega), Nat.sub_self, List.replicate_zero, List.append_nil] at hlg
      repeat' (first | (apply R.is1; first | (apply R.isBin; (apply R.pure; exact rfl; (apply Ok1.lss_f; exact rfl; exact rfl; omega))) | (apply R.pure; exact rfl; first | (apply Ok1.move; exact rfl) | (apply Ok1.assign; exact rfl))) | apply R.nil | (apply T.is; first | apply T.seq | apply T.region | apply T.exit | apply T.ret | (apply T.cond_f; exact rfl)))
      (apply RetOk.t; exact rfl)
      exact ⟨_, by (focus (repeat' first | exact Ext.one _ _ | exact Ext.all _ | apply Keep.cons | apply Keep.last); done), bc, gs2, rfl, hlg, hg2, rfl⟩
def noDefers (ops : Array Oper) : Bool := ops.toList.all noDefer
theorem noDefers_get {ops : Array Oper} (h : noDefers ops = true) {i : Nat} {o : Oper} (hi : ops[i]? = some o) : noDefer o = true := by
  unfold noDefers at h
  rw [List.all_eq_true] at h
  exact h o (by rw [Array.mem_toList_iff]; exact Array.mem_of_getElem? hi)
theorem wpList_fen {ro : Option Nat} {X : Cx} {ops : Array Oper} {K : Env → Lst → Prop} : ∀ (l : List Oper) (a : Act) (w : World), l.all noDefer = true → wpList X.P ops (X.liftK K) l a w → wpListIn (fen ro) 0 X.P ops (X.liftK K) l a w
  | [], _, _, _, h => h
  | o :: r, a, w, hd, h => by
    rw [List.all_cons, Bool.and_eq_true] at hd
    unfold wpList at h
    unfold wpListIn
    by_cases hwd : Region.wanted o (yielded ops a.tmps) = true
    · rw [if_pos hwd] at h ⊢
      rcases h with h | ⟨_, a, w, h⟩
      · exact Oper.wp_fen hd.1 (Oper.wp_change (fun a w h => wpList_fen r a w hd.2 h) (fun c a w h => by cases h.1) (fun ⟨a, w, h⟩ => by cases h.1) h)
      · cases h.1
    · rw [if_neg hwd] at h ⊢
      exact ⟨fun f _ => fen_fn ro f, wpList_fen r _ _ hd.2 h⟩
theorem wpAny_fen {ro : Option Nat} {X : Cx} {ops : Array Oper} {K : Env → Lst → Prop} (hd : noDefers ops = true) : ∀ (fuel : Nat) (listed : Array Bool) (a : Act) (w : World), wpAny X.P .any ops (X.liftK K) fuel listed a w → wpAnyIn (fen ro) 0 X.P .any ops (X.liftK K) fuel listed a w
  | 0, _, _, _, h => h
  | fuel + 1, listed, a, w, h => by
    refine ⟨h.1, fun i hi => ?_⟩
    have h1 := h.2 i hi
    unfold wpOp at h1
    unfold wpOpIn
    cases ho : ops[i]? with
    | none => rw [ho] at h1; exact wpAny_fen hd fuel _ a w h1
    | some o =>
      rw [ho] at h1
      simp only at h1 ⊢
      by_cases hwd : Region.wanted o (yielded ops a.tmps) = true
      · rw [if_pos hwd] at h1 ⊢
        rcases h1 with h1 | ⟨_, a, w, h1⟩
        · exact Oper.wp_fen (noDefers_get hd ho) (Oper.wp_change (fun a w h => wpAny_fen hd fuel _ a w h) (fun c a w h => by cases h.1) (fun ⟨a, w, h⟩ => by cases h.1) h1)
        · cases h1.1
      · rw [if_neg hwd] at h1 ⊢
        exact ⟨fun f _ => fen_fn ro f, wpAny_fen hd fuel _ _ _ h1⟩
/-- The judgement over code within a round. -/
structure TI (X : Cx) (ro : Option Nat) (c : Code) (Q : Post) (σ : Env) (L : Lst) : Prop where
  run : ∀ a w, Mod X.n a σ → Hp X.w0 X.S L w → c.wpIn (fen ro) 0 X.P (X.lift Q) a w
section
variable {X : Cx} {ro : Option Nat} {x y c : Code} {Q : Post} {σ : Env} {L : Lst} {id : Nat} {ops : Array Oper}
theorem TI.region (hd : noDefers ops = true) (h : R X ops ops.toList (Q .normal) σ L) : TI X ro (.region id ops false) Q σ L :=
  ⟨fun a w ha hw => Go.wpIn_mono (wpIn_region_list (wpList_fen _ a w hd (h.run a w ha hw))) fun e a w ⟨he, σ, L, h1, h2, h3⟩ => ⟨σ, L, h1, h2, he ▸ h3⟩⟩
theorem TI.drawC (is : List Nat) (hn : is.Nodup) (hd : noDefers ops = true) (h : A X ops (pick L is) ops.size (Array.replicate ops.size false) (Q .normal) σ L) : TI X ro (.region id ops true) Q σ L :=
  ⟨fun a w ha hw => by
    have hw' := hw.step (Chg.drew [] w)
    exact Go.wpIn_mono (wpIn_region_any X.tb.mix (wpAny_fen hd _ _ _ _ (wpAny_of_C _ _ _ _ (h.run a _ ha hw' (hw'.pick hn))))) fun e a w ⟨he, σ, L, h1, h2, h3⟩ => ⟨σ, L, h1, h2, he ▸ h3⟩⟩
theorem TI.seq (h : TI X ro x (noQ fun σ L => TI X ro y Q σ L) σ L) : TI X ro (.seq x y) Q σ L :=
  ⟨fun a w ha hw => wpIn_seq (Go.wpIn_mono (h.run a w ha hw) fun e a w ⟨σ, L, h1, h2, h3⟩ => by
    cases e with
    | normal => exact h3.run a w h1 h2
    | _ => exact h3.elim)⟩
theorem TI.block {K : Env → Lst → Prop} (h : TI X ro c (noQ K) σ L) : TI X ro (.block id c) (noQ K) σ L :=
  ⟨fun a w ha hw => wpIn_block (Go.wpIn_mono (h.run a w ha hw) fun e a w ⟨σ, L, h1, h2, h3⟩ => by
    cases e with
    | normal => exact ⟨σ, L, h1, h2, h3⟩
    | _ => exact h3.elim)⟩
end
theorem YieldM.of2 {P : Program} {tb : Tb P} {n l p q : Nat} {rec : Loop} {σ : Env} {u v : Value} {Li : Lst} {w : World} {R1 : Lst → Prop}
    (hm : Mod n { tmps := rec.tmps, defers := [] } σ) (hp : rec.params = #[p, q]) (hpn : p < n) (hqn : q < n) (hst : rec.state = .ready) (hpe : rec.pending = none)
    (h : TI ⟨P, tb, n, w, l :: blks Li⟩ (some l) rec.assign (noQ fun σ2 L2 => ∃ L3, Keep L2 ((l, .loop rec) :: L3) ∧ TI ⟨P, tb, n, w, l :: blks Li⟩ (some l) rec.body (noQ fun σ4 L4 => ∃ L5, Keep L4 ((l, .loop { rec with state := .busy }) :: L5) ∧ R1 L5) σ2 ((l, .loop { rec with state := .busy }) :: L3)) ((q, v) :: (p, u) :: σ) ((l, .loop rec) :: Li)) :
    YieldM P l [u, v] ((l, .loop rec) :: Li) w fun x L => x = .bool true ∧ ∃ L5, R1 L5 ∧ L = (l, .loop rec) :: L5 := by
  refine ⟨fun hw => ?_⟩
  have hl := hw.get l _ List.mem_cons_self
  refine ⟨_, _, _, _, run_yield hl (by rw [hp]; rfl), roundIn_of_wpIn trivial ?_⟩
  have hm' : Mod n { tmps := ((rec.params.zip #[u, v]).foldl (fun t (q, v) => t.setIfInBounds q v) rec.tmps), defers := [] } ((q, v) :: (p, u) :: σ) := by
    have := (hm.put hpn u).put hqn v
    rw [hp]
    simpa [Act.put] using this
  refine Go.wpIn_mono (h.run _ w hm' hw) ?_
  rintro e a1 w1 ⟨σ2, L2, m2, h2, hq⟩
  cases e with
  | normal =>
    obtain ⟨L3, hk, hbody⟩ := hq
    have h3 := h2.keep hk
    have hl1 := h3.get l _ List.mem_cons_self
    have hlt : l < w1.heap.size := (Array.getElem?_eq_some_iff.1 hl1).1
    refine ⟨_, run_beginRound hl1 hst, ?_⟩
    have h4 : Hp w (l :: blks Li) ((l, .loop { rec with state := .busy }) :: L3) (w1.putObj l (.loop { rec with state := .busy })) := h3.upd .head (Chg.setObj w1 _ (by simp)) (World.putObj_heap_same hlt)
    refine Go.wpIn_mono (hbody.run _ _ m2 h4) ?_
    rintro e a5 w5 ⟨σ4, L4, m4, h5, hq5⟩
    cases e with
    | normal =>
      obtain ⟨L5, hk5, hR5⟩ := hq5
      have h6 := h5.keep hk5
      have hl5 := h6.get l _ List.mem_cons_self
      have hlt5 : l < w5.heap.size := (Array.getElem?_eq_some_iff.1 hl5).1
      refine ⟨_, _, run_endRound none hl5, .bool true, (l, .loop rec) :: L5, rfl, ⟨rfl, L5, hR5, rfl⟩, ?_⟩
      have he : ({ { rec with state := LoopState.busy } with state := if (none : Option Code).isNone then .ready else .done, pending := none } : Loop) = rec := by
        cases rec; simp only at hst hpe; subst hst; subst hpe; rfl
      rw [he]
      exact h6.upd .head (Chg.setObj w5 _ (by simp)) (World.putObj_heap_same hlt5)
    | _ => exact hq5.elim
  | _ => exact hq.elim
/-- The loop's record as the rounds find it. -/
structure RecOk2 (n : Nat) (σ : Env) (p q : Nat) (assign body : Code) (rec : Loop) : Prop where
  mod : Mod n { tmps := rec.tmps, defers := [] } σ
  params : rec.params = #[p, q]
  assign : rec.assign = assign
  body : rec.body = body
  state : rec.state = .ready
  pending : rec.pending = none
structure RG2 (X : Cx) (gf : Nat) (rs : List ResultVar) (p q : Nat) (assign body rest : Code) (Rp : Value → Lst → Prop) (g : Operand) (σ : Env) (L : Lst) : Prop where
  ex : ∃ (lb : List Value) (La Lr : Lst) (J : Lst → Prop), Keep L (La ++ Lr) ∧ ev σ g = some (.func (.func gf) #[] lb.toArray) ∧
    (∀ l rec w, RecOk2 X.n σ p q assign body rec → (∃ L2, Hp X.w0 X.S (((l, .loop rec) :: La) ++ L2) w) → CallM X.P gf (.func (.yield l) #[] #[] :: lb) ((l, .loop rec) :: La) w fun v L' => ∃ Lb, J Lb ∧ L' = (l, .loop rec) :: Lb) ∧
    (∀ D Lb, J Lb → TD X [{ target := .collected D, args := #[] }] rest (fun e σ' L' => e = .ret ∧ ∃ L3, Keep L' ((D, .deferred (some [])) :: L3) ∧ RetOk X rs (fun v _ => Rp v L3) σ' ((D, .deferred none) :: L3)) σ ((D, .deferred (some [])) :: (Lb ++ Lr)))
theorem RetOk.run {X : Cx} {fn : Func} {Rp : Value → Lst → Prop} {σ : Env} {L : Lst} {a : Act} {w : World} (h : RetOk X fn.results.toList Rp σ L) (ha : Mod X.n a σ) (hw : Hp X.w0 X.S L w) : ∃ v, (results fn a.tmps).run X.P w = .ok v w ∧ Rp v L := by
  obtain ⟨⟨vs, h4, h5⟩⟩ := h
  refine ⟨tup vs, ?_, h5⟩
  have := ResIs.run ha hw h4
  have h6 : (fn.results.mapM (m := Sem) fun | .tmp t => Pure.pure (a.tmps.getD t undef) | .cell b t => do loadVar t (← asAddr (a.tmps.getD b undef))).run X.P w = .ok vs.toArray w := by
    rw [← Array.toArray_toList (xs := fn.results), List.mapM_toArray]
    simp only [Sem.run_map]
    erw [this]
    rfl
  simp only [results, Sem.run_bind]
  erw [h6]
  simp only [Result.andThen_ok, Sem.run_pure]
  congr 1
  cases vs with
  | nil => rfl
  | cons v vs => cases vs <;> rfl
theorem TF.range2 {X : Cx} {fn : Func} {Rp : Value → Lst → Prop} {x rest assign body : Code} {id p q gf : Nat} {rs : List ResultVar} {g : Operand} {σ : Env} {L : Lst} (hfn : fn.results.toList = rs) (he : X.tb.fns.contains gf = true)
    (h : T X x (noQ fun σ L => RG2 X gf rs p q assign body rest Rp g σ L) σ L) :
    TF X fn (fun e w' => ∃ v L', e = .returned v ∧ Rp v L' ∧ Hp X.w0 X.S L' w') (.seq (.seq x (.block id (.rangeFunc g #[p, q] assign body))) rest) σ L := by
  refine ⟨fun a w ha hw => wp_seq (wp_seq (wp_mono (h.run a w ha hw) ?_))⟩
  rintro e a w ⟨σ1, L1, m1, h1, q1⟩
  cases e with
  | normal =>
    obtain ⟨lb, La, Lr, J, hk, hg, hc, hr⟩ := q1.ex
    refine wp_block (wpIn_wide.1 (wpIn_rangeFunc (F := Fence.wide) (n := 0) fun fnn _ => ?_))
    obtain ⟨rec, hrec⟩ : ∃ rec : Loop, rec = { state := .ready, pending := none, fn := fnn, tmps := a.tmps, params := #[p, q], assign, body, defers := w.heap.size } := ⟨_, rfl⟩
    have hp1 := h1.keep hk
    have hp2 := hp1.alloc (.deferred (some []))
    have hp3 := hp2.alloc (.loop rec)
    rw [World.size_alloc] at hp3
    have hok : RecOk2 X.n σ1 p q assign body rec := by
      subst hrec
      exact ⟨⟨m1.size, rfl, m1.ok⟩, rfl, rfl, rfl, rfl, rfl⟩
    have hperm : (((w.heap.size + 1, Obj.loop rec) :: La) ++ ((w.heap.size, Obj.deferred (some [])) :: Lr)).Perm ((w.heap.size + 1, Obj.loop rec) :: (w.heap.size, Obj.deferred (some [])) :: (La ++ Lr)) := by
      rw [List.cons_append]
      exact (List.perm_middle).cons _
    have hp4 := hp3.perm hperm
    generalize hW : (w.alloc (.deferred (some []))).alloc (.loop rec) = W1 at *
    refine ⟨w.heap.size + 1, [{ target := .collected w.heap.size, args := #[] }], W1, { target := .fn (.func gf) lb.toArray, args := #[.func (.yield (w.heap.size + 1)) #[] #[]] }, W1, gf,
      (.func (.yield (w.heap.size + 1)) #[] #[] :: lb).toArray, W1, ?_, ?_, fun _ _ => trivial, ?_, fun e => (by cases e), ?_⟩
    · rw [← hW, hrec]; exact run_enterLoop_outer _ _ _ _ _
    · simp only [resolve, m1.ev hg]
      simp [go_sem]
    · have h9 := X.tb.ent he (.func (.yield (w.heap.size + 1)) #[] #[] :: lb).toArray W1
      simp only [invoke]
      simpa using h9
    · have hin : Hp W1 (blks ((w.heap.size + 1, Obj.loop rec) :: La)) ((w.heap.size + 1, Obj.loop rec) :: La) W1 := ⟨.refl _ _, fun b o hm => hp4.get b o (List.mem_append_left _ hm), (List.nodup_append.1 (by have := hp4.nod; rwa [List.map_append] at this)).1, fun b o hm => .inr (List.mem_map.2 ⟨(b, o), hm, rfl⟩)⟩
      refine callsIn_wide.2 (Calls.mono ((hc (w.heap.size + 1) rec W1 hok ⟨_, hp4⟩).run hin) ?_)
      rintro e w3 ⟨v, L', rfl, ⟨Lb, hJ, rfl⟩, h3⟩
      have hp5 := hp4.callM h3
      have hl5 := hp5.get (w.heap.size + 1) _ List.mem_cons_self
      have hlt5 : w.heap.size + 1 < w3.heap.size := (Array.getElem?_eq_some_iff.1 hl5).1
      refine ⟨none, w3.putObj (w.heap.size + 1) (.loop { rec with state := .exhausted }), by rw [run_endLoop hl5 (by rw [hok.state]; simp), hok.pending], ?_⟩
      have hp6 : Hp X.w0 X.S ((w.heap.size + 1, Obj.loop { rec with state := .exhausted }) :: (Lb ++ ((w.heap.size, Obj.deferred (some [])) :: Lr))) (w3.putObj (w.heap.size + 1) (.loop { rec with state := .exhausted })) := hp5.upd .head (Chg.setObj w3 _ (by simp)) (World.putObj_heap_same hlt5)
      have hp7 := (hp6.sub (List.sublist_cons_self _ _)).perm (List.perm_middle.symm)
      have hrun := (hr w.heap.size Lb hJ).run a _ m1 hp7
      have hsh : shift [{ target := .collected w.heap.size, args := #[] }] a = { a with defers := [{ target := .collected w.heap.size, args := #[] }] ++ a.defers } := by
        unfold shift; rw [m1.defers]; rfl
      rw [hsh] at hrun
      refine wp_mono hrun ?_
      rintro e a9 w9 ⟨a10, rfl, σ9, L9, m9, h9, rfl, L10, hk9, hR9⟩
      have h10 := h9.keep hk9
      have hD := h10.get w.heap.size _ List.mem_cons_self
      have hltD : w.heap.size < w9.heap.size := (Array.getElem?_eq_some_iff.1 hD).1
      have h11 : Hp X.w0 X.S ((w.heap.size, Obj.deferred none) :: L10) (w9.putObj w.heap.size (.deferred none)) := h10.upd .head (Chg.setObj w9 _ (by simp)) (World.putObj_heap_same hltD)
      have hde : (shift [{ target := .collected w.heap.size, args := #[] }] a10).defers = [{ target := .collected w.heap.size, args := #[] }] := by
        unfold shift; simp [m9.defers]
      show LeavesInM Fence.wide 0 X.P fn _ _ _ .returning w9
      rw [hde]
      rw [← hfn] at hR9
      obtain ⟨v9, hv9, hR10⟩ := hR9.run m9 h11
      exact ⟨by simp, .inl ⟨w.heap.size, _, rfl, run_takeDeferred hD, v9, hv9, v9, L10, rfl, hR10, h11.sub (List.sublist_cons_self _ _)⟩⟩
  | _ => exact q1.elim
theorem CallM.wk {P : Program} {f : FuncId} {vs : List Value} {L : Lst} {w : World} {R R' : Value → Lst → Prop} (h : CallM P f vs L w R) (hr : ∀ v L, R v L → R' v L) : CallM P f vs L w R' :=
  ⟨fun hw => (h.run hw).mono fun e w' ⟨v, L', h1, h2, h3⟩ => ⟨v, L', h1, hr _ _ h2, h3⟩⟩
theorem or8 (m c : Nat) (hm : m < 72057594037927936) (hc : c < 256) : orI .u64 ((m : Int) * 256) c = (m : Int) * 256 + c := by
  unfold orI
  have e1 : ((m : Int) * 256) = ((m * 256 : Nat) : Int) := by omega
  rw [e1, BitVec.ofInt_natCast, BitVec.ofInt_natCast, BitVec.toNat_or, BitVec.toNat_ofNat, BitVec.toNat_ofNat]
  have hb : IntKind.u64.bits = 64 := rfl
  rw [hb, Nat.mod_eq_of_lt (by omega), Nat.mod_eq_of_lt (by omega)]
  have h := Nat.shiftLeft_add_eq_or_of_lt (b := c) (i := 8) (by omega) m
  rw [Nat.shiftLeft_eq] at h
  rw [← h, wrap_u64 (by omega) (by omega)]
  omega
section
variable {X : Cx} {σ : Env} {L : Lst} {ty t : TypeId} {pos : String} {af : Array Edge} {x : Operand} {r re : TRow} {d : Option Nat} {g : Option (Nat × Bool)} {e : TypeId} {p : Option Addr} {n cap j : Nat}
theorem Ok1.pre3 {hi mx : Operand} (ht : X.tb.row t = some r) (hk : r.k = .slice e) (he : X.tb.row e = some re) (hx : ev σ x = some (.slice p n cap)) (hh : ev σ hi = some (.int .i64 j)) (hm : ev σ mx = some (.int .i64 j)) (h2 : j ≤ cap) :
    Ok1 X ⟨d, .slice t x none (some hi) (some mx), ty, pos, af, g⟩ σ L (.slice p j j) := .mk fun a w ha hw => by
  rw [slice_run (l := 0) (h := (j : Int)) (m := (j : Int)) X.tb ht hk he ha hx (by simp [bd, hm]) (by simp [bd, hh]) rfl (by omega) (by omega) (by omega) (by omega) (.inr (by simp))]
  have : p.map (·.add (0 * re.size)) = p := by cases p <;> simp [Addr.add]
  simp only [Int.toNat_zero, this, ite_self, Int.toNat_natCast, Nat.sub_zero]
end
/-- The number that bytes make, the highest first. -/
def beN (xs : List Int) : Int := xs.foldl (fun a c => a * 256 + c) 0
theorem be_snoc {xs : List Int} {i : Nat} {x : Int} (h : xs[i]? = some x) : beN (xs.take (i + 1)) = beN (xs.take i) * 256 + x := by
  unfold beN
  rw [List.take_add_one, h, List.foldl_append]
  rfl
theorem be_range : ∀ (n : Nat) (xs : List Int), xs.length = n → Byt xs → 0 ≤ beN xs ∧ beN xs < 256 ^ n := by
  intro n
  induction n with
  | zero => intro xs h _; rw [List.length_eq_zero_iff.1 h]; exact ⟨Int.le_refl _, by decide⟩
  | succ n ih =>
    intro xs h hb
    obtain ⟨x, hx⟩ : ∃ x, xs[n]? = some x := ⟨_, List.getElem?_eq_getElem (by omega)⟩
    have h1 := ih (xs.take n) (by rw [List.length_take]; omega) fun y hy => hb y (List.mem_of_mem_take hy)
    have h2 := be_snoc hx
    rw [List.take_of_length_le (by omega)] at h2
    have h3 := hb x (List.mem_of_getElem? hx)
    have h4 : (256 : Int) ^ (n + 1) = 256 ^ n * 256 := Int.pow_succ ..
    omega
/-- What is left to be read, and the first error. -/
structure Rs where
  q : Option Addr
  cap : Nat
  xs : List Int
  e : Int
def Rs.L (s : Rs) (br : Nat) : Lst := [(br, .cells ⟨[.slice s.q s.xs.length s.cap, .int .i64 s.e]⟩ 205 (0, 0))]
def Rs.fail (s : Rs) (e : Int) : Rs := if s.e = 0 then ⟨none, 0, [], e⟩ else s
def Rs.drop (s : Rs) (k : Nat) : Rs := ⟨sufP s.q s.cap k 1, s.cap - k, s.xs.drop k, s.e⟩
structure Rs.ok (s : Rs) (br : Nat) (w : World) : Prop where
  rd : RdSl w s.q u8V s.xs
  cap : s.xs.length ≤ s.cap
  off : s.xs ≠ [] → Off s.q [br]
  byt : Byt s.xs
  big : s.xs.length ≤ 1000000000
theorem rfail_ok (br : Nat) (s : Rs) (e : Int) (w : World) : CallM Tryz.prog 99 [.pointer (some ⟨br, 0, none⟩), .int .i64 e] (s.L br) w fun v L => v = .tuple #[] ∧ L = (s.fail e).L br := by
  by_cases h : s.e = 0
  · refine enterK (tb := tb) Tryz.func99 rfl Tryz.ntmps99 rfl ?_
    rw [Rs.fail, if_pos h]
    simp only [Rs.L, h]
    repeat' (first | (apply R.is1; first | (apply R.isBin; (apply R.pure; exact rfl; (apply Ok1.eql_t; exact rfl; exact rfl; omega))) | (apply R.pure; exact rfl; first | (apply Ok1.move; exact rfl) | (apply Ok1.fieldAddr; (iterate 5 exact rfl)) | (apply Ok1.load; exact rfl; (apply Ld.own1; exact rfl; exact rfl; exact At.head; exact rfl)) | (apply Ok1.nilCheck; exact rfl))) | (apply R.is0; (apply R.store; (iterate 6 exact rfl); exact Upd.head; exact rfl)) | apply R.nil | (apply T.is; first | apply T.seq | apply T.region | (apply T.cond_t; exact rfl)))
    (apply RetOk.n)
    exact ⟨_, by (focus (repeat' first | exact Keep.nil _ | exact Ext.one _ _ | apply Keep.cons); done), rfl, rfl⟩
  · refine enterK (tb := tb) Tryz.func99 rfl Tryz.ntmps99 rfl ?_
    rw [Rs.fail, if_neg h]
    simp only [Rs.L]
    repeat' (first | (apply R.is1; first | (apply R.isBin; (apply R.pure; exact rfl; (apply Ok1.eql_f; exact rfl; exact rfl; omega))) | (apply R.pure; exact rfl; first | (apply Ok1.move; exact rfl) | (apply Ok1.fieldAddr; (iterate 5 exact rfl)) | (apply Ok1.load; exact rfl; (apply Ld.own1; exact rfl; exact rfl; exact At.head; exact rfl)) | (apply Ok1.nilCheck; exact rfl))) | apply R.nil | (apply T.is; first | apply T.seq | apply T.region | apply T.skip | (apply T.cond_f; exact rfl)))
    (apply RetOk.n)
    exact ⟨_, by (focus (repeat' first | exact Keep.nil _ | exact Ext.one _ _ | apply Keep.cons); done), rfl, rfl⟩
theorem rtake_no (br : Nat) (s : Rs) (k : Nat) (h : s.e ≠ 0 ∨ s.xs.length < k) (w : World) : CallM Tryz.prog 203 [.pointer (some ⟨br, 0, none⟩), .int .i64 k] (s.L br) w fun v L => v = .slice none 0 0 ∧ L = (s.fail 4).L br := by
  have hf := fun w1 => rfail_ok br s 4 w1
  refine enterK (tb := tb) Tryz.func203 rfl Tryz.ntmps203 rfl ?_
  generalize (s.fail 4).L br = L4 at *
  by_cases he : s.e = 0
  · have hk : s.xs.length < k := h.resolve_left fun h => h he
    simp only [Rs.L, he] at hf ⊢
    repeat' (first | (apply R.is1; first | (apply R.isBin; (apply R.pure; exact rfl; first | (apply Ok1.gtr_t; exact rfl; exact rfl; omega) | (apply Ok1.neq_f; exact rfl; exact rfl; omega))) | (apply R.isCall; first | (apply R.callE (Li := [(br, .cells ⟨[.slice s.q s.xs.length s.cap, .int .i64 0]⟩ 205 (0, 0))]); (iterate 3 exact rfl); (focus ((repeat' (exact Ext.one _ _)); done)); intro w1 hw1; exact hf w1; rintro v Lo ⟨rfl, rfl⟩) | (apply R.pure; exact rfl; (apply Ok1.lenS; (iterate 3 exact rfl)))) | (apply R.pure; exact rfl; first | (apply Ok1.move; exact rfl) | (apply Ok1.fieldAddr; (iterate 5 exact rfl)) | (apply Ok1.load; exact rfl; (apply Ld.own1; exact rfl; exact rfl; exact At.head; exact rfl)) | (apply Ok1.assign; exact rfl) | (apply Ok1.pick_f; exact rfl; exact rfl) | (apply Ok1.nilCheck; exact rfl))) | (apply R.isG; (apply R.guard_run; exact rfl; exact rfl)) | apply R.nil | (apply T.is; first | apply T.seq | apply T.region | apply T.ret | (apply T.cond_t; exact rfl)))
    (apply RetOk.t; exact rfl)
    exact ⟨_, by (focus (repeat' first | exact Ext.here _ _ | apply Keep.last); done), rfl, rfl⟩
  · simp only [Rs.L] at hf ⊢
    repeat' (first | (apply R.is1; first | (apply R.isBin; (apply R.pure; exact rfl; (apply Ok1.neq_t; exact rfl; exact rfl; omega))) | (apply R.isCall; (apply R.callE (Li := [(br, .cells ⟨[.slice s.q s.xs.length s.cap, .int .i64 s.e]⟩ 205 (0, 0))]); (iterate 3 exact rfl); (focus ((repeat' (exact Ext.one _ _)); done)); intro w1 hw1; exact hf w1; rintro v Lo ⟨rfl, rfl⟩)) | (apply R.pure; exact rfl; first | (apply Ok1.move; exact rfl) | (apply Ok1.fieldAddr; (iterate 5 exact rfl)) | (apply Ok1.load; exact rfl; (apply Ld.own1; exact rfl; exact rfl; exact At.head; exact rfl)) | (apply Ok1.assign; exact rfl) | (apply Ok1.pick_t; exact rfl; exact rfl) | (apply Ok1.nilCheck; exact rfl))) | (apply R.isG; (apply R.guard_not; (iterate 3 exact rfl))) | apply R.nil | (apply T.is; first | apply T.seq | apply T.region | apply T.ret | (apply T.cond_t; exact rfl)))
    (apply RetOk.t; exact rfl)
    exact ⟨_, by (focus (repeat' first | exact Ext.here _ _ | apply Keep.last); done), rfl, rfl⟩
theorem rtake_ok (br : Nat) (s : Rs) (k : Nat) (he : s.e = 0) (hk : k ≤ s.xs.length) (hc : s.xs.length ≤ s.cap) (w : World) : CallM Tryz.prog 203 [.pointer (some ⟨br, 0, none⟩), .int .i64 k] (s.L br) w fun v L => v = .slice s.q k k ∧ L = (s.drop k).L br := by
  refine enterK (tb := tb) Tryz.func203 rfl Tryz.ntmps203 rfl ?_
  simp only [Rs.L, Rs.drop, he, List.length_drop]
  repeat' (first | (apply R.is1; first | (apply R.isBin; (apply R.pure; exact rfl; first | (apply Ok1.gtr_f; exact rfl; exact rfl; omega) | (apply Ok1.neq_f; exact rfl; exact rfl; omega))) | (apply R.isCall; (apply R.pure; exact rfl; (apply Ok1.lenS; (iterate 3 exact rfl)))) | (apply R.pure; exact rfl; first | (apply Ok1.pre3 (j := k); (iterate 6 exact rfl); omega) | (apply Ok1.sufR (i := k) (sz := 1); (iterate 6 exact rfl); exact hk; exact hc) | (apply Ok1.move; exact rfl) | (apply Ok1.fieldAddr; (iterate 5 exact rfl)) | (apply Ok1.load; exact rfl; (apply Ld.own1; exact rfl; exact rfl; exact At.head; exact rfl)) | (apply Ok1.assign; exact rfl) | (apply Ok1.pick_f; exact rfl; exact rfl) | (apply Ok1.nilCheck; exact rfl))) | (apply R.is0; (apply R.store; (iterate 6 exact rfl); exact Upd.head; exact rfl)) | (apply R.isG; (apply R.guard_run; exact rfl; exact rfl)) | apply R.nil | (apply T.is; first | apply T.seq | apply T.region | apply T.skip | apply T.ret | (apply T.cond_f; exact rfl)))
  (apply RetOk.t; exact rfl)
  exact ⟨_, by (focus (repeat' first | exact Keep.nil _ | exact Ext.one _ _ | apply Keep.cons); done), rfl, rfl⟩
/-- The next number of k bytes. -/
def Rs.num (s : Rs) (k : Nat) : Int × Bool × Rs :=
  if s.e ≠ 0 ∨ s.xs.length < k then (0, false, s.fail 4) else if beN (s.xs.take k) ≤ 9223372036854775807 then (beN (s.xs.take k), true, s.drop k) else (0, false, (s.drop k).fail 3)
theorem pw8 {z k : Nat} (hz : z ≤ 3) (hk : pw z = k) : 1 ≤ k ∧ k ≤ 8 ∧ IntKind.i64.wrap (1 * pw (z : Int).toNat) = k := by
  have : z = 0 ∨ z = 1 ∨ z = 2 ∨ z = 3 := by omega
  rcases this with rfl | rfl | rfl | rfl
  · have : k = 1 := by have h : pw 0 = 1 := rfl; omega
    subst this; exact ⟨by decide, by decide, by decide⟩
  · have : k = 2 := by have h : pw 1 = 2 := rfl; omega
    subst this; exact ⟨by decide, by decide, by decide⟩
  · have : k = 4 := by have h : pw 2 = 4 := rfl; omega
    subst this; exact ⟨by decide, by decide, by decide⟩
  · have : k = 8 := by have h : pw 3 = 8 := rfl; omega
    subst this; exact ⟨by decide, by decide, by decide⟩
theorem rnumber_ok (br : Nat) (s : Rs) (z k : Nat) (hz : z ≤ 3) (hk : pw z = k) (w : World) (hs : s.ok br w) : CallM Tryz.prog 202 [.pointer (some ⟨br, 0, none⟩), .int .i64 z] (s.L br) w fun v L => v = .tuple #[.int .i64 (s.num k).1, .bool (s.num k).2.1] ∧ L = (s.num k).2.2.L br := by
  obtain ⟨hk1, hk8, hwr⟩ := pw8 hz hk
  have hwd := width_ok (z : Int) k (by omega) (by omega) hwr
  refine enterK (tb := tb) Tryz.func202 rfl Tryz.ntmps202 rfl ?_
  by_cases h : s.e ≠ 0 ∨ s.xs.length < k
  · have ht := fun w1 => rtake_no br s k h w1
    rw [Rs.num, if_pos h]
    simp only
    generalize s.L br = L0 at *
    generalize (s.fail 4).L br = L4 at *
    repeat' (first | (apply R.is1; first | (apply R.isBin; (apply R.pure; exact rfl; first | (apply Ok1.lss_f; exact rfl; exact rfl; omega) | (apply Ok1.gtr_f; exact rfl; exact rfl; omega))) | (apply R.isCall; first | apply R.callP rfl rfl rfl hwd | (apply R.callE (Li := L0); (iterate 3 exact rfl); (focus ((repeat' (exact Ext.all _)); done)); intro w1 hw1; exact ht w1; rintro v Lo ⟨rfl, rfl⟩) | (apply R.pure; exact rfl; (apply Ok1.lenS; (iterate 3 exact rfl)))) | (apply R.pure; exact rfl; first | (apply Ok1.move; exact rfl) | (apply Ok1.assign; exact rfl) | (apply Ok1.convI64; (iterate 5 exact rfl); omega; omega))) | apply R.nil | (apply T.is; first | apply T.rounds 1 | apply T.seq | apply T.region | apply T.block | apply T.skip | apply T.exit | apply T.ret | (apply T.cond_f; exact rfl)))
    (apply RetOk.tt; exact rfl; exact rfl)
    exact ⟨_, by (focus (repeat' first | exact Ext.here _ _ | apply Keep.last); done), rfl, rfl⟩
  · have he : s.e = 0 := Classical.byContradiction fun h1 => h (.inl h1)
    have hkl : k ≤ s.xs.length := Nat.le_of_not_lt fun h1 => h (.inr h1)
    have ht := fun w1 => rtake_ok br s k he hkl hs.cap w1
    have hne : s.xs ≠ [] := by intro h0; rw [h0] at hkl; simp at hkl; omega
    have hoff := hs.off hne
    have hpre := hs.rd.pre u8V_len k
    have hbt : Byt (s.xs.take k) := fun y hy => hs.byt y (List.mem_of_mem_take hy)
    have hlt : (s.xs.take k).length = k := by rw [List.length_take]; omega
    have hbe : ∀ i ≤ k, 0 ≤ beN ((s.xs.take k).take i) ∧ beN ((s.xs.take k).take i) < 256 ^ i := fun i hi => be_range i _ (by rw [List.length_take]; omega) fun y hy => hbt y (List.mem_of_mem_take hy)
    rw [Rs.num, if_neg h]
    obtain ⟨q, hq⟩ : ∃ q, q = s.q := ⟨_, rfl⟩
    rw [← hq] at ht hoff hpre
    have hfl := fun w1 => rfail_ok br (s.drop k) 3 w1
    obtain ⟨S, hS⟩ : ∃ S, S = blks (s.L br) := ⟨_, rfl⟩
    have hoff : Off q S := by rw [hS]; exact hoff
    rw [← hS]
    generalize s.L br = L0 at *
    generalize s.drop k = s1 at *
    generalize s.xs.take k = ys at *
    repeat' (first | (apply R.is1; first | (apply R.isCall; first | apply R.callP rfl rfl rfl hwd | (apply R.callE (Li := L0); (iterate 3 exact rfl); (focus ((repeat' (exact Ext.all _)); done)); intro w1 hw1; exact ht w1; rintro v Lo ⟨rfl, rfl⟩) | (apply R.pure; exact rfl; (apply Ok1.lenS; (iterate 3 exact rfl)))) | (apply R.pure; exact rfl; first | (apply Ok1.move; exact rfl) | (apply Ok1.assign; exact rfl))) | apply R.nil | (apply T.is; first | apply T.seq | apply T.region | apply T.block))
    apply T.loopK (α := Nat) (I := fun i => i ≤ k) (σi := fun i => [(0, .pointer (some ⟨br, 0, none⟩)), (6, .slice q k k), (7, .int .u64 (beN (ys.take i))), (14, .slice q k k), (15, .int .i64 k), (16, .int .i64 i)]) (Li := fun _ => s1.L br) (μ := fun i => k - i) (i0 := 0)
    · exact Nat.zero_le _
    · exact ⟨rfl, rfl, rfl, rfl, rfl, rfl, trivial⟩
    · (focus (repeat' first | exact Keep.nil _ | exact Ext.one _ _ | apply Keep.cons); done)
    · intro i hi
      have hb := hbe i hi
      rcases Nat.lt_or_ge i k with hlt | hge
      · obtain ⟨y, hy⟩ : ∃ y, ys[i]? = some y := ⟨_, List.getElem?_eq_getElem (by omega)⟩
        obtain ⟨b, o, hpe, H⟩ := hpre.at hy
        replace H := H 1 u8V_len
        have hyb := hbt y (List.mem_of_getElem? hy)
        have hpw : (256 : Int) ^ i ≤ 72057594037927936 := by
          have : i = 0 ∨ i = 1 ∨ i = 2 ∨ i = 3 ∨ i = 4 ∨ i = 5 ∨ i = 6 ∨ i = 7 := by omega
          rcases this with rfl | rfl | rfl | rfl | rfl | rfl | rfl | rfl <;> decide
        have hor : orI .u64 (IntKind.u64.wrap (beN (ys.take i) * pw (Int.toNat 8))) y = beN (ys.take (i + 1)) := by
          rw [be_snoc hy]
          obtain ⟨m, hm⟩ : ∃ m : Nat, beN (ys.take i) = m := ⟨(beN (ys.take i)).toNat, by omega⟩
          obtain ⟨c, hc⟩ : ∃ c : Nat, y = c := ⟨y.toNat, by omega⟩
          rw [hm, hc, show pw (Int.toNat 8) = 256 from rfl, wrap_u64 (by omega) (by omega)]
          exact or8 m c (by omega) (by omega)
        repeat' (first | (apply R.is1; first | (apply R.isBin; (apply R.pure; exact rfl; first | (apply Ok1.shl; exact rfl; exact rfl; omega; exact Nat.le_of_ble_eq_true rfl; exact rfl) | (apply Ok1.orK; exact rfl; exact rfl) | (apply Ok1.add64; exact rfl; exact rfl; omega; omega) | (apply Ok1.lss_t; exact rfl; exact rfl; omega))) | (apply R.pure; exact rfl; first | (apply Ok1.indexAddrP; (iterate 4 exact rfl); exact hpe; exact rfl; omega; omega) | (apply Ok1.load; exact rfl; apply Ld.row1 (f := 0) H; exact rfl; exact hoff _ hpe; (iterate 3 exact rfl)) | (apply Ok1.move; exact rfl) | (apply Ok1.assign; exact rfl) | (apply Ok1.convU64; (iterate 5 exact rfl); omega; omega))) | apply R.nil | (apply T.is; first | apply T.seq | apply T.region | apply T.block | apply T.skip | (apply T.cond_t; exact rfl)))
        refine ⟨i + 1, by omega, by omega, ⟨rfl, rfl, ?_, rfl, rfl, rfl, trivial⟩, by (focus (repeat' first | exact Keep.nil _ | exact Ext.one _ _ | apply Keep.cons); done)⟩
        rw [← hor]; rfl
      · have hik : i = k := by omega
        subst hik
        rw [List.take_of_length_le (by omega)] at hb ⊢
        by_cases hmx : beN ys ≤ 9223372036854775807
        · rw [if_pos hmx]
          repeat' (first | (apply R.is1; first | (apply R.isBin; (apply R.pure; exact rfl; first | (apply Ok1.lss_f; exact rfl; exact rfl; omega) | (apply Ok1.gtr_t; exact rfl; exact rfl; omega) | (apply Ok1.gtr_f; exact rfl; exact rfl; omega))) | (apply R.isCall; (apply R.pure; exact rfl; (apply Ok1.lenS; (iterate 3 exact rfl)))) | (apply R.pure; exact rfl; first | (apply Ok1.move; exact rfl) | (apply Ok1.assign; exact rfl) | (apply Ok1.convI64; (iterate 5 exact rfl); omega; omega))) | apply R.nil | (apply T.is; first | apply T.seq | apply T.region | apply T.skip | apply T.exit | apply T.ret | (apply T.cond_f; exact rfl)))
          (apply RetOk.tt; exact rfl; exact rfl)
          exact ⟨_, by (focus (repeat' first | exact Keep.nil _ | exact Ext.one _ _ | apply Keep.cons); done), rfl, rfl⟩
        · rw [if_neg hmx]
          repeat' (first | (apply R.is1; first | (apply R.isBin; (apply R.pure; exact rfl; first | (apply Ok1.lss_f; exact rfl; exact rfl; omega) | (apply Ok1.gtr_t; exact rfl; exact rfl; omega))) | (apply R.isCall; (apply R.callE (Li := s1.L br); (iterate 3 exact rfl); (focus ((repeat' (exact Ext.one _ _)); done)); intro w1 hw1; exact hfl w1; rintro v Lo ⟨rfl, rfl⟩)) | (apply R.pure; exact rfl; first | (apply Ok1.move; exact rfl) | (apply Ok1.assign; exact rfl))) | apply R.nil | (apply T.is; first | apply T.seq | apply T.region | apply T.exit | apply T.ret | (apply T.cond_t; exact rfl) | (apply T.cond_f; exact rfl)))
          (apply RetOk.tt; exact rfl; exact rfl)
          exact ⟨_, by (focus (repeat' first | exact Keep.nil _ | exact Ext.one _ _ | apply Keep.cons); done), rfl, rfl⟩
/-- A field of a number. -/
def Rs.get (s : Rs) (z k : Nat) : List Value := if (s.num k).2.1 = true then fldV z (s.num k).1 else fldV 0 0
theorem rget_ok (br : Nat) (s : Rs) (z k : Nat) (hz : z ≤ 3) (hk : pw z = k) (w : World) (hs : s.ok br w) : CallM Tryz.prog 151 [.pointer (some ⟨br, 0, none⟩), .int .i64 z] (s.L br) w fun v L => v = .agg ⟨s.get z k⟩ ∧ L = (s.num k).2.2.L br := by
  have hn := fun w1 h1 => rnumber_ok br s z k hz hk w1 h1
  refine enterK (tb := tb) Tryz.func151 rfl Tryz.ntmps151 rfl ?_
  have hin : ∀ w1 S, Chg S w w1 → S = blks (s.L br) → s.ok br w1 := fun w1 S hc hS => ⟨hs.rd.chg' hc (fun h => hS ▸ hs.off h), hs.cap, hs.off, hs.byt, hs.big⟩
  rw [Rs.get]
  generalize s.num k = r at *
  obtain ⟨v1, v2, s'⟩ := r
  simp only at hn ⊢
  obtain ⟨S, hS⟩ : ∃ S, S = blks (s.L br) := ⟨_, rfl⟩
  rw [← hS]
  generalize s.L br = L0 at *
  cases v2 with
  | true =>
    repeat' (first | (apply R.is1; first | (apply R.isBin; (apply R.pure; exact rfl; first | (apply Ok1.lss_t; exact rfl; exact rfl; omega) | (apply Ok1.lss_f; exact rfl; exact rfl; omega) | (apply Ok1.gtr_f; exact rfl; exact rfl; omega) | (apply Ok1.eqlP; (iterate 5 exact rfl)))) | (apply R.isCall; (apply R.callE (Li := L0); (iterate 3 exact rfl); (focus (repeat' first | exact Ext.all _ | apply Ext.cons); done); intro w1 hw1; exact hn w1 (hin w1 _ hw1.chg hS); rintro v Lo ⟨rfl, rfl⟩)) | (apply R.pure; exact rfl; first | (apply Ok1.move; exact rfl) | (apply Ok1.fieldAddr; (iterate 5 exact rfl)) | (apply Ok1.assign; exact rfl) | (apply Ok1.build; (iterate 5 exact rfl)) | (apply Ok1.extract; exact rfl; exact rfl) | (apply Ok1.pick_f; exact rfl; exact rfl) | (apply Ok1.not_t; exact rfl) | (apply Ok1.nilCheck; exact rfl)) | (apply R.alloc; (iterate 3 exact rfl); intro)) | (apply R.is0; (apply R.store; (iterate 6 exact rfl); (focus (repeat' first | exact Upd.head | apply Upd.tail); done); exact rfl)) | (apply R.isG; (apply R.guard_run; exact rfl; exact rfl)) | apply R.nil | (apply T.is; first | apply T.seq | apply T.region | apply T.block | apply T.skip | apply T.ret | (apply T.cond_t; exact rfl) | (apply T.cond_f; exact rfl)))
    (apply RetOk.c; exact rfl; ((apply Ld.ownk; exact rfl; exact rfl; (focus (repeat' first | exact At.head | apply At.tail); done); exact rfl)))
    exact ⟨_, by (focus (repeat' first | exact Keep.nil _ | exact Ext.one _ _ | apply Keep.cons); done), rfl, rfl⟩
  | false =>
    repeat' (first | (apply R.is1; first | (apply R.isBin; (apply R.pure; exact rfl; first | (apply Ok1.lss_t; exact rfl; exact rfl; omega) | (apply Ok1.lss_f; exact rfl; exact rfl; omega) | (apply Ok1.gtr_f; exact rfl; exact rfl; omega) | (apply Ok1.eqlP; (iterate 5 exact rfl)))) | (apply R.isCall; (apply R.callE (Li := L0); (iterate 3 exact rfl); (focus (repeat' first | exact Ext.all _ | apply Ext.cons); done); intro w1 hw1; exact hn w1 (hin w1 _ hw1.chg hS); rintro v Lo ⟨rfl, rfl⟩)) | (apply R.pure; exact rfl; first | (apply Ok1.move; exact rfl) | (apply Ok1.fieldAddr; (iterate 5 exact rfl)) | (apply Ok1.assign; exact rfl) | (apply Ok1.build; (iterate 5 exact rfl)) | (apply Ok1.extract; exact rfl; exact rfl) | (apply Ok1.pick_f; exact rfl; exact rfl) | (apply Ok1.not_f; exact rfl) | (apply Ok1.nilCheck; exact rfl)) | (apply R.alloc; (iterate 3 exact rfl); intro)) | (apply R.is0; (apply R.store; (iterate 6 exact rfl); (focus (repeat' first | exact Upd.head | apply Upd.tail); done); exact rfl)) | (apply R.isG; (apply R.guard_run; exact rfl; exact rfl)) | apply R.nil | (apply T.is; first | apply T.seq | apply T.region | apply T.block | apply T.ret | (apply T.cond_t; exact rfl) | (apply T.cond_f; exact rfl)))
    (apply RetOk.c; exact rfl; ((apply Ld.ownk; exact rfl; exact rfl; (focus (repeat' first | exact At.head | apply At.tail); done); exact rfl)))
    exact ⟨_, by (focus (repeat' first | exact Keep.nil _ | exact Ext.one _ _ | apply Keep.cons); done), rfl, rfl⟩
theorem rnum_ok (br : Nat) (s : Rs) (z k : Nat) (hz : z ≤ 3) (hk : pw z = k) (w : World) (hs : s.ok br w) : CallM Tryz.prog 76 [.pointer (some ⟨br, 0, none⟩), .int .i64 z] (s.L br) w fun v L => v = .int .i64 (s.num k).1 ∧ L = (s.num k).2.2.L br := by
  have hn := fun w1 h1 => rget_ok br s z k hz hk w1 h1
  have hin : ∀ w1 S, Chg S w w1 → S = blks (s.L br) → s.ok br w1 := fun w1 S hc hS => ⟨hs.rd.chg' hc (fun h => hS ▸ hs.off h), hs.cap, hs.off, hs.byt, hs.big⟩
  have h0 : (s.num k).2.1 = false → (s.num k).1 = 0 := by
    unfold Rs.num
    split
    · exact fun _ => rfl
    · split
      · intro h; cases h
      · exact fun _ => rfl
  have hv : ∃ v0, s.get z k = [v0, .int .i64 (s.num k).1, .slice none 0 0] := by
    unfold Rs.get fldV
    cases h : (s.num k).2.1 with
    | true => exact ⟨_, rfl⟩
    | false => rw [h0 h]; exact ⟨_, rfl⟩
  obtain ⟨v0, hv⟩ := hv
  rw [hv] at hn
  refine enterK (tb := tb) Tryz.func76 rfl Tryz.ntmps76 rfl ?_
  generalize s.num k = r at *
  obtain ⟨v1, v2, s'⟩ := r
  simp only at hn ⊢
  obtain ⟨S, hS⟩ : ∃ S, S = blks (s.L br) := ⟨_, rfl⟩
  rw [← hS]
  generalize s.L br = L0 at *
  repeat' (first | (apply R.is1; first | (apply R.isBin; (apply R.pure; exact rfl; first | (apply Ok1.eql_f; exact rfl; exact rfl; omega) | (apply Ok1.neqP; (iterate 5 exact rfl)))) | (apply R.isCall; (apply R.callE (Li := L0); (iterate 3 exact rfl); (focus ((repeat' (exact Ext.all _)); done)); intro w1 hw1; exact hn w1 (hin w1 _ hw1.chg hS); rintro v Lo ⟨rfl, rfl⟩)) | (apply R.pure; exact rfl; first | (apply Ok1.move; exact rfl) | (apply Ok1.assign; exact rfl) | (apply Ok1.pick_t; exact rfl; exact rfl) | (apply Ok1.field1; (iterate 7 exact rfl)))) | (apply R.isG; (apply R.guard_run; exact rfl; exact rfl)) | apply R.nil | (apply T.is; first | apply T.seq | apply T.region | apply T.skip | apply T.ret | (apply T.cond_f; exact rfl)))
  (apply RetOk.t; exact rfl)
  exact ⟨_, by (focus (repeat' first | exact Keep.nil _ | exact Ext.one _ _ | apply Keep.cons); done), rfl, rfl⟩
theorem rerr_ok (br : Nat) (s : Rs) (w : World) (hb : w.heap[br]? = some (.cells ⟨[.slice s.q s.xs.length s.cap, .int .i64 s.e]⟩ 205 (0, 0))) : CallW Tryz.prog 96 [.pointer (some ⟨br, 0, none⟩)] w fun v _ => v = .int .i64 s.e := by
  refine enterW (tb := tb) Tryz.func96 rfl Tryz.ntmps96 rfl ?_
  repeat' (first | (apply R.is1; first | (apply R.isBin; (apply R.pure; exact rfl; (apply Ok1.eqlP; (iterate 5 exact rfl)))) | (apply R.pure; exact rfl; first | (apply Ok1.move; exact rfl) | (apply Ok1.fieldAddr; (iterate 5 exact rfl)) | (apply Ok1.load; exact rfl; (apply Ld.blk1; exact rfl; exact rfl; assumption; (exact List.not_mem_nil); exact rfl)) | (apply Ok1.assign; exact rfl) | (apply Ok1.nilCheck; exact rfl))) | apply R.nil | (apply T.is; first | apply T.seq | apply T.region | apply T.skip | apply T.ret | (apply T.cond_f; exact rfl)))
  (apply RetOk.t; exact rfl)
  rfl
theorem rleft_ok (br : Nat) (s : Rs) (w : World) (hb : w.heap[br]? = some (.cells ⟨[.slice s.q s.xs.length s.cap, .int .i64 s.e]⟩ 205 (0, 0))) : CallW Tryz.prog 163 [.pointer (some ⟨br, 0, none⟩)] w fun v _ => v = .int .i64 s.xs.length := by
  refine enterW (tb := tb) Tryz.func163 rfl Tryz.ntmps163 rfl ?_
  repeat' (first | (apply R.is1; first | (apply R.isBin; (apply R.pure; exact rfl; (apply Ok1.eqlP; (iterate 5 exact rfl)))) | (apply R.isCall; (apply R.pure; exact rfl; (apply Ok1.lenS; (iterate 3 exact rfl)))) | (apply R.pure; exact rfl; first | (apply Ok1.move; exact rfl) | (apply Ok1.fieldAddr; (iterate 5 exact rfl)) | (apply Ok1.load; exact rfl; (apply Ld.blk1; exact rfl; exact rfl; assumption; (exact List.not_mem_nil); exact rfl)) | (apply Ok1.assign; exact rfl) | (apply Ok1.nilCheck; exact rfl))) | apply R.nil | (apply T.is; first | apply T.seq | apply T.region | apply T.skip | apply T.ret | (apply T.cond_f; exact rfl)))
  (apply RetOk.t; exact rfl)
  rfl
def Rs.fin (s : Rs) : Int := if s.e ≠ 0 then s.e else if 0 < s.xs.length then 3 else 0
theorem rend_ok (br : Nat) (s : Rs) (w : World) (hb : w.heap[br]? = some (.cells ⟨[.slice s.q s.xs.length s.cap, .int .i64 s.e]⟩ 205 (0, 0))) : CallW Tryz.prog 100 [.pointer (some ⟨br, 0, none⟩)] w fun v _ => v = .int .i64 s.fin := by
  have h1 := fun w1 (hc : Chg [] w w1) => rerr_ok br s w1 (hc.heap hb List.not_mem_nil)
  have h2 := fun w1 (hc : Chg [] w w1) => rleft_ok br s w1 (hc.heap hb List.not_mem_nil)
  refine enterW (tb := tb) Tryz.func100 rfl Tryz.ntmps100 rfl ?_
  rw [Rs.fin]
  by_cases he : s.e = 0
  · rw [if_neg (fun h => h he)]
    rw [he] at h1
    by_cases hx : 0 < s.xs.length
    · rw [if_pos hx]
      repeat' (first | (apply R.is1; first | (apply R.isBin; (apply R.pure; exact rfl; first | (apply Ok1.gtr_t; exact rfl; exact rfl; omega) | (apply Ok1.neq_f; exact rfl; exact rfl; omega))) | (apply R.isCall; (apply R.callV; (iterate 3 exact rfl); intro w1 hw1; first | exact h1 w1 hw1.chg | exact h2 w1 hw1.chg)) | (apply R.pure; exact rfl; first | (apply Ok1.move; exact rfl) | (apply Ok1.assign; exact rfl))) | apply R.nil | (apply T.is; first | apply T.seq | apply T.region | apply T.skip | apply T.ret | (apply T.cond_t; exact rfl) | (apply T.cond_f; exact rfl)))
      (apply RetOk.t; exact rfl)
      rfl
    · rw [if_neg hx]
      repeat' (first | (apply R.is1; first | (apply R.isBin; (apply R.pure; exact rfl; first | (apply Ok1.gtr_f; exact rfl; exact rfl; omega) | (apply Ok1.neq_f; exact rfl; exact rfl; omega))) | (apply R.isCall; (apply R.callV; (iterate 3 exact rfl); intro w1 hw1; first | exact h1 w1 hw1.chg | exact h2 w1 hw1.chg)) | (apply R.pure; exact rfl; first | (apply Ok1.move; exact rfl) | (apply Ok1.assign; exact rfl))) | apply R.nil | (apply T.is; first | apply T.seq | apply T.region | apply T.skip | apply T.ret | (apply T.cond_f; exact rfl)))
      (apply RetOk.t; exact rfl)
      rfl
  · rw [if_pos he]
    repeat' (first | (apply R.is1; first | (apply R.isBin; (apply R.pure; exact rfl; (apply Ok1.neq_t; exact rfl; exact rfl; omega))) | (apply R.isCall; (apply R.callV; (iterate 3 exact rfl); intro w1 hw1; exact h1 w1 hw1.chg)) | (apply R.pure; exact rfl; first | (apply Ok1.move; exact rfl) | (apply Ok1.assign; exact rfl))) | apply R.nil | (apply T.is; first | apply T.seq | apply T.region | apply T.ret | (apply T.cond_t; exact rfl)))
    (apply RetOk.t; exact rfl)
    rfl
/-- A reader whose bytes lie in known blocks. -/
structure RsO (s : Rs) (M : Lst) : Prop where
  rd : ∀ (w0 w : World) (S : List Nat) (L' : Lst), Hp w0 S L' w → (∀ z ∈ M, z ∈ L') → RdSl w s.q u8V s.xs
  adr : s.xs ≠ [] → ∃ b o, s.q = some ⟨b, o, none⟩ ∧ b ∈ blks M
  cap : s.xs.length ≤ s.cap
  byt : Byt s.xs
  big : s.xs.length ≤ 1000000000
theorem RsO.ok {s : Rs} {M : Lst} (h : RsO s M) {br : Nat} {w0 w : World} {S : List Nat} {L Lr : Lst} (hw : Hp w0 S L w) (he : Ext L (s.L br) Lr) (hin : ∀ z ∈ M, z ∈ Lr) : s.ok br w := by
  refine ⟨h.rd _ _ _ _ hw fun z hz => he.perm.subset (List.mem_append_right _ (hin z hz)), h.cap, fun hne a ha => ?_, h.byt, h.big⟩
  obtain ⟨b, o, hp, hb⟩ := h.adr hne
  rw [hp] at ha
  cases ha
  obtain ⟨z, hz, hze⟩ := List.mem_map.1 hb
  obtain ⟨zb, zo⟩ := z
  simp only at hze
  subst hze
  exact RdSl.off hw he (hin _ hz)
theorem RsO.fail {s : Rs} {M : Lst} (h : RsO s M) (e : Int) : RsO (s.fail e) M := by
  unfold Rs.fail
  split
  · exact ⟨fun _ _ _ _ _ _ => .inl rfl, (fun h => absurd rfl h), Nat.zero_le _, (fun y hy => by cases hy), Nat.zero_le _⟩
  · exact h
theorem RsO.drop {s : Rs} {M : Lst} (h : RsO s M) {k : Nat} (hk : k ≤ s.xs.length) : RsO (s.drop k) M := by
  refine ⟨fun w0 w S L' hw hin => (h.rd w0 w S L' hw hin).suf u8V_len hk h.cap, fun hne => ?_, ?_, fun y hy => h.byt y (List.mem_of_mem_drop hy), ?_⟩
  · have h1 : s.xs ≠ [] := by intro h0; apply hne; simp [Rs.drop, h0]
    obtain ⟨b, o, hp, hb⟩ := h.adr h1
    by_cases hc : s.cap = k
    · exfalso; apply hne; simp only [Rs.drop]; exact List.drop_of_length_le (by have := h.cap; omega)
    · exact ⟨b, o + k * 1, by simp [Rs.drop, sufP, hc, hp, Addr.add_none], hb⟩
  · have := h.cap; simp only [Rs.drop, List.length_drop]; omega
  · have := h.big; simp only [Rs.drop, List.length_drop]; omega
theorem RsO.num {s : Rs} {M : Lst} (h : RsO s M) (k : Nat) : RsO (s.num k).2.2 M := by
  unfold Rs.num
  split
  · exact h.fail 4
  · rename_i hn
    have hk : k ≤ s.xs.length := Nat.le_of_not_lt fun h1 => hn (.inr h1)
    split
    · exact h.drop hk
    · exact (h.drop hk).fail 3
theorem ovc_leR {n : Nat} {ov : Ov} {xs : List Value} (h : OvOk 1 ov n xs) : n ≤ ovc ov n := by
  unfold ovc
  cases ov with
  | none => have := h.2; simp only at this ⊢; omega
  | some q => simp only; omega
theorem rnewr_ok (p : Option Addr) (n cap : Nat) (xs : List Int) (hn : n = xs.length) (hbig : n ≤ 1000000000) (hb : Byt xs) (w : World) (hp : RdSl w p u8V xs) :
    CallM Tryz.prog 26 [.slice p n cap] [] w fun v L => ∃ br s M, v = .pointer (some ⟨br, 0, none⟩) ∧ s.xs = (if n ≤ 1024 then xs else []) ∧ s.e = (if n ≤ 1024 then 0 else 2) ∧ RsO s M ∧ L = s.L br ++ M := by
  have hcl := fun w1 (hc : Chg [] w w1) => clone_ok p n cap xs hn hbig w1 (hp.chg' hc (fun _ => Off.nil _))
  subst hn
  have hro : ∀ ov, OvOk 1 ov xs.length (u8s xs) → RsO ⟨ovp ov, ovc ov xs.length, xs, 0⟩ (blkL 5 ov (u8s xs)) := fun ov hov => by
    rw [← fl_u8] at hov ⊢
    refine ⟨fun w0 w S L' hw hin => RdSl.own' hw hin hov u8V_len, fun hne => ?_, ?_, hb, hbig⟩
    · cases ov with
      | none => exact absurd (List.eq_nil_of_length_eq_zero hov.2) hne
      | some q => exact ⟨_, _, rfl, by simp [blks, blkL]⟩
    · exact ovc_leR hov
  refine enterK (tb := tb) Tryz.func26 rfl Tryz.ntmps26 rfl ?_
  by_cases hl : xs.length ≤ 1024
  · repeat' (first | (apply R.is1; first | (apply R.isBin; (apply R.pure; exact rfl; (apply Ok1.gtr_f; exact rfl; exact rfl; omega))) | (apply R.isCall; first | (apply R.callE; (iterate 3 exact rfl); exact Ext.none _; intro w1 hw1; exact hcl w1 hw1.chg; rintro v Lo ⟨ov, hov, hsome, rfl, rfl⟩; rw [slV_eq hov]) | (apply R.pure; exact rfl; (apply Ok1.lenS; (iterate 3 exact rfl)))) | (apply R.pure; exact rfl; first | (apply Ok1.move; exact rfl) | (apply Ok1.assign; exact rfl) | (apply Ok1.build; (iterate 5 exact rfl))) | (apply R.box; (iterate 3 exact rfl); intro)) | apply R.nil | (apply T.is; first | apply T.seq | apply T.region | apply T.skip | apply T.ret | (apply T.cond_f; exact rfl)))
    (apply RetOk.t; exact rfl)
    refine ⟨_, ?_, _, ⟨ovp ov, ovc ov xs.length, xs, 0⟩, _, rfl, by simp only [if_pos hl], by simp only [if_pos hl], hro ov hov, rfl⟩
    simp only [Rs.L, List.append_nil, List.cons_append, List.nil_append]
    (focus (repeat' first | exact Ext.one _ _ | exact Ext.all _ | apply Keep.cons | apply Keep.last); done)
  · repeat' (first | (apply R.is1; first | (apply R.isBin; (apply R.pure; exact rfl; (apply Ok1.gtr_t; exact rfl; exact rfl; omega))) | (apply R.isCall; first | (apply R.callE (vs := [.slice p xs.length cap]); (iterate 3 exact rfl); exact Ext.none _; intro w1 hw1; exact hcl w1 hw1.chg; rintro v Lo ⟨ov, hov, hsome, rfl, rfl⟩; rw [slV_eq hov]) | (apply R.callE (Li := [(_, .cells ⟨[.slice (ovp ov) xs.length (ovc ov xs.length), .int .i64 0]⟩ 205 (0, 0))]); (iterate 3 exact rfl); (focus ((repeat' (exact Ext.one _ _)); done)); intro w1 hw1; exact rfail_ok _ ⟨ovp ov, ovc ov xs.length, xs, 0⟩ 2 w1; rintro v Lo ⟨rfl, rfl⟩) | (apply R.pure; exact rfl; (apply Ok1.lenS; (iterate 3 exact rfl)))) | (apply R.pure; exact rfl; first | (apply Ok1.move; exact rfl) | (apply Ok1.fieldAddr; (iterate 5 exact rfl)) | (apply Ok1.assign; exact rfl) | (apply Ok1.build; (iterate 5 exact rfl)) | (apply Ok1.nilCheck; exact rfl)) | (apply R.box; (iterate 3 exact rfl); intro)) | apply R.nil | (apply T.is; first | apply T.seq | apply T.region | apply T.ret | (apply T.cond_t; exact rfl)))
    (apply RetOk.t; exact rfl)
    refine ⟨_, ?_, _, (⟨ovp ov, ovc ov xs.length, xs, 0⟩ : Rs).fail 2, _, rfl, by simp only [if_neg hl, Rs.fail, if_pos], by simp only [if_neg hl, Rs.fail, if_pos], (hro ov hov).fail 2, rfl⟩
    simp only [Rs.L, List.append_nil, List.cons_append, List.nil_append]
    (focus (repeat' first | exact Ext.one _ _ | exact Ext.all _ | apply Keep.cons | apply Keep.last); done)
end Go.Proofs.YtolnagbahceebaaGreat
