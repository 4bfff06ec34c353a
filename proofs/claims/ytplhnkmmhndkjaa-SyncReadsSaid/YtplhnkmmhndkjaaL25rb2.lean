/- Texts of the proof: Eng31, Eng20, Eng30, Eng15, Eng22, Tab, C1, C2, C3a, C4, Eng25, S0, Dg1, Dg4, Dg5, Dg6, Dg7, Eng28. -/
import Derived.Test.YtplhnkmmhndkjaaL25rb1
import Derived.RangeFuncRecord
import Derived.TacticsIn
import Derived.OrdersIn
import Derived.ProofKit
import Derived.Deep.Slices
import Derived.OpenShut
import Derived.Test.YtplhnkmmhndkjaaProg
import Derived.Lib.ConvBytes
set_option linter.unusedSimpArgs false
set_option linter.unusedVariables false
namespace Go.Proofs.Ytplhnkmmhndkjaa
open Go.RowKit Go.Shelf
section
variable {X : Cx} {σ : Env} {L : Lst} {d : Option Nat} {ty : TypeId} {pos : String} {af : Array Edge} {g : Option (Nat × Bool)} {x : Operand} {t e : TypeId} {r re : TRow} {p : Option Addr} {n cap i m : Nat}
end
section
variable {X : Cx} {σ : Env} {L : Lst} {d : Option Nat} {ty : TypeId} {pos : String} {af : Array Edge} {g : Option (Nat × Bool)} {x y : Operand} {k : IntKind} {i j m : Int} {ats : Array TypeId}
theorem Ok1.min2E (hx : ev σ x = some (.int k i)) (hy : ev σ y = some (.int k j)) (hm : min i j = m) : Ok1 X ⟨d, .call { callee := .builtin .min, args := #[x, y], argTypes := ats }, ty, pos, af, g⟩ σ L (.int k m) := hm ▸ Ok1.min2 hx hy
end
theorem zc_uni {zero : Array Value} {z0 : Value} {k : Nat} (hk : 0 < k) (hz : zero = ⟨List.replicate k z0⟩) (n : Nat) : (Builtin.zeroCells zero n).toList = List.replicate (n * k) z0 := by
  subst hz
  have hs : (⟨List.replicate k z0⟩ : Array Value).size = k := by simp
  unfold Builtin.zeroCells
  rw [hs, List.eq_replicate_iff]
  refine ⟨by simp, fun b hb => ?_⟩
  simp only [Array.toList_map, Array.toList_range, List.mem_map, List.mem_range] at hb
  obtain ⟨i, _, rfl⟩ := hb
  have hlt : i % k < (⟨List.replicate k z0⟩ : Array Value).size := by rw [hs]; exact Nat.mod_lt _ hk
  rw [getElem!_pos (⟨List.replicate k z0⟩ : Array Value) (i % k) hlt]
  simp
section
variable {X : Cx} {σ : Env} {L L' : Lst} {ty : TypeId} {pos : String} {af : Array Edge} {x : Operand} {t e te : TypeId} {r re : TRow} {b o n cap k : Nat} {z0 : Value} {cs cs' : List Value} {all : Array Oper} {rest : List Oper} {K : Env → Lst → Prop}
theorem R.clearU (ht : X.tb.row t = some r) (hk : r.k = .slice e) (he : X.tb.row e = some re) (hz : cellsE re.zero = some (List.replicate k z0)) (hk0 : 0 < k) (h10 : Value.oneCell' z0 = true) (hx : ev σ x = some (.slice (some ⟨b, o, none⟩) n cap)) (hn : 0 < n)
    (hu : Upd L b (.cells ⟨cs⟩ te (0, 0)) (.cells ⟨cs'⟩ te (0, 0)) L') (hc : setE cs o (List.replicate (n * k) z0) = some cs') (h : R X all rest K σ L') :
    R X all (⟨none, .call { callee := .builtin .clear, args := #[x], argTypes := #[t] }, ty, pos, af, none⟩ :: rest) K σ L :=
  R.value0 rfl rfl fun a w ha hw => by
    obtain ⟨w', h2, h3, h4⟩ := run_stores X.P ⟨b, o, none⟩ rfl te (List.replicate (n * k) z0) 0 w cs cs' (by simp [h10]) (hw.get _ _ hu.mem) hc
    have hcs := cellsE_eq hz
    have hzc := zc_uni hk0 hcs n
    have hu1 : X.P.underlying t = some (.slice e) := by have := (X.tb.get ht).is; rw [hk] at this; exact this
    refine ⟨.tuple #[], w', L', ?_, hw.upd hu h4 h3, h⟩
    obtain ⟨n, rfl⟩ : ∃ m, n = m + 1 := ⟨n - 1, by omega⟩
    simp [execOp, resolve, ha.ev hx, invoke, builtin, Builtin.clear_, run_underlying hu1, (X.tb.get he).zero, hzc, h2]
end
end Go.Proofs.Ytplhnkmmhndkjaa
set_option linter.unusedSimpArgs false
set_option linter.unusedVariables false
set_option linter.unusedSectionVars false
namespace Go.Proofs.Ytplhnkmmhndkjaa
open Go.RowKit Go.Shelf
/-- Where a walk goes: anywhere, or in a round of the loop l. -/
def fen : Option Nat → Fence
  | none => Fence.wide
  | some l => Fence.wide.inRound l
theorem fen_fn (ro : Option Nat) (f : Nat) : (fen ro).fn f := by cases ro <;> trivial
theorem fen_depth (ro : Option Nat) : (fen ro).depth = none := by cases ro <;> rfl
theorem fen_round (ro : Option Nat) : (fen ro).round = ro := by cases ro <;> rfl
theorem fen_calls {ro : Option Nat} {n : Nat} {P : Program} {f : FuncId} {args : Array Value} {w : World} {R : Ending → World → Prop} (h : Calls P f args w R) : CallsIn (fen ro) n P f args w R := by
  cases ro with
  | none => exact callsIn_wide.2 h
  | some l => exact ⟨trivial, ((callsIn_wide (n := n)).2 h).2⟩
theorem fen_rows {ro : Option Nat} {n : Nat} {P : Program} {row : String} {args : Array Value} {w : World} {R : Value → World → Prop} (h : Rows P row args w R) : RowsIn (fen ro) n P row args w R := by
  intro c cs _
  obtain ⟨v, w', r, s⟩ := h c cs
  refine ⟨v, w', r, ?_⟩
  cases ro with
  | none => exact stepsIn_wide.2 s
  | some l => rw [show Machine.fenced P (fen (some l)) = Machine.fenced P Fence.wide from rfl]; exact stepsIn_wide.2 s
def noDefer (o : Oper) : Bool := match o.op with | .defer _ => false | _ => true
theorem noDefer_spec {o : Oper} (h : noDefer o = true) : ∀ c, o.op ≠ .defer c := by
  intro c e; unfold noDefer at h; rw [e] at h; cases h
theorem Oper.up_fen {ro : Option Nat} {n : Nat} {P : Program} {o : Oper} {a : Act} {next : Act → World → Prop} {Q : Exit → Act → World → Prop} {r : Result Next} (h : o.upon P a next Q r) : o.uponIn (fen ro) n P a next Q r := by
  cases r with
  | ok m w' =>
    cases m with
    | enter f args => exact ⟨fun e => (by rw [fen_depth] at e; cases e), fen_calls h⟩
    | row f args => exact ⟨fun e => (by rw [fen_depth] at e; cases e), fen_rows h⟩
    | round => exact h.elim
    | value v => exact h
    | skip => exact h
    | defer d => exact h
    | _ => exact h.elim
  | halt x w' => cases x <;> first | exact h | exact h.elim
theorem Oper.wp_fen {ro : Option Nat} {n : Nat} {P : Program} {o : Oper} {a : Act} {w : World} {next : Act → World → Prop} {Q : Exit → Act → World → Prop} (hd : noDefer o = true) (h : o.wp P a w next Q) : o.wpIn (fen ro) n P a w next Q := by
  refine ⟨fun f _ => fen_fn ro f, ?_⟩
  rw [fen_round, Oper.semAt_eq _ _ _ (noDefer_spec hd)]
  exact Oper.up_fen h

/-- The judgement over a region's operations at such a fence. -/
structure RI (X : Cx) (ro : Option Nat) (all : Array Oper) (l : List Oper) (K : Env → Lst → Prop) (σ : Env) (L : Lst) : Prop where
  run : ∀ a w, Mod X.n a σ → Hp X.w0 X.S L w → wpListIn (fen ro) 0 X.P all (X.liftK K) l a w
section
variable {X : Cx} {ro : Option Nat} {all : Array Oper} {rest : List Oper} {K : Env → Lst → Prop} {σ : Env} {L : Lst} {o : Oper} {Q : Post}
theorem RI.nil (h : K σ L) : RI X ro all [] K σ L := ⟨fun a w ha hw => ⟨rfl, σ, L, ha, hw, h⟩⟩
theorem RI.step (hd : noDefer o = true) (h : R X all [o] (fun σ' L' => RI X ro all rest K σ' L') σ L) : RI X ro all (o :: rest) K σ L := by
  refine ⟨fun a w ha hw => ?_⟩
  have h1 := h.run a w ha hw
  have hnil : ∀ a' w', wpList X.P all (X.liftK fun σ' L' => RI X ro all rest K σ' L') [] a' w' → wpListIn (fen ro) 0 X.P all (X.liftK K) rest a' w' := by
    rintro a' w' ⟨_, σ', L', h2, h3, h4⟩
    exact h4.run a' w' h2 h3
  unfold wpList at h1
  unfold wpListIn
  by_cases hwd : Region.wanted o (yielded all a.tmps) = true
  · rw [if_pos hwd] at h1 ⊢
    rcases h1 with h1 | ⟨_, a, w, h1⟩
    · exact Oper.wp_fen hd (Oper.wp_change hnil (fun c a w h => by cases h.1) (fun ⟨a, w, h⟩ => by cases h.1) h1)
    · cases h1.1
  · rw [if_neg hwd] at h1 ⊢
    exact ⟨fun f _ => fen_fn ro f, hnil _ _ h1⟩
theorem T.regionIn {id : Nat} {ops : Array Oper} (h : RI X none ops ops.toList (Q .normal) σ L) : T X (.region id ops false) Q σ L :=
  ⟨fun a w ha hw => wpIn_wide.1 (Go.wpIn_mono (wpIn_region_list (h.run a w ha hw)) fun e a w ⟨he, σ, L, h1, h2, h3⟩ => ⟨σ, L, h1, h2, he ▸ h3⟩)⟩
end
/-- A call of yield: what a round does to the known blocks. -/
structure YieldM (P : Program) (l : Nat) (args : List Value) (L : Lst) (w : World) (R1 : Value → Lst → Prop) : Prop where
  run : Hp w (blks L) L w → ∃ fn tmps assign body, (Instr.yield l args.toArray).run P w = .ok (.round l fn tmps assign body) w ∧ RoundIn Fence.wide 0 P l fn tmps assign body w fun e w' => ∃ v L', e = .returned v ∧ R1 v L' ∧ Hp w (blks L) L' w'
theorem RI.yield {X : Cx} {all : Array Oper} {rest : List Oper} {K : Env → Lst → Prop} {σ : Env} {L Li Lr : Lst} {dd l : Nat} {ty : TypeId} {pos : String} {af : Array Edge} {c : Operand} {xs : List Operand} {vs : List Value} {ats : Array TypeId} {R1 : Value → Lst → Prop}
    (hcv : ev σ c = some (.func (.yield l) #[] #[])) (hx : evs σ xs = some vs) (hn : Nat.blt dd X.n = true) (hp : Ext L Li Lr) (hc : ∀ w, Hp X.w0 X.S L w → YieldM X.P l vs Li w R1) (h : ∀ v Lo, R1 v Lo → RI X none all rest K ((dd, v) :: σ) (Lo ++ Lr)) :
    RI X none all (⟨some dd, .call { callee := .value c, args := xs.toArray, argTypes := ats }, ty, pos, af, none⟩ :: rest) K σ L := by
  refine ⟨fun a w ha hw => wpListIn_plain rfl fun K' hK' => ⟨fun f _ => trivial, ?_⟩⟩
  have hw2 := hw.perm hp.perm
  have hin : Hp w (blks Li) Li w := ⟨.refl _ _, fun b o hm => hw2.get b o (List.mem_append_left _ hm), (List.nodup_append.1 (by have := hw2.nod; rwa [List.map_append] at this)).1, fun b o hm => .inr (List.mem_map.2 ⟨(b, o), hm, rfl⟩)⟩
  obtain ⟨fn, tmps, assign, body, hy, hR⟩ := (hc w hw).run hin
  have hm : xs.toArray.map a.eval = vs.toArray := by rw [List.map_toArray, evs_map ha hx]
  have hr : (Oper.semAt (fen none).round a.eval { dst := some dd, op := .call { callee := .value c, args := xs.toArray, argTypes := ats }, type := ty, pos := pos, after := af, guard := none }).run X.P w = .ok (.round l fn tmps assign body) w := by
    rw [fen_round, Oper.semAt_none]
    simp only [execOp, resolve, ha.ev hcv, hm, Deferred.ofValue, Sem.run_bind, Sem.run_pure, Result.andThen_ok, invoke, Array.append_empty, Array.empty_append, List.append_toArray, List.nil_append]
    simpa using hy
  rw [hr, Oper.uponIn_round]
  refine ⟨fun e => (by rw [fen_depth] at e; cases e), hR.mono ?_⟩
  rintro e w' ⟨v, L', rfl, h2, h3⟩
  exact hK' _ _ ((h v L' h2).run _ _ (ha.put (blt_lt hn) v) (hw2.callM h3))

/-- What a round's contract is made of: the assignments to the loop's variables, then the body. -/
theorem YieldM.of {P : Program} {tb : Tb P} {n l p ia ib rb : Nat} {rec : Loop} {aops bops : Array Oper} {σ : Env} {u : Value} {Li : Lst} {w : World} {R1 : Lst → Prop}
    (hm : Mod n { tmps := rec.tmps, defers := [] } σ) (hp : rec.params = #[p]) (hpn : p < n) (ha : rec.assign = .region ia aops false) (hb : rec.body = .block ib (.region rb bops false)) (hst : rec.state = .ready) (hpe : rec.pending = none)
    (h : RI ⟨P, tb, n, w, l :: blks Li⟩ (some l) aops aops.toList (fun σ2 L2 => ∃ L3, Keep L2 ((l, .loop rec) :: L3) ∧ RI ⟨P, tb, n, w, l :: blks Li⟩ (some l) bops bops.toList (fun σ4 L4 => ∃ L5, Keep L4 ((l, .loop { rec with state := .busy }) :: L5) ∧ R1 L5) σ2 ((l, .loop { rec with state := .busy }) :: L3)) ((p, u) :: σ) ((l, .loop rec) :: Li)) :
    YieldM P l [u] ((l, .loop rec) :: Li) w fun v L => v = .bool true ∧ ∃ L5, R1 L5 ∧ L = (l, .loop rec) :: L5 := by
  refine ⟨fun hw => ?_⟩
  have hl := hw.get l _ List.mem_cons_self
  refine ⟨_, _, _, _, run_yield hl (by rw [hp]; rfl), roundIn_of_wpIn trivial ?_⟩
  have hm' : Mod n { tmps := ((rec.params.zip #[u]).foldl (fun t (q, v) => t.setIfInBounds q v) rec.tmps), defers := [] } ((p, u) :: σ) := by
    have := hm.put hpn u
    rw [hp]
    simpa [Act.put] using this
  rw [ha, hb]
  refine Go.wpIn_mono (wpIn_region_list (h.run _ w hm' hw)) ?_
  rintro e a1 w1 ⟨rfl, σ2, L2, m2, h2, L3, hk, hbody⟩
  have h3 := h2.keep hk
  have hl1 := h3.get l _ List.mem_cons_self
  have hlt : l < w1.heap.size := (Array.getElem?_eq_some_iff.1 hl1).1
  refine ⟨_, run_beginRound hl1 hst, ?_⟩
  have h4 : Hp w (l :: blks Li) ((l, .loop { rec with state := .busy }) :: L3) (w1.putObj l (.loop { rec with state := .busy })) := h3.upd .head (Chg.setObj w1 _ (by simp)) (World.putObj_heap_same hlt)
  have hbl : (Code.region rb bops false).wpIn (Fence.wide.inRound l) 0 P (Exit.inBlock ib (roundPost P l fun e w' => ∃ v L', e = .returned v ∧ (v = .bool true ∧ ∃ L5, R1 L5 ∧ L' = (l, .loop rec) :: L5) ∧ Hp w (blks ((l, .loop rec) :: Li)) L' w')) a1 (w1.putObj l (.loop { rec with state := .busy })) := by
    refine Go.wpIn_mono (wpIn_region_list (hbody.run _ _ m2 h4)) ?_
    rintro e a5 w5 ⟨rfl, σ4, L4, m4, h5, L5, hk5, hR5⟩
    have h6 := h5.keep hk5
    have hl5 := h6.get l _ List.mem_cons_self
    have hlt5 : l < w5.heap.size := (Array.getElem?_eq_some_iff.1 hl5).1
    refine ⟨_, _, run_endRound none hl5, .bool true, (l, .loop rec) :: L5, rfl, ⟨rfl, L5, hR5, rfl⟩, ?_⟩
    have he : ({ { rec with state := LoopState.busy } with state := if (none : Option Code).isNone then .ready else .done, pending := none } : Loop) = rec := by
      cases rec; simp only at hst hpe; subst hst; subst hpe; rfl
    rw [he]
    exact h6.upd .head (Chg.setObj w5 _ (by simp)) (World.putObj_heap_same hlt5)
  exact wpIn_block hbl

def shift (ds : List Deferred) (a : Act) : Act := { a with defers := a.defers ++ ds }
theorem shift_eval (ds : List Deferred) (a : Act) : (shift ds a).eval = a.eval := by
  funext x; cases x <;> rfl
theorem shift_put (ds : List Deferred) (a : Act) (d : Option Tmp) (v : Value) : (shift ds a).put d v = shift ds (a.put d v) := by cases d <;> rfl
def shQ (ds : List Deferred) (Q : Exit → Act → World → Prop) : Exit → Act → World → Prop := fun e a' w' => ∃ a'', a' = shift ds a'' ∧ Q e a'' w'
theorem Oper.wp_shift {P : Program} {ds : List Deferred} {o : Oper} {a : Act} {w : World} {next next' : Act → World → Prop} {Q : Exit → Act → World → Prop} (hn : ∀ a w, next a w → next' (shift ds a) w) (h : o.wp P a w next Q) : o.wp P (shift ds a) w next' (shQ ds Q) := by
  unfold Oper.wp at h ⊢
  rw [shift_eval]
  generalize (execOp a.eval o).run P w = r at *
  cases r with
  | ok m w' =>
    cases m with
    | value v => rw [Oper.upon_value] at h ⊢; rw [shift_put]; exact hn _ _ h
    | skip => rw [Oper.upon_skip] at h ⊢; rw [shift_put]; exact hn _ _ h
    | defer d =>
      rw [Oper.upon_defer] at h ⊢
      have := hn _ _ h
      rw [← shift_put] at this
      exact this
    | enter f args =>
      rw [Oper.upon_enter] at h ⊢
      refine Calls.mono h fun e w'' he => ?_
      cases e with
      | returned v => simp only at he ⊢; rw [shift_put]; exact hn _ _ he
      | panicked c => exact ⟨a, rfl, he⟩
      | outgrown => obtain ⟨a1, w1, h1⟩ := he; exact ⟨shift ds a1, w1, a1, rfl, h1⟩
    | row f args =>
      refine Rows.mono (h : Rows P f args w' _) fun v w'' he => ?_
      rw [shift_put]; exact hn _ _ he
    | _ => exact h.elim
  | halt x w' => cases x <;> first | exact ⟨a, rfl, h⟩ | exact h.elim
theorem wpList_shift {P : Program} {ds : List Deferred} {all : Array Oper} {Q : Exit → Act → World → Prop} : ∀ (l : List Oper) (a : Act) (w : World), wpList P all Q l a w → wpList P all (shQ ds Q) l (shift ds a) w
  | [], a, w, h => ⟨a, rfl, h⟩
  | o :: r, a, w, h => by
    unfold wpList at h ⊢
    have ht : (shift ds a).tmps = a.tmps := rfl
    rw [ht]
    by_cases hw : Region.wanted o (yielded all a.tmps) = true
    · rw [if_pos hw] at h ⊢
      rcases h with h | ⟨h1, a1, w1, h2⟩
      · exact .inl (Oper.wp_shift (fun a w h => wpList_shift r a w h) h)
      · refine .inr ⟨?_, shift ds a1, w1, a1, rfl, h2⟩
        unfold Oper.asks at h1 ⊢
        rw [shift_eval]; exact h1
    · rw [if_neg hw] at h ⊢
      rw [shift_put]; exact wpList_shift r _ _ h
structure TD (X : Cx) (ds : List Deferred) (c : Code) (Q : Post) (σ : Env) (L : Lst) : Prop where
  run : ∀ a w, Mod X.n a σ → Hp X.w0 X.S L w → c.wp X.P (shQ ds (X.lift Q)) (shift ds a) w
section
variable {X : Cx} {ds : List Deferred} {x y : Code} {Q : Post} {σ : Env} {L : Lst}
theorem TD.region {id : Nat} {ops : Array Oper} (h : R X ops ops.toList (Q .normal) σ L) : TD X ds (.region id ops false) Q σ L :=
  ⟨fun a w ha hw => wp_mono (wp_region_list (wpList_shift _ _ _ (h.run a w ha hw))) fun e a w ⟨a2, h1, he, σ, L, h2, h3, h4⟩ => ⟨a2, h1, σ, L, h2, h3, he ▸ h4⟩⟩
theorem TD.seq (h : TD X ds x (thenQ (fun σ L => TD X ds y Q σ L) Q) σ L) : TD X ds (.seq x y) Q σ L :=
  ⟨fun a w ha hw => wp_seq (wp_mono (h.run a w ha hw) fun e a w ⟨a2, h1, σ, L, h2, h3, h4⟩ => by
    subst h1
    cases e with
    | normal => exact h4.run a2 w h2 h3
    | _ => exact ⟨a2, rfl, σ, L, h2, h3, h4⟩)⟩
theorem TD.ret (h : Q .ret σ L) : TD X ds .ret Q σ L := ⟨fun a w ha hw => wp_ret ⟨a, rfl, σ, L, ha, hw, h⟩⟩
end
/-- The judgement over a function that holds a range over a function, up to the loop. -/
structure TF (X : Cx) (fn : Func) (Rr : Ending → World → Prop) (c : Code) (σ : Env) (L : Lst) : Prop where
  run : ∀ a w, Mod X.n a σ → Hp X.w0 X.S L w → c.wp X.P (bodyPostM Fence.wide 0 X.P fn Rr) a w
def noQ (K : Env → Lst → Prop) : Post := fun e σ L => match e with | .normal => K σ L | _ => False
theorem TF.seq {X : Cx} {fn : Func} {Rr : Ending → World → Prop} {x y : Code} {σ : Env} {L : Lst} (h : T X x (noQ fun σ L => TF X fn Rr y σ L) σ L) : TF X fn Rr (.seq x y) σ L :=
  ⟨fun a w ha hw => wp_seq (wp_mono (h.run a w ha hw) fun e a w ⟨σ, L, h2, h3, h4⟩ => by
    cases e with
    | normal => exact h4.run a w h2 h3
    | _ => exact h4.elim)⟩
/-- The loop's record as the rounds find it. -/
structure RecOk (n : Nat) (σ : Env) (p : Nat) (assign body : Code) (rec : Loop) : Prop where
  mod : Mod n { tmps := rec.tmps, defers := [] } σ
  params : rec.params = #[p]
  assign : rec.assign = assign
  body : rec.body = body
  state : rec.state = .ready
  pending : rec.pending = none
/-- Where the loop begins: what the iterator is handed (La), what its call leaves (J), and the rest of the function. -/
structure RG (X : Cx) (gf : Nat) (k p : Nat) (assign body rest : Code) (Rp : Value → Lst → Prop) (g : Operand) (σ : Env) (L : Lst) : Prop where
  ex : ∃ (lb : List Value) (La Lr : Lst) (J : Lst → Prop), Keep L (La ++ Lr) ∧ ev σ g = some (.func (.func gf) #[] lb.toArray) ∧
    (∀ l rec w, RecOk X.n σ p assign body rec → (∃ L2, Hp X.w0 X.S (((l, .loop rec) :: La) ++ L2) w) → CallM X.P gf (.func (.yield l) #[] #[] :: lb) ((l, .loop rec) :: La) w fun v L' => ∃ Lb, J Lb ∧ L' = (l, .loop rec) :: Lb) ∧
    (∀ D Lb, J Lb → TD X [{ target := .collected D, args := #[] }] rest (fun e σ' L' => e = .ret ∧ ∃ v L3, look σ' k = some v ∧ Keep L' ((D, .deferred (some [])) :: L3) ∧ Rp v L3) σ ((D, .deferred (some [])) :: (Lb ++ Lr)))
theorem TF.range {X : Cx} {fn : Func} {Rp : Value → Lst → Prop} {x rest assign body : Code} {id p k gf : Nat} {g : Operand} {σ : Env} {L : Lst} (hfn : fn.results = #[.tmp k]) (he : X.tb.fns.contains gf = true)
    (h : T X x (noQ fun σ L => RG X gf k p assign body rest Rp g σ L) σ L) :
    TF X fn (fun e w' => ∃ v L', e = .returned v ∧ Rp v L' ∧ Hp X.w0 X.S L' w') (.seq (.seq x (.block id (.rangeFunc g #[p] assign body))) rest) σ L := by
  refine ⟨fun a w ha hw => wp_seq (wp_seq (wp_mono (h.run a w ha hw) ?_))⟩
  rintro e a w ⟨σ1, L1, m1, h1, q⟩
  cases e with
  | normal =>
    obtain ⟨lb, La, Lr, J, hk, hg, hc, hr⟩ := q.ex
    refine wp_block (wpIn_wide.1 (wpIn_rangeFunc (F := Fence.wide) (n := 0) fun fnn _ => ?_))
    obtain ⟨rec, hrec⟩ : ∃ rec : Loop, rec = { state := .ready, pending := none, fn := fnn, tmps := a.tmps, params := #[p], assign, body, defers := w.heap.size } := ⟨_, rfl⟩
    have hp1 := h1.keep hk
    have hp2 := hp1.alloc (.deferred (some []))
    have hp3 := hp2.alloc (.loop rec)
    rw [World.size_alloc] at hp3
    have hok : RecOk X.n σ1 p assign body rec := by
      subst hrec
      exact ⟨⟨m1.size, rfl, m1.ok⟩, rfl, rfl, rfl, rfl, rfl⟩
    have hperm : (((w.heap.size + 1, Obj.loop rec) :: La) ++ ((w.heap.size, Obj.deferred (some [])) :: Lr)).Perm ((w.heap.size + 1, Obj.loop rec) :: (w.heap.size, Obj.deferred (some [])) :: (La ++ Lr)) := by
      rw [List.cons_append]
      exact (List.perm_middle).cons _
    have hp4 := hp3.perm hperm
    generalize hW : (w.alloc (.deferred (some []))).alloc (.loop rec) = W1 at *
    refine ⟨w.heap.size + 1, [{ target := .collected w.heap.size, args := #[] }], W1, { target := .fn (.func gf) lb.toArray, args := #[.func (.yield (w.heap.size + 1)) #[] #[]] }, W1, gf,
      (.func (.yield (w.heap.size + 1)) #[] #[] :: lb).toArray, W1, ?_, ?_, fun _ _ => trivial, ?_, fun e => (by cases e), ?_⟩
    · rw [← hW, hrec]; exact run_enterLoop_outer _ _ _ _ _
    · simp only [resolve, m1.ev hg]
      simp [go_sem]
    · have h9 := X.tb.ent he (.func (.yield (w.heap.size + 1)) #[] #[] :: lb).toArray W1
      simp only [invoke]
      simpa using h9
    · have hin : Hp W1 (blks ((w.heap.size + 1, Obj.loop rec) :: La)) ((w.heap.size + 1, Obj.loop rec) :: La) W1 := ⟨.refl _ _, fun b o hm => hp4.get b o (List.mem_append_left _ hm), (List.nodup_append.1 (by have := hp4.nod; rwa [List.map_append] at this)).1, fun b o hm => .inr (List.mem_map.2 ⟨(b, o), hm, rfl⟩)⟩
      refine callsIn_wide.2 (Calls.mono ((hc (w.heap.size + 1) rec W1 hok ⟨_, hp4⟩).run hin) ?_)
      rintro e w3 ⟨v, L', rfl, ⟨Lb, hJ, rfl⟩, h3⟩
      have hp5 := hp4.callM h3
      have hl5 := hp5.get (w.heap.size + 1) _ List.mem_cons_self
      have hlt5 : w.heap.size + 1 < w3.heap.size := (Array.getElem?_eq_some_iff.1 hl5).1
      refine ⟨none, w3.putObj (w.heap.size + 1) (.loop { rec with state := .exhausted }), by rw [run_endLoop hl5 (by rw [hok.state]; simp), hok.pending], ?_⟩
      have hp6 : Hp X.w0 X.S ((w.heap.size + 1, Obj.loop { rec with state := .exhausted }) :: (Lb ++ ((w.heap.size, Obj.deferred (some [])) :: Lr))) (w3.putObj (w.heap.size + 1) (.loop { rec with state := .exhausted })) := hp5.upd .head (Chg.setObj w3 _ (by simp)) (World.putObj_heap_same hlt5)
      have hp7 := (hp6.sub (List.sublist_cons_self _ _)).perm (List.perm_middle.symm)
      have hrun := (hr w.heap.size Lb hJ).run a _ m1 hp7
      have hsh : shift [{ target := .collected w.heap.size, args := #[] }] a = { a with defers := [{ target := .collected w.heap.size, args := #[] }] ++ a.defers } := by
        unfold shift; rw [m1.defers]; rfl
      rw [hsh] at hrun
      refine wp_mono hrun ?_
      rintro e a9 w9 ⟨a10, rfl, σ9, L9, m9, h9, rfl, v9, L10, hv9, hk9, hR9⟩
      have h10 := h9.keep hk9
      have hD := h10.get w.heap.size _ List.mem_cons_self
      have hltD : w.heap.size < w9.heap.size := (Array.getElem?_eq_some_iff.1 hD).1
      have h11 : Hp X.w0 X.S ((w.heap.size, Obj.deferred none) :: L10) (w9.putObj w.heap.size (.deferred none)) := h10.upd .head (Chg.setObj w9 _ (by simp)) (World.putObj_heap_same hltD)
      have hde : (shift [{ target := .collected w.heap.size, args := #[] }] a10).defers = [{ target := .collected w.heap.size, args := #[] }] := by
        unfold shift; simp [m9.defers]
      show LeavesInM Fence.wide 0 X.P fn _ _ _ .returning w9
      rw [hde]
      refine ⟨by simp, .inl ⟨w.heap.size, _, rfl, run_takeDeferred hD, v9, ?_, v9, L10, rfl, hR9, h11.sub (List.sublist_cons_self _ _)⟩⟩
      rw [results_tmp hfn]
      have := m9.ok k v9 hv9
      show Result.ok ((shift _ a10).tmps.getD k undef) _ = _
      rw [show (shift [{ target := Target.collected w.heap.size, args := #[] }] a10).tmps = a10.tmps from rfl, this]
  | _ => exact q.elim
theorem number_mod {fn : Func} {n : Nat} {vs : List Value} (hn : fn.ntmps = n) (hvn : vs.length ≤ n) : Mod n { tmps := vs.toArray ++ Array.replicate (fn.ntmps - vs.toArray.size) undef, defers := [] } (number 0 vs) := by
  refine ⟨by simp [hn]; omega, rfl, fun t v hv => ?_⟩
  obtain ⟨_, h2⟩ := number_look hv
  rw [Nat.sub_zero] at h2
  obtain ⟨hl, he⟩ := List.getElem?_eq_some_iff.1 h2
  have h3 : (vs.toArray ++ Array.replicate (fn.ntmps - vs.toArray.size) undef)[t]? = some v := by
    rw [Array.getElem?_append, if_pos (by simpa using hl)]; simpa using h2
  simp only [Array.getD]
  obtain ⟨h4, h5⟩ := Array.getElem?_eq_some_iff.1 h3
  rw [dif_pos h4]; exact h5
theorem enterF {P : Program} (tb : Tb P) {f : FuncId} {fn : Func} {c : Code} {vs : List Value} {n : Nat} {R1 : Value → Lst → Prop} {w : World} {L : Lst}
    (hf : P.funcs[f]? = some fn) (hb : fn.body = some c) (hn : fn.ntmps = n) (hvn : Nat.ble vs.length n = true)
    (h : TF ⟨P, tb, n, w, blks L⟩ fn (fun e w' => ∃ v L', e = .returned v ∧ R1 v L' ∧ Hp w (blks L) L' w') c (number 0 vs) L) : CallM P f vs L w R1 := by
  refine ⟨fun hw => callsIn_wide.1 (callsIn_of_wp_marks (F := Fence.wide) (n := 0) hf hb trivial (wpIn_wide.2 (h.run _ w ?_ hw)))⟩
  exact number_mod hn (Nat.le_of_ble_eq_true hvn)
end Go.Proofs.Ytplhnkmmhndkjaa
set_option linter.unusedSimpArgs false
set_option linter.unusedVariables false
set_option linter.unusedSectionVars false
namespace Go.Proofs.Ytplhnkmmhndkjaa
open Go.RowKit Go.Shelf
def noDefers (ops : Array Oper) : Bool := ops.toList.all noDefer
theorem noDefers_get {ops : Array Oper} (h : noDefers ops = true) {i : Nat} {o : Oper} (hi : ops[i]? = some o) : noDefer o = true := by
  unfold noDefers at h
  rw [List.all_eq_true] at h
  exact h o (by rw [Array.mem_toList_iff]; exact Array.mem_of_getElem? hi)
theorem wpList_fen {ro : Option Nat} {X : Cx} {ops : Array Oper} {K : Env → Lst → Prop} : ∀ (l : List Oper) (a : Act) (w : World), l.all noDefer = true → wpList X.P ops (X.liftK K) l a w → wpListIn (fen ro) 0 X.P ops (X.liftK K) l a w
  | [], _, _, _, h => h
  | o :: r, a, w, hd, h => by
    rw [List.all_cons, Bool.and_eq_true] at hd
    unfold wpList at h
    unfold wpListIn
    by_cases hwd : Region.wanted o (yielded ops a.tmps) = true
    · rw [if_pos hwd] at h ⊢
      rcases h with h | ⟨_, a, w, h⟩
      · exact Oper.wp_fen hd.1 (Oper.wp_change (fun a w h => wpList_fen r a w hd.2 h) (fun c a w h => by cases h.1) (fun ⟨a, w, h⟩ => by cases h.1) h)
      · cases h.1
    · rw [if_neg hwd] at h ⊢
      exact ⟨fun f _ => fen_fn ro f, wpList_fen r _ _ hd.2 h⟩
theorem wpAny_fen {ro : Option Nat} {X : Cx} {ops : Array Oper} {K : Env → Lst → Prop} (hd : noDefers ops = true) : ∀ (fuel : Nat) (listed : Array Bool) (a : Act) (w : World), wpAny X.P .any ops (X.liftK K) fuel listed a w → wpAnyIn (fen ro) 0 X.P .any ops (X.liftK K) fuel listed a w
  | 0, _, _, _, h => h
  | fuel + 1, listed, a, w, h => by
    refine ⟨h.1, fun i hi => ?_⟩
    have h1 := h.2 i hi
    unfold wpOp at h1
    unfold wpOpIn
    cases ho : ops[i]? with
    | none => rw [ho] at h1; exact wpAny_fen hd fuel _ a w h1
    | some o =>
      rw [ho] at h1
      simp only at h1 ⊢
      by_cases hwd : Region.wanted o (yielded ops a.tmps) = true
      · rw [if_pos hwd] at h1 ⊢
        rcases h1 with h1 | ⟨_, a, w, h1⟩
        · exact Oper.wp_fen (noDefers_get hd ho) (Oper.wp_change (fun a w h => wpAny_fen hd fuel _ a w h) (fun c a w h => by cases h.1) (fun ⟨a, w, h⟩ => by cases h.1) h1)
        · cases h1.1
      · rw [if_neg hwd] at h1 ⊢
        exact ⟨fun f _ => fen_fn ro f, wpAny_fen hd fuel _ _ _ h1⟩
/-- The judgement over code within a round. -/
structure TI (X : Cx) (ro : Option Nat) (c : Code) (Q : Post) (σ : Env) (L : Lst) : Prop where
  run : ∀ a w, Mod X.n a σ → Hp X.w0 X.S L w → c.wpIn (fen ro) 0 X.P (X.lift Q) a w
section
variable {X : Cx} {ro : Option Nat} {x y c : Code} {Q : Post} {σ : Env} {L : Lst} {id : Nat} {ops : Array Oper}
theorem TI.region (hd : noDefers ops = true) (h : R X ops ops.toList (Q .normal) σ L) : TI X ro (.region id ops false) Q σ L :=
  ⟨fun a w ha hw => Go.wpIn_mono (wpIn_region_list (wpList_fen _ a w hd (h.run a w ha hw))) fun e a w ⟨he, σ, L, h1, h2, h3⟩ => ⟨σ, L, h1, h2, he ▸ h3⟩⟩
theorem TI.drawC (is : List Nat) (hn : is.Nodup) (hd : noDefers ops = true) (h : A X ops (pick L is) ops.size (Array.replicate ops.size false) (Q .normal) σ L) : TI X ro (.region id ops true) Q σ L :=
  ⟨fun a w ha hw => by
    have hw' := hw.step (Chg.drew [] w)
    exact Go.wpIn_mono (wpIn_region_any X.tb.mix (wpAny_fen hd _ _ _ _ (wpAny_of_C _ _ _ _ (h.run a _ ha hw' (hw'.pick hn))))) fun e a w ⟨he, σ, L, h1, h2, h3⟩ => ⟨σ, L, h1, h2, he ▸ h3⟩⟩
theorem TI.seq (h : TI X ro x (noQ fun σ L => TI X ro y Q σ L) σ L) : TI X ro (.seq x y) Q σ L :=
  ⟨fun a w ha hw => wpIn_seq (Go.wpIn_mono (h.run a w ha hw) fun e a w ⟨σ, L, h1, h2, h3⟩ => by
    cases e with
    | normal => exact h3.run a w h1 h2
    | _ => exact h3.elim)⟩
theorem TI.block {K : Env → Lst → Prop} (h : TI X ro c (noQ K) σ L) : TI X ro (.block id c) (noQ K) σ L :=
  ⟨fun a w ha hw => wpIn_block (Go.wpIn_mono (h.run a w ha hw) fun e a w ⟨σ, L, h1, h2, h3⟩ => by
    cases e with
    | normal => exact ⟨σ, L, h1, h2, h3⟩
    | _ => exact h3.elim)⟩
theorem TI.weak {σ' : Env} {L' : Lst} (h : TI X ro c Q σ' L') (hk : Keep L L') (hs : Sub σ' σ) : TI X ro c Q σ L := ⟨fun a w ha hw => h.run a w (ha.sub hs) (hw.keep hk)⟩
end
theorem RetOk.run {X : Cx} {fn : Func} {Rp : Value → Lst → Prop} {σ : Env} {L : Lst} {a : Act} {w : World} (h : RetOk X fn.results.toList Rp σ L) (ha : Mod X.n a σ) (hw : Hp X.w0 X.S L w) : ∃ v, (results fn a.tmps).run X.P w = .ok v w ∧ Rp v L := by
  obtain ⟨⟨vs, h4, h5⟩⟩ := h
  refine ⟨tup vs, ?_, h5⟩
  have := ResIs.run ha hw h4
  have h6 : (fn.results.mapM (m := Sem) fun | .tmp t => Pure.pure (a.tmps.getD t undef) | .cell b t => do loadVar t (← asAddr (a.tmps.getD b undef))).run X.P w = .ok vs.toArray w := by
    rw [← Array.toArray_toList (xs := fn.results), List.mapM_toArray]
    simp only [Sem.run_map]
    erw [this]
    rfl
  simp only [results, Sem.run_bind]
  erw [h6]
  simp only [Result.andThen_ok, Sem.run_pure]
  congr 1
  cases vs with
  | nil => rfl
  | cons v vs => cases vs <;> rfl
end Go.Proofs.Ytplhnkmmhndkjaa
set_option linter.unusedSimpArgs false
set_option linter.unusedVariables false
set_option linter.unusedSectionVars false
namespace Go.Proofs.Ytplhnkmmhndkjaa
open Go.RowKit Go.Shelf Go.ChangeShapes Go.WideShapes Go.Deep
/-- A cell of this kind, within its range. -/
def cellW : TK → Value → Prop
  | .int k, .int k' n => k' = k ∧ k.min ≤ n ∧ n ≤ k.max
  | .bool, .bool _ => True
  | .string, .string s => s.size ≤ maxLen
  | _, _ => False
def allW : List TK → List Value → Prop
  | [], [] => True
  | k :: ks, v :: vs => cellW k v ∧ allW ks vs
  | _, _ => False
theorem allW_append : ∀ {ks ls : List TK} {vs : List Value}, allW ks (vs.take ks.length) → allW ls (vs.drop ks.length) → allW (ks ++ ls) vs
  | [], ls, vs, _, h => by simpa using h
  | k :: ks, ls, [], h, _ => by simp [allW] at h
  | k :: ks, ls, v :: vs, h, h2 => by
    simp only [List.length_cons, List.take_succ_cons, List.drop_succ_cons, allW] at h h2
    exact ⟨h.1, allW_append h.2 h2⟩

section
variable {H : Type} {enc : TypeId × Value → H} {P : Program} {w : World} {base : Nat} {spare : Nat → Bool} {held : Bool}
theorem cells_of (w : World) {t sz : Nat} (h : ∀ w, (Go.sizeOf t).run P w = .ok sz w) : P.cellsOf t = sz := by
  have := h w
  simp only [Go.sizeOf, typeInfo, Sem.run_bind, Sem.run_pure] at this
  unfold Program.cellsOf
  cases hi : P.info? t with
  | none => simp [hi] at this
  | some i => simp [hi] at this; simp [this]
theorem trodFs {g : Nat → Option (List TK)} {n : Nat} {cs : List Value} (hg : ∀ t ks us x, g t = some ks → P.cellsOf t = ks.length → DataW.trod enc P w base spare held n t us = some x → allW ks us) :
    ∀ (fields : List Field) (fs : List (Nat × Nat × Nat)) (k : Nat) (ks : List TK), Flds P fields fs → flatFs g fs k = some ks → cs.length = k + ks.length → (∀ f ∈ fields, ∃ x, DataW.trod enc P w base spare held n f.type ((cs.drop f.offset).take (P.cellsOf f.type)) = some x) → allW ks (cs.drop k)
  | [], [], k, ks, _, h, hl, _ => by
    simp only [flatFs, Option.some.injEq] at h
    subst h
    rw [List.drop_eq_nil_of_le (by simp at hl; omega)]
    trivial
  | [], _ :: _, _, _, h, _, _, _ => h.elim
  | _ :: _, [], _, _, h, _, _, _ => h.elim
  | f :: fields, (t, off, sz) :: fs, k, ks, hF, h, hl, hx => by
    obtain ⟨e1, e2, e3, e4, e5⟩ := hF
    simp only [flatFs] at h
    split at h
    · cases h
    · rename_i hb
      have hb' := Nat.eq_of_beq_eq_true hb
      split at h
      · cases h
      · rename_i k1 hk1
        split at h
        · cases h
        · rename_i hl1
          have hl1' := Nat.eq_of_beq_eq_true hl1
          split at h
          · cases h
          · rename_i k2 hk2
            cases h
            obtain ⟨x, hx1⟩ := hx f List.mem_cons_self
            have hsz := cells_of w e3
            rw [e1, e2, hsz, hb'] at hx1
            have h1 := hg t k1 _ x hk1 (by rw [hsz, hl1']) hx1
            have h2 := trodFs hg fields fs (k + sz) k2 e5 hk2 (by rw [hl, List.length_append, hl1']; omega) fun f' hf' => hx f' (List.mem_cons_of_mem _ hf')
            refine allW_append (by rw [hl1']; exact h1) ?_
            rw [List.drop_drop, hl1']; exact h2
theorem allW_rep {k1 : List TK} : ∀ (m : Nat) (cs : List Value), cs.length = m * k1.length → (∀ i, i < m → allW k1 ((cs.drop (i * k1.length)).take k1.length)) → allW (repK k1 m) cs
  | 0, cs, hl, _ => by
    have : cs = [] := by cases cs; rfl; simp at hl
    subst this; trivial
  | m + 1, cs, hl, h => by
    have h0 := h 0 (by omega)
    simp only [Nat.zero_mul, List.drop_zero] at h0
    rw [Nat.add_mul] at hl
    refine allW_append h0 (allW_rep m _ (by rw [List.length_drop, hl]; omega) fun i hi => ?_)
    have := h (i + 1) (by omega)
    rwa [List.drop_drop, show k1.length + i * k1.length = (i + 1) * k1.length by rw [Nat.add_mul]; omega]
theorem trod_flat (tb : Tb P) : ∀ (n t : Nat) (ks : List TK), flatE tb n t = some ks → P.cellsOf t = ks.length → ∀ fuel cs x, DataW.trod enc P w base spare held fuel t cs = some x → allW ks cs
  | 0, _, _, h, _, _, _, _, _ => by cases h
  | n + 1, t, ks, h, hlen, fuel, cs, x, hx => by
    simp only [flatE] at h
    split at h
    · cases h
    · rename_i r hr
      have hgd := tb.get hr
      have his := hgd.is
      split at h
      · rename_i k hk
        rw [hk] at his
        cases h
        obtain ⟨m, rfl, _, hwf⟩ := DataW.trod_int his hx
        simp only [Lit.wf, Bool.and_eq_true, decide_eq_true_eq] at hwf
        exact ⟨⟨rfl, hwf⟩, trivial⟩
      · rename_i hk
        rw [hk] at his
        cases h
        obtain ⟨b, rfl, _⟩ := DataW.trod_bool his hx
        exact ⟨trivial, trivial⟩
      · rename_i hk
        rw [hk] at his
        cases h
        obtain ⟨s, rfl, _, hs⟩ := DataW.trod_string his hx
        exact ⟨hs, trivial⟩
      · rename_i fs hk
        rw [hk] at his
        obtain ⟨fields, h1, h2⟩ := his
        obtain ⟨xs, m, rfl, _, hcl, hxl, hf⟩ := DataW.trod_struct h1 hx
        have := trodFs (cs := cs) (n := m) (fun t ks us x hg hc ht => trod_flat tb n t ks hg hc m us x ht) fields.toList fs 0 ks h2 h (by rw [hcl, hlen]; omega) fun f hf' => by
          obtain ⟨i, hi, he⟩ := List.getElem_of_mem hf'
          have h3 : fields[i]? = some f := by rw [← he]; simp at hi; simp [hi]
          have h4 := hf i f h3
          simp at hi
          rw [List.getElem?_eq_getElem (by omega)] at h4
          exact ⟨_, h4⟩
        simpa using this
      · rename_i mm e hk
        rw [hk] at his
        split at h
        · cases h
        · rename_i re hre
          split at h
          · cases h
          · rename_i k1 hk1
            split at h
            · cases h
            · rename_i hl1
              have hl1' := Nat.eq_of_beq_eq_true hl1
              cases h
              obtain ⟨xs, m, rfl, _, hcl, hxl, hf⟩ := DataW.trod_array his hx
              have hce : P.cellsOf e = k1.length := by rw [cells_of w (tb.get hre).size, hl1']
              refine allW_rep mm cs (by rw [hcl, hlen, repK_len]) fun i hi => ?_
              have h4 := hf i hi
              rw [hce, List.getElem?_eq_getElem (by omega)] at h4
              exact trod_flat tb n e k1 hk1 hce m _ _ h4
      · cases h

/-- A slice of plain rows that came in. -/
theorem open_rows {α : Type} [Inhabited α] (f : α → List Value) (tb : Tb P) {t e : TypeId} {r re : TRow} {ks : List TK} {v : Value} {d : DataW H} {p : List MemPlace} (ht : tb.row t = some r) (hk : r.k = .slice e) (he : tb.row e = some re) (hf : flatE tb 8 e = some ks) (hl : Nat.beq ks.length re.size = true) (hpos : Nat.ble 1 ks.length = true)
    (hlen : ∀ a, (f a).length = ks.length) (dec : ∀ cs, allW ks cs → ∃ a, f a = cs)
    {rc : Reach} {b0 : Nat} (hv : Value.okWide P w rc b0 t v) (h : DataW.Trod enc P w base spare held t v d p) :
    ∃ (a : Option Addr) (rs : List α) (cap : Nat), v = .slice a rs.length cap ∧ RdSl w a f rs ∧ rs.length ≤ cap ∧ cap ≤ maxLen ∧ (∀ x ∈ rs, allW ks (f x)) ∧ (a = none → cap = 0) := by
  have hu : P.underlying t = some (.slice e) := by have := (tb.get ht).is; rw [hk] at this; exact this
  obtain ⟨a0, len0, cap0, rfl⟩ := okWide_slice hu hv
  obtain ⟨fuel, hfu⟩ := h
  have hce : P.cellsOf e = ks.length := by rw [cells_of w (tb.get he).size, Nat.eq_of_beq_eq_true hl]
  rcases open_slice hu hfu with ⟨h0, _⟩ | ⟨a, len, cap, m, n, D, Pl, hcs, hb, hlc, hm, hmm, hx, hi⟩
  · have : a0 = none ∧ len0 = 0 ∧ cap0 = 0 := by simpa [Value.cells] using h0
    obtain ⟨rfl, rfl, rfl⟩ := this
    exact ⟨none, [], 0, rfl, .inl rfl, by simp, by simp, by simp, fun _ => rfl⟩
  · have : a0 = some a ∧ len0 = len ∧ cap0 = cap := by simpa [Value.cells] using hcs
    obtain ⟨rfl, rfl, rfl⟩ := this
    have hle : len0 ≤ m := by rw [hmm]; split <;> omega
    obtain ⟨R, hR⟩ := choose_lt (α := α) (p := fun i x => w.cells? base (a.add (i * P.cellsOf e)) (P.cellsOf e) = some (f x) ∧ allW ks (f x)) (n := len0) (fun i hi' => by
      obtain ⟨cs', h1, h2⟩ := hi i (by omega)
      have h3 := trod_flat tb 8 e ks hf hce _ _ _ h2
      obtain ⟨x, hx⟩ := dec cs' h3
      exact ⟨x, by rw [hx]; exact h1, by rw [hx]; exact h3⟩)
    have hrl : ((List.range len0).map R).length = len0 := by simp
    refine ⟨some a, (List.range len0).map R, cap0, by rw [hrl], ?_, by rw [hrl]; exact hlc, hm, ?_, fun h => by cases h⟩
    · by_cases hz : len0 = 0
      · left; simp [hz]
      · right
        have hpos' := Nat.le_of_ble_eq_true hpos
        have hspot : a.spot = none := by
          obtain ⟨_, h2, h3⟩ := World.cells?_some (hR 0 (by omega)).1
          have h4 := h3 0 (by omega)
          rw [List.getElem?_eq_getElem (by omega)] at h4
          unfold World.cell? at h4
          cases a with | mk b o s =>
          cases s with
          | none => rfl
          | some s => 
            simp only [Addr.add] at h4
            split at h4
            · simp at h4
            · cases h4
        cases a with | mk b o s =>
        simp only at hspot
        subst hspot
        refine ⟨b, o, rfl, fun k hk' => ?_⟩
        rw [fl_len hlen, hrl] at hk'
        have hdm := Nat.div_add_mod k ks.length
        have hml := Nat.mod_lt k (show 0 < ks.length by omega)
        have hil : k / ks.length < len0 := by rw [Nat.div_lt_iff_lt_mul (by omega)]; exact hk'
        have hgi : ((List.range len0).map R)[k / ks.length]? = some (R (k / ks.length)) := by simp [hil]
        have h5 := fl_get hlen hgi hml
        rw [show k / ks.length * ks.length + k % ks.length = k by rw [Nat.mul_comm]; exact hdm] at h5
        rw [h5]
        obtain ⟨_, h2, h3⟩ := World.cells?_some (hR _ hil).1
        have h4 := h3 (k % ks.length) (by rw [hce]; exact hml)
        rw [Addr.add_none, Addr.add_none, hce] at h4
        rw [← h4, show o + k / ks.length * ks.length + k % ks.length = o + k by rw [Nat.add_assoc, show k / ks.length * ks.length + k % ks.length = k by rw [Nat.mul_comm]; exact hdm]]
    · intro x hx'
      obtain ⟨i, hi', rfl⟩ := List.mem_map.1 hx'
      exact (hR i (List.mem_range.1 hi')).2

/-- The arguments read behind the call as before: nothing that was there has changed. -/
theorem trodAll_stays {W W' : World} (hl : laidOutB P = true) (hb : Below W.heap.size W W') {sp : Nat → Bool} : ∀ {ts : List TypeId} {vs : List Value} {ds : List (DataW H)} {ps : List MemPlace}, (∀ t ∈ ts, P.readableRec t = true ∧ t < P.types.size) →
    DataW.TrodAll enc P W 0 (fun _ => true) true ts vs ds ps → (∀ p ∈ ps, p.block < W.heap.size ∧ sp p.block = true) → DataW.TrodAll enc P W' 0 sp true ts vs ds ps
  | [], vs, ds, ps, _, h, _ => by
    obtain ⟨rfl, rfl, rfl⟩ := trodAll_nil h
    exact trodAll_mk0
  | t :: ts, vs, ds, ps, hr, h, hp => by
    obtain ⟨v, vs', d, ds', p, q, rfl, rfl, rfl, h1, h2⟩ := trodAll_cons h
    have g := hr t List.mem_cons_self
    exact ⟨p, q, WideElems.Trod_stays hl g.1 g.2 h1 (fun x hx => hb.same (hp x (List.mem_append_left _ hx)).1) (fun x hx => (hp x (List.mem_append_left _ hx)).2),
      trodAll_stays hl hb (fun t' ht' => hr t' (List.mem_cons_of_mem _ ht')) h2 (fun x hx => hp x (List.mem_append_right _ hx)), rfl⟩
/-- A statement's last step: it returned true, and nothing that was there has changed. -/
theorem law_post {f : Func} {s : ChangeSpec} {apart fresh handsOn again : Bool} {W W' : World} {args : Array Value} {ds gs : List (DataW H)} {before : List MemPlace} {tt : TypeId}
    (hW : DataW.Whole enc P f.params.toList s.vars apart W args.toList ds gs before) (hv : s.vars = []) (hfn : s.fn H ds = { results := [.lit (.bool true)], args := ds, vars := [] })
    (hrt : f.resultTypes = #[tt]) (htt : P.underlying tt = some .bool) (hl : laidOutB P = true) (hread : ∀ t ∈ f.params.toList, P.readableRec t = true ∧ t < P.types.size) (hb : Below W.heap.size W W') :
    s.post enc P f apart fresh handsOn again W args (.bool true) W' := by
  have hlt : ∀ p ∈ before, p.block < W.heap.size := fun p hp => hW.lt p hp
  obtain ⟨p, q, hA, hV, rfl, hz, hn⟩ := hW
  have hV' := hV
  rw [hv] at hV'
  obtain ⟨rfl, rfl⟩ := trodVars_none hV'
  rw [List.append_nil] at hlt hz hn
  have key : ∀ sp : Nat → Bool, (∀ x ∈ p, sp x.block = true) → DataW.TrodAll enc P W' 0 sp true f.params.toList args.toList ds p := fun sp hs => trodAll_stays hl hb hread hA fun x hx => ⟨hlt x hx, hs x hx⟩
  have hres : ∀ (b : Nat) (sp : Nat → Bool) (hd : Bool), DataW.TrodAll enc P W' b sp hd f.resultTypes.toList ((Value.bool true).resultList f.resultTypes.size) [.lit (.bool true)] [] := fun b sp hd => by
    rw [hrt]; exact trodAll_mk1 (shut_bool htt true)
  refine ⟨ds, [], p, [], p, [], ⟨p, [], hA, hV, by simp, hz, hn⟩, ?_, ?_, ?_, World.keptBut_mono (fun x hx => ⟨hx, .inr (.inl hx)⟩) (hb.frame (· ∈ p)), fun _ => ⟨?_, ?_⟩⟩
  · rw [List.append_nil, hfn]; exact hres _ _ _
  · rw [List.append_nil, hfn]; exact key _ fun x hx => by simpa using hlt x hx
  · rw [List.append_nil, hfn, hv]; rfl
  · exact ok_one hrt rfl (okWide_bool_mk htt true)
  · refine ⟨.lit (.bool true) :: ds, [], p, ⟨p, [], ?_, by rw [hv]; rfl, by simp, ?_, hn⟩, fun x hx _ => hx⟩
    · rw [hrt]
      exact ⟨[], p, shut_bool htt true, key _ fun _ _ => rfl, rfl⟩
    · intro b off hx
      rw [hb.frozen (hlt _ hx)]
      exact hz b off hx
end
end Go.Proofs.Ytplhnkmmhndkjaa
set_option linter.unusedSimpArgs false
set_option linter.unusedVariables false
namespace Go.Proofs.Ytplhnkmmhndkjaa
open Go.ChangeShapes Go.WideShapes Go.ChangeAt Go.RowKit
set_option linter.unusedSectionVars false
open Go.Shelf Go.Deep
section
variable {H : Type} {enc : TypeId × Value → H} {P : Program} {w : World} {base : Nat} {spare : Nat → Bool} {held : Bool}
/-- What a type's cells may be, once they have been trodden. -/
def Opens (enc : TypeId × Value → H) (P : Program) (w : World) (base : Nat) (spare : Nat → Bool) (held : Bool) (t : TypeId) (Q : List Value → Prop) : Prop := ∀ fuel cs x, DataW.trod enc P w base spare held fuel t cs = some x → Q cs
/-- One field of a struct. -/
theorem Opens.field (tb : Tb P) {t ft off sz : Nat} {r : TRow} {fs : List (Nat × Nat × Nat)} {Q : List Value → Prop} (ht : tb.row t = some r) (hk : r.k = .strct fs) (i : Nat) (hi : fldE fs i = some (ft, off, sz)) (hQ : Opens enc P w base spare held ft Q) :
    Opens enc P w base spare held t fun cs => cs.length = r.size ∧ Q ((cs.drop off).take sz) := by
  intro fuel cs x hx
  have his := (tb.get ht).is
  rw [hk] at his
  obtain ⟨fields, h1, h2⟩ := his
  obtain ⟨xs, m, rfl, _, hcl, hxl, hf⟩ := DataW.trod_struct h1 hx
  obtain ⟨f, g1, g2, g3, g4, _⟩ := Flds.get h2 hi
  have g1' : fields[i]? = some f := by rw [← g1]; simp
  have h4 := hf i f g1'
  have hlt : i < xs.length := by rw [hxl]; exact (Array.getElem?_eq_some_iff.1 g1').1
  rw [List.getElem?_eq_getElem hlt, g2, g3, cells_of w g4] at h4
  exact ⟨by rw [hcl, cells_of w (tb.get ht).size], hQ _ _ _ h4⟩
theorem Opens.mono {t : TypeId} {Q R : List Value → Prop} (h : Opens enc P w base spare held t Q) (h2 : ∀ cs, Q cs → R cs) : Opens enc P w base spare held t R := fun f cs x hx => h2 _ (h f cs x hx)
/-- A slice whose elements open. -/
theorem Opens.slice {α : Type} [Inhabited α] (f : α → List Value) (Q : α → Prop) (tb : Tb P) {t e : TypeId} {r re : TRow} (ht : tb.row t = some r) (hk : r.k = .slice e) (he : tb.row e = some re) (hpos : Nat.ble 1 re.size = true)
    (hlen : ∀ a, (f a).length = re.size) (hE : Opens enc P w base spare held e fun cs => ∃ a, f a = cs ∧ Q a) :
    Opens enc P w base spare held t fun cs => ∃ (a : Option Addr) (rs : List α) (cap : Nat), cs = [.slice a rs.length cap] ∧ RdSl w a f rs ∧ rs.length ≤ cap ∧ cap ≤ maxLen ∧ (∀ x ∈ rs, Q x) ∧ (a = none → cap = 0) := by
  intro fuel cs x hfu
  have hu : P.underlying t = some (.slice e) := by have := (tb.get ht).is; rw [hk] at this; exact this
  have hce : P.cellsOf e = re.size := cells_of w (tb.get he).size
  rcases open_slice hu hfu with ⟨h0, _⟩ | ⟨a, len, cap, m, n, D, Pl, hcs, hb, hlc, hm, hmm, hx, hi⟩
  · exact ⟨none, [], 0, h0, .inl rfl, by simp, by simp, by simp, fun _ => rfl⟩
  · have hle : len ≤ m := by rw [hmm]; split <;> omega
    obtain ⟨R, hR⟩ := choose_lt (α := α) (p := fun i x => w.cells? base (a.add (i * P.cellsOf e)) (P.cellsOf e) = some (f x) ∧ Q x) (n := len) (fun i hi' => by
      obtain ⟨cs', h1, h2⟩ := hi i (by omega)
      obtain ⟨x, hx, hq⟩ := hE _ _ _ h2
      exact ⟨x, by rw [hx]; exact h1, hq⟩)
    have hrl : ((List.range len).map R).length = len := by simp
    refine ⟨some a, (List.range len).map R, cap, by rw [hrl]; exact hcs, ?_, by rw [hrl]; exact hlc, hm, ?_, fun h => by cases h⟩
    · by_cases hz : len = 0
      · left; simp [hz]
      · right
        have hpos' := Nat.le_of_ble_eq_true hpos
        have hspot : a.spot = none := by
          obtain ⟨_, h2, h3⟩ := World.cells?_some (hR 0 (by omega)).1
          have h4 := h3 0 (by omega)
          rw [List.getElem?_eq_getElem (by omega)] at h4
          unfold World.cell? at h4
          cases a with | mk b o s =>
          cases s with
          | none => rfl
          | some s =>
            simp only [Addr.add] at h4
            split at h4
            · simp at h4
            · cases h4
        cases a with | mk b o s =>
        simp only at hspot
        subst hspot
        refine ⟨b, o, rfl, fun k hk' => ?_⟩
        rw [fl_len hlen, hrl] at hk'
        have hdm := Nat.div_add_mod k re.size
        have hml := Nat.mod_lt k (show 0 < re.size by omega)
        have hil : k / re.size < len := by rw [Nat.div_lt_iff_lt_mul (by omega)]; exact hk'
        have hgi : ((List.range len).map R)[k / re.size]? = some (R (k / re.size)) := by simp [hil]
        have h5 := fl_get hlen hgi hml
        rw [show k / re.size * re.size + k % re.size = k by rw [Nat.mul_comm]; exact hdm] at h5
        rw [h5]
        obtain ⟨_, h2, h3⟩ := World.cells?_some (hR _ hil).1
        have h4 := h3 (k % re.size) (by rw [hce]; exact hml)
        rw [Addr.add_none, Addr.add_none, hce] at h4
        rw [← h4, show o + k / re.size * re.size + k % re.size = o + k by rw [Nat.add_assoc, show k / re.size * re.size + k % re.size = k by rw [Nat.mul_comm]; exact hdm]]
    · intro x hx'
      obtain ⟨i, hi', rfl⟩ := List.mem_map.1 hx'
      exact (hR i (List.mem_range.1 hi')).2
end
section
variable {H : Type} {enc : TypeId × Value → H} {P : Program} {w : World} {base : Nat} {spare : Nat → Bool} {held : Bool}
end
end Go.Proofs.Ytplhnkmmhndkjaa
namespace Go.Proofs.Ytplhnkmmhndkjaa
open Go.RowKit Go.Shelf
def rowsTab : List (Option TRow) := [
  none,
  some { k := .fn, size := 1, bytes := 8, zero := .nilFunc },
  some { k := .int .i64, size := 1, bytes := 8, zero := .int .i64 0 },
  some { k := .int .i64, size := 1, bytes := 8, zero := .int .i64 0 },
  some { k := .bool, size := 1, bytes := 1, zero := .bool false },
  some { k := .int .u8, size := 1, bytes := 1, zero := .int .u8 0 },
  some { k := .int .u8, size := 1, bytes := 1, zero := .int .u8 0 },
  none,
  none,
  some { k := .string, size := 1, bytes := 16, zero := .string ByteArray.empty },
  some { k := .string, size := 1, bytes := 16, zero := .string ByteArray.empty },
  some { k := .string, size := 1, bytes := 16, zero := .string ByteArray.empty },
  some { k := .int .u64, size := 1, bytes := 8, zero := .int .u64 0 },
  none,
  none,
  some { k := .ptr 173, size := 1, bytes := 8, zero := .pointer none },
  some { k := .ptr 176, size := 1, bytes := 8, zero := .pointer none },
  some { k := .ptr 184, size := 1, bytes := 8, zero := .pointer none },
  none,
  none,
  none,
  some { k := .int .i32, size := 1, bytes := 4, zero := .int .i32 0 },
  some { k := .arr 4 3, size := 4, bytes := 32, zero := .agg #[.int .i64 0, .int .i64 0, .int .i64 0, .int .i64 0] },
  some { k := .arr 8 5, size := 8, bytes := 8, zero := .agg #[.int .u8 0, .int .u8 0, .int .u8 0, .int .u8 0, .int .u8 0, .int .u8 0, .int .u8 0, .int .u8 0] },
  some { k := .strct [(22, 0, 4), (23, 4, 8)], size := 12, bytes := 40, zero := .agg #[.int .i64 0, .int .i64 0, .int .i64 0, .int .i64 0, .int .u8 0, .int .u8 0, .int .u8 0, .int .u8 0, .int .u8 0, .int .u8 0, .int .u8 0, .int .u8 0] },
  some { k := .strct [(22, 0, 4), (23, 4, 8)], size := 12, bytes := 40, zero := .agg #[.int .i64 0, .int .i64 0, .int .i64 0, .int .i64 0, .int .u8 0, .int .u8 0, .int .u8 0, .int .u8 0, .int .u8 0, .int .u8 0, .int .u8 0, .int .u8 0] },
  some { k := .slice 83, size := 1, bytes := 24, zero := .slice none 0 0 },
  some { k := .slice 75, size := 1, bytes := 24, zero := .slice none 0 0 },
  some { k := .strct [(25, 0, 12), (26, 12, 1), (27, 13, 1)], size := 14, bytes := 88, zero := .agg #[.int .i64 0, .int .i64 0, .int .i64 0, .int .i64 0, .int .u8 0, .int .u8 0, .int .u8 0, .int .u8 0, .int .u8 0, .int .u8 0, .int .u8 0, .int .u8 0, .slice none 0 0, .slice none 0 0] },
  some { k := .strct [(25, 0, 12), (26, 12, 1), (27, 13, 1)], size := 14, bytes := 88, zero := .agg #[.int .i64 0, .int .i64 0, .int .i64 0, .int .i64 0, .int .u8 0, .int .u8 0, .int .u8 0, .int .u8 0, .int .u8 0, .int .u8 0, .int .u8 0, .int .u8 0, .slice none 0 0, .slice none 0 0] },
  some { k := .arr 4 3, size := 4, bytes := 32, zero := .agg #[.int .i64 0, .int .i64 0, .int .i64 0, .int .i64 0] },
  some { k := .strct [(30, 0, 4), (23, 4, 8)], size := 12, bytes := 40, zero := .agg #[.int .i64 0, .int .i64 0, .int .i64 0, .int .i64 0, .int .u8 0, .int .u8 0, .int .u8 0, .int .u8 0, .int .u8 0, .int .u8 0, .int .u8 0, .int .u8 0] },
  some { k := .strct [(30, 0, 4), (23, 4, 8)], size := 12, bytes := 40, zero := .agg #[.int .i64 0, .int .i64 0, .int .i64 0, .int .i64 0, .int .u8 0, .int .u8 0, .int .u8 0, .int .u8 0, .int .u8 0, .int .u8 0, .int .u8 0, .int .u8 0] },
  some { k := .slice 80, size := 1, bytes := 24, zero := .slice none 0 0 },
  some { k := .slice 77, size := 1, bytes := 24, zero := .slice none 0 0 },
  some { k := .strct [(32, 0, 12), (33, 12, 1), (34, 13, 1)], size := 14, bytes := 88, zero := .agg #[.int .i64 0, .int .i64 0, .int .i64 0, .int .i64 0, .int .u8 0, .int .u8 0, .int .u8 0, .int .u8 0, .int .u8 0, .int .u8 0, .int .u8 0, .int .u8 0, .slice none 0 0, .slice none 0 0] },
  some { k := .strct [(32, 0, 12), (33, 12, 1), (34, 13, 1)], size := 14, bytes := 88, zero := .agg #[.int .i64 0, .int .i64 0, .int .i64 0, .int .i64 0, .int .u8 0, .int .u8 0, .int .u8 0, .int .u8 0, .int .u8 0, .int .u8 0, .int .u8 0, .int .u8 0, .slice none 0 0, .slice none 0 0] },
  some { k := .fn, size := 1, bytes := 8, zero := .nilFunc },
  some { k := .fn, size := 1, bytes := 8, zero := .nilFunc },
  some { k := .fn, size := 1, bytes := 8, zero := .nilFunc },
  some { k := .fn, size := 1, bytes := 8, zero := .nilFunc },
  some { k := .fn, size := 1, bytes := 8, zero := .nilFunc },
  some { k := .fn, size := 1, bytes := 8, zero := .nilFunc },
  some { k := .slice 5, size := 1, bytes := 24, zero := .slice none 0 0 },
  some { k := .int .i64, size := 1, bytes := 8, zero := .int .i64 0 },
  none,
  some { k := .fn, size := 1, bytes := 8, zero := .nilFunc },
  some { k := .fn, size := 1, bytes := 8, zero := .nilFunc },
  some { k := .fn, size := 1, bytes := 8, zero := .nilFunc },
  none,
  some { k := .fn, size := 1, bytes := 8, zero := .nilFunc },
  some { k := .ptr 92, size := 1, bytes := 8, zero := .pointer none },
  some { k := .fn, size := 1, bytes := 8, zero := .nilFunc },
  none,
  some { k := .fn, size := 1, bytes := 8, zero := .nilFunc },
  none,
  some { k := .fn, size := 1, bytes := 8, zero := .nilFunc },
  none,
  some { k := .fn, size := 1, bytes := 8, zero := .nilFunc },
  some { k := .fn, size := 1, bytes := 8, zero := .nilFunc },
  some { k := .fn, size := 1, bytes := 8, zero := .nilFunc },
  none,
  some { k := .fn, size := 1, bytes := 8, zero := .nilFunc },
  some { k := .strct [(3, 0, 1), (3, 1, 1)], size := 2, bytes := 16, zero := .agg #[.int .i64 0, .int .i64 0] },
  some { k := .strct [(3, 0, 1), (3, 1, 1)], size := 2, bytes := 16, zero := .agg #[.int .i64 0, .int .i64 0] },
  none,
  some { k := .fn, size := 1, bytes := 8, zero := .nilFunc },
  some { k := .fn, size := 1, bytes := 8, zero := .nilFunc },
  some { k := .fn, size := 1, bytes := 8, zero := .nilFunc },
  some { k := .fn, size := 1, bytes := 8, zero := .nilFunc },
  some { k := .fn, size := 1, bytes := 8, zero := .nilFunc },
  some { k := .fn, size := 1, bytes := 8, zero := .nilFunc },
  some { k := .fn, size := 1, bytes := 8, zero := .nilFunc },
  some { k := .fn, size := 1, bytes := 8, zero := .nilFunc },
  some { k := .strct [(3, 0, 1), (3, 1, 1), (3, 2, 1), (3, 3, 1)], size := 4, bytes := 32, zero := .agg #[.int .i64 0, .int .i64 0, .int .i64 0, .int .i64 0] },
  some { k := .strct [(3, 0, 1), (3, 1, 1), (3, 2, 1), (3, 3, 1)], size := 4, bytes := 32, zero := .agg #[.int .i64 0, .int .i64 0, .int .i64 0, .int .i64 0] },
  some { k := .fn, size := 1, bytes := 8, zero := .nilFunc },
  some { k := .strct [(3, 0, 1), (3, 1, 1), (3, 2, 1), (3, 3, 1)], size := 4, bytes := 32, zero := .agg #[.int .i64 0, .int .i64 0, .int .i64 0, .int .i64 0] },
  some { k := .fn, size := 1, bytes := 8, zero := .nilFunc },
  some { k := .strct [(3, 0, 1), (77, 1, 4), (3, 5, 1)], size := 6, bytes := 48, zero := .agg #[.int .i64 0, .int .i64 0, .int .i64 0, .int .i64 0, .int .i64 0, .int .i64 0] },
  some { k := .strct [(3, 0, 1), (77, 1, 4), (3, 5, 1)], size := 6, bytes := 48, zero := .agg #[.int .i64 0, .int .i64 0, .int .i64 0, .int .i64 0, .int .i64 0, .int .i64 0] },
  some { k := .fn, size := 1, bytes := 8, zero := .nilFunc },
  some { k := .strct [(3, 0, 1), (75, 1, 4), (3, 5, 1)], size := 6, bytes := 48, zero := .agg #[.int .i64 0, .int .i64 0, .int .i64 0, .int .i64 0, .int .i64 0, .int .i64 0] },
  some { k := .strct [(3, 0, 1), (75, 1, 4), (3, 5, 1)], size := 6, bytes := 48, zero := .agg #[.int .i64 0, .int .i64 0, .int .i64 0, .int .i64 0, .int .i64 0, .int .i64 0] },
  some { k := .fn, size := 1, bytes := 8, zero := .nilFunc },
  some { k := .fn, size := 1, bytes := 8, zero := .nilFunc },
  some { k := .fn, size := 1, bytes := 8, zero := .nilFunc },
  some { k := .fn, size := 1, bytes := 8, zero := .nilFunc },
  some { k := .fn, size := 1, bytes := 8, zero := .nilFunc },
  some { k := .strct [(43, 0, 1), (44, 1, 1)], size := 2, bytes := 32, zero := .agg #[.slice none 0 0, .int .i64 0] },
  some { k := .strct [(43, 0, 1), (44, 1, 1)], size := 2, bytes := 32, zero := .agg #[.slice none 0 0, .int .i64 0] },
  some { k := .strct [(90, 0, 2)], size := 2, bytes := 32, zero := .agg #[.slice none 0 0, .int .i64 0] },
  some { k := .strct [(90, 0, 2)], size := 2, bytes := 32, zero := .agg #[.slice none 0 0, .int .i64 0] },
  some { k := .fn, size := 1, bytes := 8, zero := .nilFunc },
  some { k := .fn, size := 1, bytes := 8, zero := .nilFunc },
  some { k := .fn, size := 1, bytes := 8, zero := .nilFunc },
  some { k := .fn, size := 1, bytes := 8, zero := .nilFunc },
  none,
  some { k := .fn, size := 1, bytes := 8, zero := .nilFunc },
  none,
  some { k := .fn, size := 1, bytes := 8, zero := .nilFunc },
  some { k := .fn, size := 1, bytes := 8, zero := .nilFunc },
  some { k := .fn, size := 1, bytes := 8, zero := .nilFunc },
  some { k := .fn, size := 1, bytes := 8, zero := .nilFunc },
  some { k := .fn, size := 1, bytes := 8, zero := .nilFunc },
  none,
  some { k := .fn, size := 1, bytes := 8, zero := .nilFunc },
  some { k := .fn, size := 1, bytes := 8, zero := .nilFunc },
  some { k := .strct [(43, 0, 1), (44, 1, 1)], size := 2, bytes := 32, zero := .agg #[.slice none 0 0, .int .i64 0] },
  some { k := .ptr 108, size := 1, bytes := 8, zero := .pointer none },
  some { k := .fn, size := 1, bytes := 8, zero := .nilFunc },
  some { k := .slice 3, size := 1, bytes := 24, zero := .slice none 0 0 },
  some { k := .fn, size := 1, bytes := 8, zero := .nilFunc },
  some { k := .fn, size := 1, bytes := 8, zero := .nilFunc },
  some { k := .fn, size := 1, bytes := 8, zero := .nilFunc },
  some { k := .int .u64, size := 1, bytes := 8, zero := .int .u64 0 },
  some { k := .slice 43, size := 1, bytes := 24, zero := .slice none 0 0 },
  some { k := .fn, size := 1, bytes := 8, zero := .nilFunc },
  some { k := .ptr 90, size := 1, bytes := 8, zero := .pointer none },
  some { k := .strct [(3, 0, 1), (3, 1, 1), (43, 2, 1)], size := 3, bytes := 40, zero := .agg #[.int .i64 0, .int .i64 0, .slice none 0 0] },
  some { k := .strct [(3, 0, 1), (3, 1, 1), (43, 2, 1)], size := 3, bytes := 40, zero := .agg #[.int .i64 0, .int .i64 0, .slice none 0 0] },
  some { k := .fn, size := 1, bytes := 8, zero := .nilFunc },
  some { k := .fn, size := 1, bytes := 8, zero := .nilFunc },
  some { k := .fn, size := 1, bytes := 8, zero := .nilFunc },
  some { k := .fn, size := 1, bytes := 8, zero := .nilFunc },
  some { k := .fn, size := 1, bytes := 8, zero := .nilFunc },
  some { k := .fn, size := 1, bytes := 8, zero := .nilFunc },
  some { k := .fn, size := 1, bytes := 8, zero := .nilFunc },
  some { k := .fn, size := 1, bytes := 8, zero := .nilFunc },
  some { k := .fn, size := 1, bytes := 8, zero := .nilFunc },
  some { k := .fn, size := 1, bytes := 8, zero := .nilFunc },
  some { k := .fn, size := 1, bytes := 8, zero := .nilFunc },
  some { k := .fn, size := 1, bytes := 8, zero := .nilFunc },
  none,
  some { k := .fn, size := 1, bytes := 8, zero := .nilFunc },
  some { k := .fn, size := 1, bytes := 8, zero := .nilFunc },
  some { k := .fn, size := 1, bytes := 8, zero := .nilFunc },
  some { k := .strct [(3, 0, 1), (3, 1, 1), (3, 2, 1)], size := 3, bytes := 24, zero := .agg #[.int .i64 0, .int .i64 0, .int .i64 0] },
  some { k := .strct [(3, 0, 1), (3, 1, 1), (3, 2, 1)], size := 3, bytes := 24, zero := .agg #[.int .i64 0, .int .i64 0, .int .i64 0] },
  some { k := .arr 4 138, size := 12, bytes := 96, zero := .agg #[.int .i64 0, .int .i64 0, .int .i64 0, .int .i64 0, .int .i64 0, .int .i64 0, .int .i64 0, .int .i64 0, .int .i64 0, .int .i64 0, .int .i64 0, .int .i64 0] },
  some { k := .fn, size := 1, bytes := 8, zero := .nilFunc },
  some { k := .fn, size := 1, bytes := 8, zero := .nilFunc },
  some { k := .fn, size := 1, bytes := 8, zero := .nilFunc },
  some { k := .fn, size := 1, bytes := 8, zero := .nilFunc },
  some { k := .slice 120, size := 1, bytes := 24, zero := .slice none 0 0 },
  some { k := .fn, size := 1, bytes := 8, zero := .nilFunc },
  some { k := .fn, size := 1, bytes := 8, zero := .nilFunc },
  some { k := .int .u64, size := 1, bytes := 8, zero := .int .u64 0 },
  some { k := .fn, size := 1, bytes := 8, zero := .nilFunc },
  some { k := .fn, size := 1, bytes := 8, zero := .nilFunc },
  some { k := .fn, size := 1, bytes := 8, zero := .nilFunc },
  some { k := .fn, size := 1, bytes := 8, zero := .nilFunc },
  some { k := .fn, size := 1, bytes := 8, zero := .nilFunc },
  some { k := .int .i64, size := 1, bytes := 8, zero := .int .i64 0 },
  none,
  some { k := .fn, size := 1, bytes := 8, zero := .nilFunc },
  some { k := .fn, size := 1, bytes := 8, zero := .nilFunc },
  some { k := .fn, size := 1, bytes := 8, zero := .nilFunc },
  some { k := .fn, size := 1, bytes := 8, zero := .nilFunc },
  some { k := .fn, size := 1, bytes := 8, zero := .nilFunc },
  some { k := .int .u32, size := 1, bytes := 4, zero := .int .u32 0 },
  some { k := .fn, size := 1, bytes := 8, zero := .nilFunc },
  some { k := .int .u64, size := 1, bytes := 8, zero := .int .u64 0 },
  some { k := .fn, size := 1, bytes := 8, zero := .nilFunc },
  some { k := .fn, size := 1, bytes := 8, zero := .nilFunc },
  some { k := .fn, size := 1, bytes := 8, zero := .nilFunc },
  some { k := .ptr 3, size := 1, bytes := 8, zero := .pointer none },
  some { k := .fn, size := 1, bytes := 8, zero := .nilFunc },
  some { k := .ptr 162, size := 1, bytes := 8, zero := .pointer none },
  none,
  some { k := .fn, size := 1, bytes := 8, zero := .nilFunc },
  some { k := .fn, size := 1, bytes := 8, zero := .nilFunc },
  none,
  none,
  none,
  none,
  none,
  some { k := .int .u8, size := 1, bytes := 1, zero := .int .u8 0 },
  some { k := .int .u8, size := 1, bytes := 1, zero := .int .u8 0 },
  some { k := .fn, size := 1, bytes := 8, zero := .nilFunc },
  some { k := .ptr 5, size := 1, bytes := 8, zero := .pointer none },
  some { k := .int .i32, size := 1, bytes := 4, zero := .int .i32 0 },
  some { k := .int .i32, size := 1, bytes := 4, zero := .int .i32 0 },
  none,
  none,
  some { k := .fn, size := 1, bytes := 8, zero := .nilFunc },
  none]
set_option maxRecDepth 100000 in
theorem rowsGood : TGoods Try.prog 0 rowsTab :=
  ⟨⟨⟨_, _, _, Try.underlying1⟩, Try.sizeOf1, Try.zeroValue1, trivial, by kernel_rfl⟩,
   ⟨Try.underlying2, Try.sizeOf2, Try.zeroValue2, trivial, by kernel_rfl⟩,
   ⟨Try.underlying3, Try.sizeOf3, Try.zeroValue3, trivial, by kernel_rfl⟩,
   ⟨Try.underlying4, Try.sizeOf4, Try.zeroValue4, trivial, by kernel_rfl⟩,
   ⟨Try.underlying5, Try.sizeOf5, Try.zeroValue5, trivial, by kernel_rfl⟩,
   ⟨Try.underlying6, Try.sizeOf6, Try.zeroValue6, trivial, by kernel_rfl⟩,
   ⟨Try.underlying9, Try.sizeOf9, Try.zeroValue9, trivial, by kernel_rfl⟩,
   ⟨Try.underlying10, Try.sizeOf10, Try.zeroValue10, trivial, by kernel_rfl⟩,
   ⟨Try.underlying11, Try.sizeOf11, Try.zeroValue11, trivial, by kernel_rfl⟩,
   ⟨Try.underlying12, Try.sizeOf12, Try.zeroValue12, trivial, by kernel_rfl⟩,
   ⟨Try.underlying15, Try.sizeOf15, Try.zeroValue15, trivial, by kernel_rfl⟩,
   ⟨Try.underlying16, Try.sizeOf16, Try.zeroValue16, trivial, by kernel_rfl⟩,
   ⟨Try.underlying17, Try.sizeOf17, Try.zeroValue17, trivial, by kernel_rfl⟩,
   ⟨Try.underlying21, Try.sizeOf21, Try.zeroValue21, trivial, by kernel_rfl⟩,
   ⟨Try.underlying22, Try.sizeOf22, Try.zeroValue22, trivial, by kernel_rfl⟩,
   ⟨Try.underlying23, Try.sizeOf23, Try.zeroValue23, trivial, by kernel_rfl⟩,
   ⟨⟨_, Try.underlying24, rfl, rfl, Try.sizeOf22, rfl, rfl, rfl, Try.sizeOf23, rfl, trivial⟩, Try.sizeOf24, Try.zeroValue24, (by show Try.prog.stoodInHeld 24 = false; kernel_rfl), by kernel_rfl⟩,
   ⟨⟨_, Try.underlying25, rfl, rfl, Try.sizeOf22, rfl, rfl, rfl, Try.sizeOf23, rfl, trivial⟩, Try.sizeOf25, Try.zeroValue25, (by show Try.prog.stoodInHeld 25 = false; kernel_rfl), by kernel_rfl⟩,
   ⟨Try.underlying26, Try.sizeOf26, Try.zeroValue26, trivial, by kernel_rfl⟩,
   ⟨Try.underlying27, Try.sizeOf27, Try.zeroValue27, trivial, by kernel_rfl⟩,
   ⟨⟨_, Try.underlying28, rfl, rfl, Try.sizeOf25, rfl, rfl, rfl, Try.sizeOf26, rfl, rfl, rfl, Try.sizeOf27, rfl, trivial⟩, Try.sizeOf28, Try.zeroValue28, (by show Try.prog.stoodInHeld 28 = false; kernel_rfl), by kernel_rfl⟩,
   ⟨⟨_, Try.underlying29, rfl, rfl, Try.sizeOf25, rfl, rfl, rfl, Try.sizeOf26, rfl, rfl, rfl, Try.sizeOf27, rfl, trivial⟩, Try.sizeOf29, Try.zeroValue29, (by show Try.prog.stoodInHeld 29 = false; kernel_rfl), by kernel_rfl⟩,
   ⟨Try.underlying30, Try.sizeOf30, Try.zeroValue30, trivial, by kernel_rfl⟩,
   ⟨⟨_, Try.underlying31, rfl, rfl, Try.sizeOf30, rfl, rfl, rfl, Try.sizeOf23, rfl, trivial⟩, Try.sizeOf31, Try.zeroValue31, (by show Try.prog.stoodInHeld 31 = false; kernel_rfl), by kernel_rfl⟩,
   ⟨⟨_, Try.underlying32, rfl, rfl, Try.sizeOf30, rfl, rfl, rfl, Try.sizeOf23, rfl, trivial⟩, Try.sizeOf32, Try.zeroValue32, (by show Try.prog.stoodInHeld 32 = false; kernel_rfl), by kernel_rfl⟩,
   ⟨Try.underlying33, Try.sizeOf33, Try.zeroValue33, trivial, by kernel_rfl⟩,
   ⟨Try.underlying34, Try.sizeOf34, Try.zeroValue34, trivial, by kernel_rfl⟩,
   ⟨⟨_, Try.underlying35, rfl, rfl, Try.sizeOf32, rfl, rfl, rfl, Try.sizeOf33, rfl, rfl, rfl, Try.sizeOf34, rfl, trivial⟩, Try.sizeOf35, Try.zeroValue35, (by show Try.prog.stoodInHeld 35 = false; kernel_rfl), by kernel_rfl⟩,
   ⟨⟨_, Try.underlying36, rfl, rfl, Try.sizeOf32, rfl, rfl, rfl, Try.sizeOf33, rfl, rfl, rfl, Try.sizeOf34, rfl, trivial⟩, Try.sizeOf36, Try.zeroValue36, (by show Try.prog.stoodInHeld 36 = false; kernel_rfl), by kernel_rfl⟩,
   ⟨⟨_, _, _, Try.underlying37⟩, Try.sizeOf37, Try.zeroValue37, trivial, by kernel_rfl⟩,
   ⟨⟨_, _, _, Try.underlying38⟩, Try.sizeOf38, Try.zeroValue38, trivial, by kernel_rfl⟩,
   ⟨⟨_, _, _, Try.underlying39⟩, Try.sizeOf39, Try.zeroValue39, trivial, by kernel_rfl⟩,
   ⟨⟨_, _, _, Try.underlying40⟩, Try.sizeOf40, Try.zeroValue40, trivial, by kernel_rfl⟩,
   ⟨⟨_, _, _, Try.underlying41⟩, Try.sizeOf41, Try.zeroValue41, trivial, by kernel_rfl⟩,
   ⟨⟨_, _, _, Try.underlying42⟩, Try.sizeOf42, Try.zeroValue42, trivial, by kernel_rfl⟩,
   ⟨Try.underlying43, Try.sizeOf43, Try.zeroValue43, trivial, by kernel_rfl⟩,
   ⟨Try.underlying44, Try.sizeOf44, Try.zeroValue44, trivial, by kernel_rfl⟩,
   ⟨⟨_, _, _, Try.underlying46⟩, Try.sizeOf46, Try.zeroValue46, trivial, by kernel_rfl⟩,
   ⟨⟨_, _, _, Try.underlying47⟩, Try.sizeOf47, Try.zeroValue47, trivial, by kernel_rfl⟩,
   ⟨⟨_, _, _, Try.underlying48⟩, Try.sizeOf48, Try.zeroValue48, trivial, by kernel_rfl⟩,
   ⟨⟨_, _, _, Try.underlying50⟩, Try.sizeOf50, Try.zeroValue50, trivial, by kernel_rfl⟩,
   ⟨Try.underlying51, Try.sizeOf51, Try.zeroValue51, trivial, by kernel_rfl⟩,
   ⟨⟨_, _, _, Try.underlying52⟩, Try.sizeOf52, Try.zeroValue52, trivial, by kernel_rfl⟩,
   ⟨⟨_, _, _, Try.underlying54⟩, Try.sizeOf54, Try.zeroValue54, trivial, by kernel_rfl⟩,
   ⟨⟨_, _, _, Try.underlying56⟩, Try.sizeOf56, Try.zeroValue56, trivial, by kernel_rfl⟩,
   ⟨⟨_, _, _, Try.underlying58⟩, Try.sizeOf58, Try.zeroValue58, trivial, by kernel_rfl⟩,
   ⟨⟨_, _, _, Try.underlying59⟩, Try.sizeOf59, Try.zeroValue59, trivial, by kernel_rfl⟩,
   ⟨⟨_, _, _, Try.underlying60⟩, Try.sizeOf60, Try.zeroValue60, trivial, by kernel_rfl⟩,
   ⟨⟨_, _, _, Try.underlying62⟩, Try.sizeOf62, Try.zeroValue62, trivial, by kernel_rfl⟩,
   ⟨⟨_, Try.underlying63, rfl, rfl, Try.sizeOf3, rfl, rfl, rfl, Try.sizeOf3, rfl, trivial⟩, Try.sizeOf63, Try.zeroValue63, (by show Try.prog.stoodInHeld 63 = false; kernel_rfl), by kernel_rfl⟩,
   ⟨⟨_, Try.underlying64, rfl, rfl, Try.sizeOf3, rfl, rfl, rfl, Try.sizeOf3, rfl, trivial⟩, Try.sizeOf64, Try.zeroValue64, (by show Try.prog.stoodInHeld 64 = false; kernel_rfl), by kernel_rfl⟩,
   ⟨⟨_, _, _, Try.underlying66⟩, Try.sizeOf66, Try.zeroValue66, trivial, by kernel_rfl⟩,
   ⟨⟨_, _, _, Try.underlying67⟩, Try.sizeOf67, Try.zeroValue67, trivial, by kernel_rfl⟩,
   ⟨⟨_, _, _, Try.underlying68⟩, Try.sizeOf68, Try.zeroValue68, trivial, by kernel_rfl⟩,
   ⟨⟨_, _, _, Try.underlying69⟩, Try.sizeOf69, Try.zeroValue69, trivial, by kernel_rfl⟩,
   ⟨⟨_, _, _, Try.underlying70⟩, Try.sizeOf70, Try.zeroValue70, trivial, by kernel_rfl⟩,
   ⟨⟨_, _, _, Try.underlying71⟩, Try.sizeOf71, Try.zeroValue71, trivial, by kernel_rfl⟩,
   ⟨⟨_, _, _, Try.underlying72⟩, Try.sizeOf72, Try.zeroValue72, trivial, by kernel_rfl⟩,
   ⟨⟨_, _, _, Try.underlying73⟩, Try.sizeOf73, Try.zeroValue73, trivial, by kernel_rfl⟩,
   ⟨⟨_, Try.underlying74, rfl, rfl, Try.sizeOf3, rfl, rfl, rfl, Try.sizeOf3, rfl, rfl, rfl, Try.sizeOf3, rfl, rfl, rfl, Try.sizeOf3, rfl, trivial⟩, Try.sizeOf74, Try.zeroValue74, (by show Try.prog.stoodInHeld 74 = false; kernel_rfl), by kernel_rfl⟩,
   ⟨⟨_, Try.underlying75, rfl, rfl, Try.sizeOf3, rfl, rfl, rfl, Try.sizeOf3, rfl, rfl, rfl, Try.sizeOf3, rfl, rfl, rfl, Try.sizeOf3, rfl, trivial⟩, Try.sizeOf75, Try.zeroValue75, (by show Try.prog.stoodInHeld 75 = false; kernel_rfl), by kernel_rfl⟩,
   ⟨⟨_, _, _, Try.underlying76⟩, Try.sizeOf76, Try.zeroValue76, trivial, by kernel_rfl⟩,
   ⟨⟨_, Try.underlying77, rfl, rfl, Try.sizeOf3, rfl, rfl, rfl, Try.sizeOf3, rfl, rfl, rfl, Try.sizeOf3, rfl, rfl, rfl, Try.sizeOf3, rfl, trivial⟩, Try.sizeOf77, Try.zeroValue77, (by show Try.prog.stoodInHeld 77 = false; kernel_rfl), by kernel_rfl⟩,
   ⟨⟨_, _, _, Try.underlying78⟩, Try.sizeOf78, Try.zeroValue78, trivial, by kernel_rfl⟩,
   ⟨⟨_, Try.underlying79, rfl, rfl, Try.sizeOf3, rfl, rfl, rfl, Try.sizeOf77, rfl, rfl, rfl, Try.sizeOf3, rfl, trivial⟩, Try.sizeOf79, Try.zeroValue79, (by show Try.prog.stoodInHeld 79 = false; kernel_rfl), by kernel_rfl⟩,
   ⟨⟨_, Try.underlying80, rfl, rfl, Try.sizeOf3, rfl, rfl, rfl, Try.sizeOf77, rfl, rfl, rfl, Try.sizeOf3, rfl, trivial⟩, Try.sizeOf80, Try.zeroValue80, (by show Try.prog.stoodInHeld 80 = false; kernel_rfl), by kernel_rfl⟩,
   ⟨⟨_, _, _, Try.underlying81⟩, Try.sizeOf81, Try.zeroValue81, trivial, by kernel_rfl⟩,
   ⟨⟨_, Try.underlying82, rfl, rfl, Try.sizeOf3, rfl, rfl, rfl, Try.sizeOf75, rfl, rfl, rfl, Try.sizeOf3, rfl, trivial⟩, Try.sizeOf82, Try.zeroValue82, (by show Try.prog.stoodInHeld 82 = false; kernel_rfl), by kernel_rfl⟩,
   ⟨⟨_, Try.underlying83, rfl, rfl, Try.sizeOf3, rfl, rfl, rfl, Try.sizeOf75, rfl, rfl, rfl, Try.sizeOf3, rfl, trivial⟩, Try.sizeOf83, Try.zeroValue83, (by show Try.prog.stoodInHeld 83 = false; kernel_rfl), by kernel_rfl⟩,
   ⟨⟨_, _, _, Try.underlying84⟩, Try.sizeOf84, Try.zeroValue84, trivial, by kernel_rfl⟩,
   ⟨⟨_, _, _, Try.underlying85⟩, Try.sizeOf85, Try.zeroValue85, trivial, by kernel_rfl⟩,
   ⟨⟨_, _, _, Try.underlying86⟩, Try.sizeOf86, Try.zeroValue86, trivial, by kernel_rfl⟩,
   ⟨⟨_, _, _, Try.underlying87⟩, Try.sizeOf87, Try.zeroValue87, trivial, by kernel_rfl⟩,
   ⟨⟨_, _, _, Try.underlying88⟩, Try.sizeOf88, Try.zeroValue88, trivial, by kernel_rfl⟩,
   ⟨⟨_, Try.underlying89, rfl, rfl, Try.sizeOf43, rfl, rfl, rfl, Try.sizeOf44, rfl, trivial⟩, Try.sizeOf89, Try.zeroValue89, (by show Try.prog.stoodInHeld 89 = false; kernel_rfl), by kernel_rfl⟩,
   ⟨⟨_, Try.underlying90, rfl, rfl, Try.sizeOf43, rfl, rfl, rfl, Try.sizeOf44, rfl, trivial⟩, Try.sizeOf90, Try.zeroValue90, (by show Try.prog.stoodInHeld 90 = false; kernel_rfl), by kernel_rfl⟩,
   ⟨⟨_, Try.underlying91, rfl, rfl, Try.sizeOf90, rfl, trivial⟩, Try.sizeOf91, Try.zeroValue91, (by show Try.prog.stoodInHeld 91 = false; kernel_rfl), by kernel_rfl⟩,
   ⟨⟨_, Try.underlying92, rfl, rfl, Try.sizeOf90, rfl, trivial⟩, Try.sizeOf92, Try.zeroValue92, (by show Try.prog.stoodInHeld 92 = false; kernel_rfl), by kernel_rfl⟩,
   ⟨⟨_, _, _, Try.underlying93⟩, Try.sizeOf93, Try.zeroValue93, trivial, by kernel_rfl⟩,
   ⟨⟨_, _, _, Try.underlying94⟩, Try.sizeOf94, Try.zeroValue94, trivial, by kernel_rfl⟩,
   ⟨⟨_, _, _, Try.underlying95⟩, Try.sizeOf95, Try.zeroValue95, trivial, by kernel_rfl⟩,
   ⟨⟨_, _, _, Try.underlying96⟩, Try.sizeOf96, Try.zeroValue96, trivial, by kernel_rfl⟩,
   ⟨⟨_, _, _, Try.underlying98⟩, Try.sizeOf98, Try.zeroValue98, trivial, by kernel_rfl⟩,
   ⟨⟨_, _, _, Try.underlying100⟩, Try.sizeOf100, Try.zeroValue100, trivial, by kernel_rfl⟩,
   ⟨⟨_, _, _, Try.underlying101⟩, Try.sizeOf101, Try.zeroValue101, trivial, by kernel_rfl⟩,
   ⟨⟨_, _, _, Try.underlying102⟩, Try.sizeOf102, Try.zeroValue102, trivial, by kernel_rfl⟩,
   ⟨⟨_, _, _, Try.underlying103⟩, Try.sizeOf103, Try.zeroValue103, trivial, by kernel_rfl⟩,
   ⟨⟨_, _, _, Try.underlying104⟩, Try.sizeOf104, Try.zeroValue104, trivial, by kernel_rfl⟩,
   ⟨⟨_, _, _, Try.underlying106⟩, Try.sizeOf106, Try.zeroValue106, trivial, by kernel_rfl⟩,
   ⟨⟨_, _, _, Try.underlying107⟩, Try.sizeOf107, Try.zeroValue107, trivial, by kernel_rfl⟩,
   ⟨⟨_, Try.underlying108, rfl, rfl, Try.sizeOf43, rfl, rfl, rfl, Try.sizeOf44, rfl, trivial⟩, Try.sizeOf108, Try.zeroValue108, (by show Try.prog.stoodInHeld 108 = false; kernel_rfl), by kernel_rfl⟩,
   ⟨Try.underlying109, Try.sizeOf109, Try.zeroValue109, trivial, by kernel_rfl⟩,
   ⟨⟨_, _, _, Try.underlying110⟩, Try.sizeOf110, Try.zeroValue110, trivial, by kernel_rfl⟩,
   ⟨Try.underlying111, Try.sizeOf111, Try.zeroValue111, trivial, by kernel_rfl⟩,
   ⟨⟨_, _, _, Try.underlying112⟩, Try.sizeOf112, Try.zeroValue112, trivial, by kernel_rfl⟩,
   ⟨⟨_, _, _, Try.underlying113⟩, Try.sizeOf113, Try.zeroValue113, trivial, by kernel_rfl⟩,
   ⟨⟨_, _, _, Try.underlying114⟩, Try.sizeOf114, Try.zeroValue114, trivial, by kernel_rfl⟩,
   ⟨Try.underlying115, Try.sizeOf115, Try.zeroValue115, trivial, by kernel_rfl⟩,
   ⟨Try.underlying116, Try.sizeOf116, Try.zeroValue116, trivial, by kernel_rfl⟩,
   ⟨⟨_, _, _, Try.underlying117⟩, Try.sizeOf117, Try.zeroValue117, trivial, by kernel_rfl⟩,
   ⟨Try.underlying118, Try.sizeOf118, Try.zeroValue118, trivial, by kernel_rfl⟩,
   ⟨⟨_, Try.underlying119, rfl, rfl, Try.sizeOf3, rfl, rfl, rfl, Try.sizeOf3, rfl, rfl, rfl, Try.sizeOf43, rfl, trivial⟩, Try.sizeOf119, Try.zeroValue119, (by show Try.prog.stoodInHeld 119 = false; kernel_rfl), by kernel_rfl⟩,
   ⟨⟨_, Try.underlying120, rfl, rfl, Try.sizeOf3, rfl, rfl, rfl, Try.sizeOf3, rfl, rfl, rfl, Try.sizeOf43, rfl, trivial⟩, Try.sizeOf120, Try.zeroValue120, (by show Try.prog.stoodInHeld 120 = false; kernel_rfl), by kernel_rfl⟩,
   ⟨⟨_, _, _, Try.underlying121⟩, Try.sizeOf121, Try.zeroValue121, trivial, by kernel_rfl⟩,
   ⟨⟨_, _, _, Try.underlying122⟩, Try.sizeOf122, Try.zeroValue122, trivial, by kernel_rfl⟩,
   ⟨⟨_, _, _, Try.underlying123⟩, Try.sizeOf123, Try.zeroValue123, trivial, by kernel_rfl⟩,
   ⟨⟨_, _, _, Try.underlying124⟩, Try.sizeOf124, Try.zeroValue124, trivial, by kernel_rfl⟩,
   ⟨⟨_, _, _, Try.underlying125⟩, Try.sizeOf125, Try.zeroValue125, trivial, by kernel_rfl⟩,
   ⟨⟨_, _, _, Try.underlying126⟩, Try.sizeOf126, Try.zeroValue126, trivial, by kernel_rfl⟩,
   ⟨⟨_, _, _, Try.underlying127⟩, Try.sizeOf127, Try.zeroValue127, trivial, by kernel_rfl⟩,
   ⟨⟨_, _, _, Try.underlying128⟩, Try.sizeOf128, Try.zeroValue128, trivial, by kernel_rfl⟩,
   ⟨⟨_, _, _, Try.underlying129⟩, Try.sizeOf129, Try.zeroValue129, trivial, by kernel_rfl⟩,
   ⟨⟨_, _, _, Try.underlying130⟩, Try.sizeOf130, Try.zeroValue130, trivial, by kernel_rfl⟩,
   ⟨⟨_, _, _, Try.underlying131⟩, Try.sizeOf131, Try.zeroValue131, trivial, by kernel_rfl⟩,
   ⟨⟨_, _, _, Try.underlying132⟩, Try.sizeOf132, Try.zeroValue132, trivial, by kernel_rfl⟩,
   ⟨⟨_, _, _, Try.underlying134⟩, Try.sizeOf134, Try.zeroValue134, trivial, by kernel_rfl⟩,
   ⟨⟨_, _, _, Try.underlying135⟩, Try.sizeOf135, Try.zeroValue135, trivial, by kernel_rfl⟩,
   ⟨⟨_, _, _, Try.underlying136⟩, Try.sizeOf136, Try.zeroValue136, trivial, by kernel_rfl⟩,
   ⟨⟨_, Try.underlying137, rfl, rfl, Try.sizeOf3, rfl, rfl, rfl, Try.sizeOf3, rfl, rfl, rfl, Try.sizeOf3, rfl, trivial⟩, Try.sizeOf137, Try.zeroValue137, (by show Try.prog.stoodInHeld 137 = false; kernel_rfl), by kernel_rfl⟩,
   ⟨⟨_, Try.underlying138, rfl, rfl, Try.sizeOf3, rfl, rfl, rfl, Try.sizeOf3, rfl, rfl, rfl, Try.sizeOf3, rfl, trivial⟩, Try.sizeOf138, Try.zeroValue138, (by show Try.prog.stoodInHeld 138 = false; kernel_rfl), by kernel_rfl⟩,
   ⟨Try.underlying139, Try.sizeOf139, Try.zeroValue139, trivial, by kernel_rfl⟩,
   ⟨⟨_, _, _, Try.underlying140⟩, Try.sizeOf140, Try.zeroValue140, trivial, by kernel_rfl⟩,
   ⟨⟨_, _, _, Try.underlying141⟩, Try.sizeOf141, Try.zeroValue141, trivial, by kernel_rfl⟩,
   ⟨⟨_, _, _, Try.underlying142⟩, Try.sizeOf142, Try.zeroValue142, trivial, by kernel_rfl⟩,
   ⟨⟨_, _, _, Try.underlying143⟩, Try.sizeOf143, Try.zeroValue143, trivial, by kernel_rfl⟩,
   ⟨Try.underlying144, Try.sizeOf144, Try.zeroValue144, trivial, by kernel_rfl⟩,
   ⟨⟨_, _, _, Try.underlying145⟩, Try.sizeOf145, Try.zeroValue145, trivial, by kernel_rfl⟩,
   ⟨⟨_, _, _, Try.underlying146⟩, Try.sizeOf146, Try.zeroValue146, trivial, by kernel_rfl⟩,
   ⟨Try.underlying147, Try.sizeOf147, Try.zeroValue147, trivial, by kernel_rfl⟩,
   ⟨⟨_, _, _, Try.underlying148⟩, Try.sizeOf148, Try.zeroValue148, trivial, by kernel_rfl⟩,
   ⟨⟨_, _, _, Try.underlying149⟩, Try.sizeOf149, Try.zeroValue149, trivial, by kernel_rfl⟩,
   ⟨⟨_, _, _, Try.underlying150⟩, Try.sizeOf150, Try.zeroValue150, trivial, by kernel_rfl⟩,
   ⟨⟨_, _, _, Try.underlying151⟩, Try.sizeOf151, Try.zeroValue151, trivial, by kernel_rfl⟩,
   ⟨⟨_, _, _, Try.underlying152⟩, Try.sizeOf152, Try.zeroValue152, trivial, by kernel_rfl⟩,
   ⟨Try.underlying153, Try.sizeOf153, Try.zeroValue153, trivial, by kernel_rfl⟩,
   ⟨⟨_, _, _, Try.underlying155⟩, Try.sizeOf155, Try.zeroValue155, trivial, by kernel_rfl⟩,
   ⟨⟨_, _, _, Try.underlying156⟩, Try.sizeOf156, Try.zeroValue156, trivial, by kernel_rfl⟩,
   ⟨⟨_, _, _, Try.underlying157⟩, Try.sizeOf157, Try.zeroValue157, trivial, by kernel_rfl⟩,
   ⟨⟨_, _, _, Try.underlying158⟩, Try.sizeOf158, Try.zeroValue158, trivial, by kernel_rfl⟩,
   ⟨⟨_, _, _, Try.underlying159⟩, Try.sizeOf159, Try.zeroValue159, trivial, by kernel_rfl⟩,
   ⟨Try.underlying160, Try.sizeOf160, Try.zeroValue160, trivial, by kernel_rfl⟩,
   ⟨⟨_, _, _, Try.underlying161⟩, Try.sizeOf161, Try.zeroValue161, trivial, by kernel_rfl⟩,
   ⟨Try.underlying162, Try.sizeOf162, Try.zeroValue162, trivial, by kernel_rfl⟩,
   ⟨⟨_, _, _, Try.underlying163⟩, Try.sizeOf163, Try.zeroValue163, trivial, by kernel_rfl⟩,
   ⟨⟨_, _, _, Try.underlying164⟩, Try.sizeOf164, Try.zeroValue164, trivial, by kernel_rfl⟩,
   ⟨⟨_, _, _, Try.underlying165⟩, Try.sizeOf165, Try.zeroValue165, trivial, by kernel_rfl⟩,
   ⟨Try.underlying166, Try.sizeOf166, Try.zeroValue166, trivial, by kernel_rfl⟩,
   ⟨⟨_, _, _, Try.underlying167⟩, Try.sizeOf167, Try.zeroValue167, trivial, by kernel_rfl⟩,
   ⟨Try.underlying168, Try.sizeOf168, Try.zeroValue168, trivial, by kernel_rfl⟩,
   ⟨⟨_, _, _, Try.underlying170⟩, Try.sizeOf170, Try.zeroValue170, trivial, by kernel_rfl⟩,
   ⟨⟨_, _, _, Try.underlying171⟩, Try.sizeOf171, Try.zeroValue171, trivial, by kernel_rfl⟩,
   ⟨Try.underlying177, Try.sizeOf177, Try.zeroValue177, trivial, by kernel_rfl⟩,
   ⟨Try.underlying178, Try.sizeOf178, Try.zeroValue178, trivial, by kernel_rfl⟩,
   ⟨⟨_, _, _, Try.underlying179⟩, Try.sizeOf179, Try.zeroValue179, trivial, by kernel_rfl⟩,
   ⟨Try.underlying180, Try.sizeOf180, Try.zeroValue180, trivial, by kernel_rfl⟩,
   ⟨Try.underlying181, Try.sizeOf181, Try.zeroValue181, trivial, by kernel_rfl⟩,
   ⟨Try.underlying182, Try.sizeOf182, Try.zeroValue182, trivial, by kernel_rfl⟩,
   ⟨⟨_, _, _, Try.underlying185⟩, Try.sizeOf185, Try.zeroValue185, trivial, by kernel_rfl⟩,
   trivial⟩
theorem fnsGood : FGoods Try.prog [3, 4, 5, 6, 7, 8, 9, 10, 11, 12, 13, 14, 15, 16, 17, 18, 19, 20, 21, 22, 23, 24, 25, 26, 27, 28, 29, 30, 31, 32, 33, 34, 35, 36, 37, 38, 39, 40, 41, 42, 43, 44, 45, 46, 47, 48, 49, 50, 51, 52, 53, 54, 55, 56, 57, 58, 59, 60, 61, 62, 63, 64, 65, 66, 67, 68, 69, 70, 71, 72, 73, 74, 75, 76, 77, 78, 79, 80, 81, 82, 83, 84, 85, 86, 87, 88, 89, 90, 91, 92, 93, 94, 95, 96] :=
  ⟨enters_of Try.func3 (by kernel_rfl) rfl,
   enters_of Try.func4 (by kernel_rfl) rfl,
   enters_of Try.func5 (by kernel_rfl) rfl,
   enters_of Try.func6 (by kernel_rfl) rfl,
   enters_of Try.func7 (by kernel_rfl) rfl,
   enters_of Try.func8 (by kernel_rfl) rfl,
   enters_of Try.func9 (by kernel_rfl) rfl,
   enters_of Try.func10 (by kernel_rfl) rfl,
   enters_of Try.func11 (by kernel_rfl) rfl,
   enters_of Try.func12 (by kernel_rfl) rfl,
   enters_of Try.func13 (by kernel_rfl) rfl,
   enters_of Try.func14 (by kernel_rfl) rfl,
   enters_of Try.func15 (by kernel_rfl) rfl,
   enters_of Try.func16 (by kernel_rfl) rfl,
   enters_of Try.func17 (by kernel_rfl) rfl,
   enters_of Try.func18 (by kernel_rfl) rfl,
   enters_of Try.func19 (by kernel_rfl) rfl,
   enters_of Try.func20 (by kernel_rfl) rfl,
   enters_of Try.func21 (by kernel_rfl) rfl,
   enters_of Try.func22 (by kernel_rfl) rfl,
   enters_of Try.func23 (by kernel_rfl) rfl,
   enters_of Try.func24 (by kernel_rfl) rfl,
   enters_of Try.func25 (by kernel_rfl) rfl,
   enters_of Try.func26 (by kernel_rfl) rfl,
   enters_of Try.func27 (by kernel_rfl) rfl,
   enters_of Try.func28 (by kernel_rfl) rfl,
   enters_of Try.func29 (by kernel_rfl) rfl,
   enters_of Try.func30 (by kernel_rfl) rfl,
   enters_of Try.func31 (by kernel_rfl) rfl,
   enters_of Try.func32 (by kernel_rfl) rfl,
   enters_of Try.func33 (by kernel_rfl) rfl,
   enters_of Try.func34 (by kernel_rfl) rfl,
   enters_of Try.func35 (by kernel_rfl) rfl,
   enters_of Try.func36 (by kernel_rfl) rfl,
   enters_of Try.func37 (by kernel_rfl) rfl,
   enters_of Try.func38 (by kernel_rfl) rfl,
   enters_of Try.func39 (by kernel_rfl) rfl,
   enters_of Try.func40 (by kernel_rfl) rfl,
   enters_of Try.func41 (by kernel_rfl) rfl,
   enters_of Try.func42 (by kernel_rfl) rfl,
   enters_of Try.func43 (by kernel_rfl) rfl,
   enters_of Try.func44 (by kernel_rfl) rfl,
   enters_of Try.func45 (by kernel_rfl) rfl,
   enters_of Try.func46 (by kernel_rfl) rfl,
   enters_of Try.func47 (by kernel_rfl) rfl,
   enters_of Try.func48 (by kernel_rfl) rfl,
   enters_of Try.func49 (by kernel_rfl) rfl,
   enters_of Try.func50 (by kernel_rfl) rfl,
   enters_of Try.func51 (by kernel_rfl) rfl,
   enters_of Try.func52 (by kernel_rfl) rfl,
   enters_of Try.func53 (by kernel_rfl) rfl,
   enters_of Try.func54 (by kernel_rfl) rfl,
   enters_of Try.func55 (by kernel_rfl) rfl,
   enters_of Try.func56 (by kernel_rfl) rfl,
   enters_of Try.func57 (by kernel_rfl) rfl,
   enters_of Try.func58 (by kernel_rfl) rfl,
   enters_of Try.func59 (by kernel_rfl) rfl,
   enters_of Try.func60 (by kernel_rfl) rfl,
   enters_of Try.func61 (by kernel_rfl) rfl,
   enters_of Try.func62 (by kernel_rfl) rfl,
   enters_of Try.func63 (by kernel_rfl) rfl,
   enters_of Try.func64 (by kernel_rfl) rfl,
   enters_of Try.func65 (by kernel_rfl) rfl,
   enters_of Try.func66 (by kernel_rfl) rfl,
   enters_of Try.func67 (by kernel_rfl) rfl,
   enters_of Try.func68 (by kernel_rfl) rfl,
   enters_of Try.func69 (by kernel_rfl) rfl,
   enters_of Try.func70 (by kernel_rfl) rfl,
   enters_of Try.func71 (by kernel_rfl) rfl,
   enters_of Try.func72 (by kernel_rfl) rfl,
   enters_of Try.func73 (by kernel_rfl) rfl,
   enters_of Try.func74 (by kernel_rfl) rfl,
   enters_of Try.func75 (by kernel_rfl) rfl,
   enters_of Try.func76 (by kernel_rfl) rfl,
   enters_of Try.func77 (by kernel_rfl) rfl,
   enters_of Try.func78 (by kernel_rfl) rfl,
   enters_of Try.func79 (by kernel_rfl) rfl,
   enters_of Try.func80 (by kernel_rfl) rfl,
   enters_of Try.func81 (by kernel_rfl) rfl,
   enters_of Try.func82 (by kernel_rfl) rfl,
   enters_of Try.func83 (by kernel_rfl) rfl,
   enters_of Try.func84 (by kernel_rfl) rfl,
   enters_of Try.func85 (by kernel_rfl) rfl,
   enters_of Try.func86 (by kernel_rfl) rfl,
   enters_of Try.func87 (by kernel_rfl) rfl,
   enters_of Try.func88 (by kernel_rfl) rfl,
   enters_of Try.func89 (by kernel_rfl) rfl,
   enters_of Try.func90 (by kernel_rfl) rfl,
   enters_of Try.func91 (by kernel_rfl) rfl,
   enters_of Try.func92 (by kernel_rfl) rfl,
   enters_of Try.func93 (by kernel_rfl) rfl,
   enters_of Try.func94 (by kernel_rfl) rfl,
   enters_of Try.func95 (by kernel_rfl) rfl,
   enters_of Try.func96 (by kernel_rfl) rfl, trivial⟩
theorem mixGood : Try.prog.follows .mixedOrders = true := by kernel_rfl
def tb : Tb Try.prog := { rows := rowsTab, good := rowsGood, fns := [3, 4, 5, 6, 7, 8, 9, 10, 11, 12, 13, 14, 15, 16, 17, 18, 19, 20, 21, 22, 23, 24, 25, 26, 27, 28, 29, 30, 31, 32, 33, 34, 35, 36, 37, 38, 39, 40, 41, 42, 43, 44, 45, 46, 47, 48, 49, 50, 51, 52, 53, 54, 55, 56, 57, 58, 59, 60, 61, 62, 63, 64, 65, 66, 67, 68, 69, 70, 71, 72, 73, 74, 75, 76, 77, 78, 79, 80, 81, 82, 83, 84, 85, 86, 87, 88, 89, 90, 91, 92, 93, 94, 95, 96], fgood := fnsGood, mix := mixGood, deep := Nat.le_of_ble_eq_true (by kernel_rfl) }
end Go.Proofs.Ytplhnkmmhndkjaa
set_option linter.unusedSimpArgs false
set_option linter.unusedVariables false
namespace Go.Proofs.Ytplhnkmmhndkjaa
open Go.RowKit Go.Shelf
set_option maxRecDepth 100000
structure Cl where
  id : Int
  roles : Int
  exp : Int
  ser : Int
  deriving DecidableEq
instance : Inhabited Cl := ⟨⟨0, 0, 0, 0⟩⟩
def Cl.v (c : Cl) : List Value := [.int .i64 c.id, .int .i64 c.roles, .int .i64 c.exp, .int .i64 c.ser]
def kvC (c : Cl) : Value := .agg ⟨[.int .i64 c.id, .int .i64 c.roles, .int .i64 c.exp, .int .i64 c.ser]⟩
def Cl.right (c : Cl) : Prop := 1 ≤ c.id ∧ c.id ≤ 65535 ∧ 0 ≤ c.roles ∧ c.roles ≤ 255 ∧ 0 ≤ c.exp ∧ c.exp ≤ 1073741824 ∧ 1 ≤ c.ser ∧ c.ser ≤ 65535
instance (c : Cl) : Decidable c.right := by unfold Cl.right; infer_instance

theorem spans_ok (a b c d : Int) : CallP Try.prog 69 [.agg ⟨[.int .i64 a, .int .i64 b, .int .i64 c, .int .i64 d]⟩]
    (.agg ⟨[.int .i64 a, .int .i64 1, .int .i64 65535, .int .i64 b, .int .i64 0, .int .i64 255, .int .i64 c, .int .i64 0, .int .i64 1073741824, .int .i64 d, .int .i64 1, .int .i64 65535]⟩) := by
  refine enterP (tb := tb) Try.func69 rfl Try.ntmps69 rfl fun w => ?_
  repeat' (first | (apply R.is1; first | (apply R.pure; exact rfl; first | (apply Ok1.fieldAddr; (iterate 5 exact rfl)) | (apply Ok1.load; exact rfl; first | (apply Ld.own1; exact rfl; exact rfl; (focus ((repeat' (first | exact At.head | apply At.tail | apply At.right)); done)); exact rfl) | (apply Ld.ownk; exact rfl; exact rfl; (focus ((repeat' (first | exact At.head | apply At.tail | apply At.right)); done)); exact rfl) | (apply Ld.old1; exact rfl; exact rfl; assumption; (first | exact List.not_mem_nil | assumption)) | (apply Ld.blk1; exact rfl; exact rfl; assumption; (first | exact List.not_mem_nil | assumption); exact rfl) | (apply Ld.blkk; exact rfl; exact rfl; assumption; (first | exact List.not_mem_nil | assumption); exact rfl)) | (apply Ok1.build; (iterate 5 exact rfl)) | (apply Ok1.buildA; (iterate 6 exact rfl))) | (apply R.box; (iterate 3 exact rfl); intro) | (apply R.alloc; (iterate 3 exact rfl); intro)) | (apply R.is0; first | (apply R.store; (iterate 6 exact rfl); (focus ((repeat' (first | exact Upd.head | apply Upd.tail | apply Upd.right)); done)); exact rfl) | fail) | (apply R.isG; first | (apply R.guard_run; exact rfl; exact rfl) | (apply R.guard_not; (iterate 3 exact rfl)) | (apply R.guard_not0; exact rfl; exact rfl) | (apply R.guard_un; (iterate 3 exact rfl)) | (apply R.guard_un0; exact rfl; exact rfl) | (apply R.guard rfl rfl ?_ (fun h => ⟨rfl, ?_⟩) <;> try intro)) | apply R.nil | (apply T.is; first | apply T.seq | apply T.region | apply T.block | apply T.scope | apply T.label | apply T.skip | apply T.exit | apply T.ret | (apply T.cond_t; exact rfl) | (apply T.cond_f; exact rfl) | (apply T.cond_h; exact rfl; assumption) | (apply T.cond_n; exact rfl; assumption) | (apply T.cond rfl <;> intro)) | apply Rnd.step)
  (apply RetOk.c; exact rfl; (first | (apply Ld.ownk; exact rfl; exact rfl; (focus ((repeat' (first | exact At.head | apply At.tail | apply At.right)); done)); exact rfl) | (apply Ld.own1; exact rfl; exact rfl; (focus ((repeat' (first | exact At.head | apply At.tail | apply At.right)); done)); exact rfl)))
  rfl
theorem check_ok (a b c d : Int) : CallP Try.prog 58 [.agg ⟨[.int .i64 a, .int .i64 b, .int .i64 c, .int .i64 d]⟩] (.int .i64 (if Cl.right ⟨a, b, c, d⟩ then 0 else 10)) := by
  refine enterP (tb := tb) Try.func58 rfl Try.ntmps58 rfl fun w => ?_
  repeat' (first | (apply R.is1; first | (apply R.isBin; first | (apply R.pure; exact rfl; first | (apply Ok1.add64; exact rfl; exact rfl; omega; omega) | (apply Ok1.lss_t; exact rfl; exact rfl; omega) | (apply Ok1.lss_f; exact rfl; exact rfl; omega) | (apply Ok1.leq_t; exact rfl; exact rfl; omega) | (apply Ok1.leq_f; exact rfl; exact rfl; omega) | (apply Ok1.geq_t; exact rfl; exact rfl; omega) | (apply Ok1.geq_f; exact rfl; exact rfl; omega)) | (apply R.lss rfl rfl rfl <;> intro) | (apply R.leq rfl rfl rfl <;> intro) | (apply R.geq rfl rfl rfl <;> intro)) | (apply R.isCall; first | apply R.callP rfl rfl rfl (spans_ok _ _ _ _)) | (apply R.pure; exact rfl; first | (apply Ok1.move; exact rfl) | (apply Ok1.fieldAddr; (iterate 5 exact rfl)) | (apply Ok1.load; exact rfl; first | (apply Ld.own1; exact rfl; exact rfl; (focus ((repeat' (first | exact At.head | apply At.tail | apply At.right)); done)); exact rfl) | (apply Ld.ownk; exact rfl; exact rfl; (focus ((repeat' (first | exact At.head | apply At.tail | apply At.right)); done)); exact rfl) | (apply Ld.old1; exact rfl; exact rfl; assumption; (first | exact List.not_mem_nil | assumption)) | (apply Ld.blk1; exact rfl; exact rfl; assumption; (first | exact List.not_mem_nil | assumption); exact rfl) | (apply Ld.blkk; exact rfl; exact rfl; assumption; (first | exact List.not_mem_nil | assumption); exact rfl)) | (apply Ok1.assign; exact rfl) | (apply Ok1.pick_t; exact rfl; exact rfl) | (apply Ok1.pick_f; exact rfl; exact rfl) | (apply Ok1.pick_h; exact rfl; assumption; exact rfl) | (apply Ok1.pick_n; exact rfl; assumption; exact rfl) | (apply Ok1.index1; (iterate 6 exact rfl); omega; omega; exact rfl) | (apply Ok1.indexk; (iterate 6 exact rfl); omega; omega; exact rfl)) | (apply R.box; (iterate 3 exact rfl); intro) | (apply R.alloc; (iterate 3 exact rfl); intro)) | (apply R.is0; first | (apply R.store; (iterate 6 exact rfl); (focus ((repeat' (first | exact Upd.head | apply Upd.tail | apply Upd.right)); done)); exact rfl) | fail) | (apply R.isG; first | (apply R.guard_run; exact rfl; exact rfl) | (apply R.guard_not; (iterate 3 exact rfl)) | (apply R.guard_not0; exact rfl; exact rfl) | (apply R.guard_un; (iterate 3 exact rfl)) | (apply R.guard_un0; exact rfl; exact rfl) | (apply R.guard rfl rfl ?_ (fun h => ⟨rfl, ?_⟩) <;> try intro)) | apply R.nil | (apply T.is; first | apply T.rounds 5 | apply T.seq | apply T.region | apply T.block | apply T.scope | apply T.label | apply T.skip | apply T.exit | apply T.ret | (apply T.cond_t; exact rfl) | (apply T.cond_f; exact rfl) | (apply T.cond_h; exact rfl; assumption) | (apply T.cond_n; exact rfl; assumption) | (apply T.cond rfl <;> intro)) | apply Rnd.step)
  all_goals (apply RetOk.t; exact rfl)
  all_goals first | rw [if_pos (by simp only [Cl.right]; omega)] | rw [if_neg (by simp only [Cl.right]; omega)]

def cmpI (x y : Int) : Int := if x < y then -1 else if y < x then 1 else 0
theorem isNaN_ok (x : Int) : CallP Try.prog 73 [.int .i64 x] (.bool false) := by
  refine enterP (tb := tb) Try.func73 rfl Try.ntmps73 rfl fun w => ?_
  repeat' (first | (apply R.is1; first | (apply R.isBin; first | (apply R.pure; exact rfl; first | (apply Ok1.neq_t; exact rfl; exact rfl; omega) | (apply Ok1.neq_f; exact rfl; exact rfl; omega) | (apply Ok1.neqP; (iterate 5 exact rfl)) | (apply Ok1.neqM; (iterate 5 exact rfl)) | (apply Ok1.neqS; (iterate 5 exact rfl))) | (apply R.neq rfl rfl rfl <;> intro) | (apply R.neqF; (iterate 8 exact rfl); all_goals intro)) | (apply R.pure; exact rfl; first | (apply Ok1.move; exact rfl) | (apply Ok1.assign; exact rfl))) | (apply R.is0; first | fail) | (apply R.isG; first | (apply R.guard_run; exact rfl; exact rfl) | (apply R.guard_not; (iterate 3 exact rfl)) | (apply R.guard_not0; exact rfl; exact rfl) | (apply R.guard_un; (iterate 3 exact rfl)) | (apply R.guard_un0; exact rfl; exact rfl) | (apply R.guard rfl rfl ?_ (fun h => ⟨rfl, ?_⟩) <;> try intro)) | apply R.nil | (apply T.is; first | apply T.seq | apply T.region | apply T.block | apply T.scope | apply T.label | apply T.skip | apply T.exit | apply T.ret | (apply T.cond_t; exact rfl) | (apply T.cond_f; exact rfl) | (apply T.cond_h; exact rfl; assumption) | (apply T.cond_n; exact rfl; assumption) | (apply T.cond rfl <;> intro)) | apply Rnd.step)
  (apply RetOk.t; exact rfl)
  rfl
theorem cmp_ok (x y : Int) : CallP Try.prog 63 [.int .i64 x, .int .i64 y] (.int .i64 (cmpI x y)) := by
  refine enterP (tb := tb) Try.func63 rfl Try.ntmps63 rfl fun w => ?_
  repeat' (first | (apply R.is1; first | (apply R.isBin; first | (apply R.pure; exact rfl; first | (apply Ok1.lss_t; exact rfl; exact rfl; omega) | (apply Ok1.lss_f; exact rfl; exact rfl; omega) | (apply Ok1.gtr_t; exact rfl; exact rfl; omega) | (apply Ok1.gtr_f; exact rfl; exact rfl; omega)) | (apply R.lss rfl rfl rfl <;> intro) | (apply R.gtr rfl rfl rfl <;> intro)) | (apply R.isCall; first | apply R.callP rfl rfl rfl (isNaN_ok _)) | (apply R.pure; exact rfl; first | (apply Ok1.move; exact rfl) | (apply Ok1.assign; exact rfl))) | (apply R.is0; first | fail) | (apply R.isG; first | (apply R.guard_run; exact rfl; exact rfl) | (apply R.guard_not; (iterate 3 exact rfl)) | (apply R.guard_not0; exact rfl; exact rfl) | (apply R.guard_un; (iterate 3 exact rfl)) | (apply R.guard_un0; exact rfl; exact rfl) | (apply R.guard rfl rfl ?_ (fun h => ⟨rfl, ?_⟩) <;> try intro)) | apply R.nil | (apply T.is; first | apply T.seq | apply T.region | apply T.block | apply T.scope | apply T.label | apply T.skip | apply T.exit | apply T.ret | (apply T.cond_t; exact rfl) | (apply T.cond_f; exact rfl) | (apply T.cond_h; exact rfl; assumption) | (apply T.cond_n; exact rfl; assumption) | (apply T.cond rfl <;> intro)) | apply Rnd.step)
  all_goals (apply RetOk.t; exact rfl)
  all_goals simp only [cmpI]
  all_goals first | rw [if_pos (by omega)] | (rw [if_neg (by omega), if_pos (by omega)]) | (rw [if_neg (by omega), if_neg (by omega)])
def or4 (a b c d : Int) : Int := if a ≠ 0 then a else if b ≠ 0 then b else if c ≠ 0 then c else d
theorem or_ok (a b c d : Int) (bl e : Nat) (w : World) (hb : w.heap[bl]? = some (.cells ⟨[.int .i64 a, .int .i64 b, .int .i64 c, .int .i64 d]⟩ e (0, 0))) :
    CallW Try.prog 62 [.slice (some ⟨bl, 0, none⟩) 4 4] w fun v _ => v = .int .i64 (or4 a b c d) := by
  refine enterW (tb := tb) Try.func62 rfl Try.ntmps62 rfl ?_
  repeat' (first | (apply R.is1; first | (apply R.isBin; first | (apply R.pure; exact rfl; first | (apply Ok1.add64; exact rfl; exact rfl; omega; omega) | (apply Ok1.lss_t; exact rfl; exact rfl; omega) | (apply Ok1.lss_f; exact rfl; exact rfl; omega) | (apply Ok1.neq_t; exact rfl; exact rfl; omega) | (apply Ok1.neq_f; exact rfl; exact rfl; omega) | (apply Ok1.neqP; (iterate 5 exact rfl)) | (apply Ok1.neqM; (iterate 5 exact rfl)) | (apply Ok1.neqS; (iterate 5 exact rfl))) | (apply R.lss rfl rfl rfl <;> intro) | (apply R.neq rfl rfl rfl <;> intro) | (apply R.neqF; (iterate 8 exact rfl); all_goals intro)) | (apply R.isCall; first | (apply R.pure; exact rfl; first | (apply Ok1.lenS; (iterate 3 exact rfl)) | (apply Ok1.lenStr; (iterate 3 exact rfl)) | (apply Ok1.lenMm; (iterate 3 exact rfl); (focus ((repeat' (first | exact At.head | apply At.tail | apply At.right)); done))) | (apply Ok1.lenM_nil; (iterate 3 exact rfl)))) | (apply R.pure; exact rfl; first | (apply Ok1.move; exact rfl) | (apply Ok1.load; exact rfl; first | (apply Ld.own1; exact rfl; exact rfl; (focus ((repeat' (first | exact At.head | apply At.tail | apply At.right)); done)); exact rfl) | (apply Ld.ownk; exact rfl; exact rfl; (focus ((repeat' (first | exact At.head | apply At.tail | apply At.right)); done)); exact rfl) | (apply Ld.old1; exact rfl; exact rfl; assumption; (first | exact List.not_mem_nil | assumption)) | (apply Ld.blk1; exact rfl; exact rfl; assumption; (first | exact List.not_mem_nil | assumption); exact rfl) | (apply Ld.blkk; exact rfl; exact rfl; assumption; (first | exact List.not_mem_nil | assumption); exact rfl)) | (apply Ok1.assign; exact rfl) | (apply Ok1.indexAddr; (iterate 5 exact rfl); omega; omega) | (apply Ok1.indexAddrA; (iterate 5 exact rfl); omega; omega))) | (apply R.is0; first | fail) | (apply R.isG; first | (apply R.guard_run; exact rfl; exact rfl) | (apply R.guard_not; (iterate 3 exact rfl)) | (apply R.guard_not0; exact rfl; exact rfl) | (apply R.guard_un; (iterate 3 exact rfl)) | (apply R.guard_un0; exact rfl; exact rfl) | (apply R.guard rfl rfl ?_ (fun h => ⟨rfl, ?_⟩) <;> try intro)) | apply R.nil | (apply T.is; first | apply T.rounds 5 | apply T.seq | apply T.region | apply T.block | apply T.scope | apply T.label | apply T.skip | apply T.exit | apply T.ret | (apply T.cond_t; exact rfl) | (apply T.cond_f; exact rfl) | (apply T.cond_h; exact rfl; assumption) | (apply T.cond_n; exact rfl; assumption) | (apply T.cond rfl <;> intro)) | apply Rnd.step)
  all_goals (apply RetOk.t; exact rfl)
  all_goals simp only [or4]
  all_goals first | (rw [if_pos (by omega)]; done) | (rw [if_neg (by omega), if_pos (by omega)]; done) | (rw [if_neg (by omega), if_neg (by omega), if_pos (by omega)]; done) | (rw [if_neg (by omega), if_neg (by omega), if_neg (by omega)]; first | done | (congr 1; omega))
end Go.Proofs.Ytplhnkmmhndkjaa
set_option linter.unusedSimpArgs false
set_option linter.unusedVariables false
namespace Go.Proofs.Ytplhnkmmhndkjaa
open Go.RowKit Go.Shelf
set_option maxRecDepth 100000
def cmpCl (c d : Cl) : Int := if c = d then 0 else or4 (cmpI c.ser d.ser) (cmpI c.id d.id) (cmpI c.exp d.exp) (cmpI c.roles d.roles)
theorem compare_ok (c d : Cl) : CallP Try.prog 45 [.agg ⟨[.int .i64 c.id, .int .i64 c.roles, .int .i64 c.exp, .int .i64 c.ser]⟩, .agg ⟨[.int .i64 d.id, .int .i64 d.roles, .int .i64 d.exp, .int .i64 d.ser]⟩] (.int .i64 (cmpCl c d)) := by
  refine enterP (tb := tb) Try.func45 rfl Try.ntmps45 rfl fun w => ?_
  repeat' (first | (apply R.is1; first | (apply R.isBin; first | (apply R.pure; exact rfl; first | (apply Ok1.eql_t; exact rfl; exact rfl; omega) | (apply Ok1.eql_f; exact rfl; exact rfl; omega) | (apply Ok1.eqlP; (iterate 5 exact rfl)) | (apply Ok1.eqlM; (iterate 5 exact rfl)) | (apply Ok1.eqlS; (iterate 5 exact rfl))) | (apply R.eql rfl rfl rfl <;> intro) | (apply R.eqlF; (iterate 8 exact rfl); all_goals intro)) | (apply R.isCall; first | apply R.callP rfl rfl rfl (cmp_ok _ _) | (apply R.callV; (iterate 3 exact rfl); (intro w1 hw1; exact or_ok _ _ _ _ _ _ _ (hw1.get _ _ (At.mem (by (focus ((repeat' (first | exact At.head | apply At.tail | apply At.right)); done)))))))) | (apply R.pure; exact rfl; first | (apply Ok1.fieldAddr; (iterate 5 exact rfl)) | (apply Ok1.load; exact rfl; first | (apply Ld.own1; exact rfl; exact rfl; (focus ((repeat' (first | exact At.head | apply At.tail | apply At.right)); done)); exact rfl) | (apply Ld.ownk; exact rfl; exact rfl; (focus ((repeat' (first | exact At.head | apply At.tail | apply At.right)); done)); exact rfl) | (apply Ld.old1; exact rfl; exact rfl; assumption; (first | exact List.not_mem_nil | assumption)) | (apply Ld.blk1; exact rfl; exact rfl; assumption; (first | exact List.not_mem_nil | assumption); exact rfl) | (apply Ld.blkk; exact rfl; exact rfl; assumption; (first | exact List.not_mem_nil | assumption); exact rfl)) | (apply Ok1.assign; exact rfl)) | (apply R.box; (iterate 3 exact rfl); intro) | (apply R.buildSlice; (iterate 12 exact rfl); intro)) | (apply R.is0; first | fail) | (apply R.isG; first | (apply R.guard_run; exact rfl; exact rfl) | (apply R.guard_not; (iterate 3 exact rfl)) | (apply R.guard_not0; exact rfl; exact rfl) | (apply R.guard_un; (iterate 3 exact rfl)) | (apply R.guard_un0; exact rfl; exact rfl) | (apply R.guard rfl rfl ?_ (fun h => ⟨rfl, ?_⟩) <;> try intro)) | apply R.nil | (apply T.is; first | (apply T.draw (id := 3); ((apply A.take 0; exact rfl; exact rfl; kernel_rfl; kernel_rfl; kernel_rfl; first | (apply Ok1.fieldAddr; (iterate 5 exact rfl))) <;> (apply A.take 1; exact rfl; exact rfl; kernel_rfl; kernel_rfl; kernel_rfl; first | (apply Ok1.load; exact rfl; first | (apply Ld.own1; exact rfl; exact rfl; (focus ((repeat' (first | exact At.head | apply At.tail | apply At.right)); done)); exact rfl) | (apply Ld.ownk; exact rfl; exact rfl; (focus ((repeat' (first | exact At.head | apply At.tail | apply At.right)); done)); exact rfl) | (apply Ld.old1; exact rfl; exact rfl; assumption; (first | exact List.not_mem_nil | assumption)) | (apply Ld.blk1; exact rfl; exact rfl; assumption; (first | exact List.not_mem_nil | assumption); exact rfl) | (apply Ld.blkk; exact rfl; exact rfl; assumption; (first | exact List.not_mem_nil | assumption); exact rfl))) <;> (apply A.take 2; exact rfl; exact rfl; kernel_rfl; kernel_rfl; kernel_rfl; first | (apply Ok1.fieldAddr; (iterate 5 exact rfl))) <;> (apply A.take 3; exact rfl; exact rfl; kernel_rfl; kernel_rfl; kernel_rfl; first | (apply Ok1.load; exact rfl; first | (apply Ld.own1; exact rfl; exact rfl; (focus ((repeat' (first | exact At.head | apply At.tail | apply At.right)); done)); exact rfl) | (apply Ld.ownk; exact rfl; exact rfl; (focus ((repeat' (first | exact At.head | apply At.tail | apply At.right)); done)); exact rfl) | (apply Ld.old1; exact rfl; exact rfl; assumption; (first | exact List.not_mem_nil | assumption)) | (apply Ld.blk1; exact rfl; exact rfl; assumption; (first | exact List.not_mem_nil | assumption); exact rfl) | (apply Ld.blkk; exact rfl; exact rfl; assumption; (first | exact List.not_mem_nil | assumption); exact rfl))) <;> (apply A.take 5; exact rfl; exact rfl; kernel_rfl; kernel_rfl; kernel_rfl; first | (apply Ok1.fieldAddr; (iterate 5 exact rfl))) <;> (apply A.take 6; exact rfl; exact rfl; kernel_rfl; kernel_rfl; kernel_rfl; first | (apply Ok1.load; exact rfl; first | (apply Ld.own1; exact rfl; exact rfl; (focus ((repeat' (first | exact At.head | apply At.tail | apply At.right)); done)); exact rfl) | (apply Ld.ownk; exact rfl; exact rfl; (focus ((repeat' (first | exact At.head | apply At.tail | apply At.right)); done)); exact rfl) | (apply Ld.old1; exact rfl; exact rfl; assumption; (first | exact List.not_mem_nil | assumption)) | (apply Ld.blk1; exact rfl; exact rfl; assumption; (first | exact List.not_mem_nil | assumption); exact rfl) | (apply Ld.blkk; exact rfl; exact rfl; assumption; (first | exact List.not_mem_nil | assumption); exact rfl))) <;> (apply A.take 7; exact rfl; exact rfl; kernel_rfl; kernel_rfl; kernel_rfl; first | (apply Ok1.fieldAddr; (iterate 5 exact rfl))) <;> (apply A.take 8; exact rfl; exact rfl; kernel_rfl; kernel_rfl; kernel_rfl; first | (apply Ok1.load; exact rfl; first | (apply Ld.own1; exact rfl; exact rfl; (focus ((repeat' (first | exact At.head | apply At.tail | apply At.right)); done)); exact rfl) | (apply Ld.ownk; exact rfl; exact rfl; (focus ((repeat' (first | exact At.head | apply At.tail | apply At.right)); done)); exact rfl) | (apply Ld.old1; exact rfl; exact rfl; assumption; (first | exact List.not_mem_nil | assumption)) | (apply Ld.blk1; exact rfl; exact rfl; assumption; (first | exact List.not_mem_nil | assumption); exact rfl) | (apply Ld.blkk; exact rfl; exact rfl; assumption; (first | exact List.not_mem_nil | assumption); exact rfl))) <;> (apply A.take 10; exact rfl; exact rfl; kernel_rfl; kernel_rfl; kernel_rfl; first | (apply Ok1.fieldAddr; (iterate 5 exact rfl))) <;> (apply A.take 11; exact rfl; exact rfl; kernel_rfl; kernel_rfl; kernel_rfl; first | (apply Ok1.load; exact rfl; first | (apply Ld.own1; exact rfl; exact rfl; (focus ((repeat' (first | exact At.head | apply At.tail | apply At.right)); done)); exact rfl) | (apply Ld.ownk; exact rfl; exact rfl; (focus ((repeat' (first | exact At.head | apply At.tail | apply At.right)); done)); exact rfl) | (apply Ld.old1; exact rfl; exact rfl; assumption; (first | exact List.not_mem_nil | assumption)) | (apply Ld.blk1; exact rfl; exact rfl; assumption; (first | exact List.not_mem_nil | assumption); exact rfl) | (apply Ld.blkk; exact rfl; exact rfl; assumption; (first | exact List.not_mem_nil | assumption); exact rfl))) <;> (apply A.take 12; exact rfl; exact rfl; kernel_rfl; kernel_rfl; kernel_rfl; first | (apply Ok1.fieldAddr; (iterate 5 exact rfl))) <;> (apply A.take 13; exact rfl; exact rfl; kernel_rfl; kernel_rfl; kernel_rfl; first | (apply Ok1.load; exact rfl; first | (apply Ld.own1; exact rfl; exact rfl; (focus ((repeat' (first | exact At.head | apply At.tail | apply At.right)); done)); exact rfl) | (apply Ld.ownk; exact rfl; exact rfl; (focus ((repeat' (first | exact At.head | apply At.tail | apply At.right)); done)); exact rfl) | (apply Ld.old1; exact rfl; exact rfl; assumption; (first | exact List.not_mem_nil | assumption)) | (apply Ld.blk1; exact rfl; exact rfl; assumption; (first | exact List.not_mem_nil | assumption); exact rfl) | (apply Ld.blkk; exact rfl; exact rfl; assumption; (first | exact List.not_mem_nil | assumption); exact rfl))) <;> (apply A.take 15; exact rfl; exact rfl; kernel_rfl; kernel_rfl; kernel_rfl; first | (apply Ok1.fieldAddr; (iterate 5 exact rfl))) <;> (apply A.take 16; exact rfl; exact rfl; kernel_rfl; kernel_rfl; kernel_rfl; first | (apply Ok1.load; exact rfl; first | (apply Ld.own1; exact rfl; exact rfl; (focus ((repeat' (first | exact At.head | apply At.tail | apply At.right)); done)); exact rfl) | (apply Ld.ownk; exact rfl; exact rfl; (focus ((repeat' (first | exact At.head | apply At.tail | apply At.right)); done)); exact rfl) | (apply Ld.old1; exact rfl; exact rfl; assumption; (first | exact List.not_mem_nil | assumption)) | (apply Ld.blk1; exact rfl; exact rfl; assumption; (first | exact List.not_mem_nil | assumption); exact rfl) | (apply Ld.blkk; exact rfl; exact rfl; assumption; (first | exact List.not_mem_nil | assumption); exact rfl))) <;> (apply A.take 17; exact rfl; exact rfl; kernel_rfl; kernel_rfl; kernel_rfl; first | (apply Ok1.fieldAddr; (iterate 5 exact rfl))) <;> (apply A.take 18; exact rfl; exact rfl; kernel_rfl; kernel_rfl; kernel_rfl; first | (apply Ok1.load; exact rfl; first | (apply Ld.own1; exact rfl; exact rfl; (focus ((repeat' (first | exact At.head | apply At.tail | apply At.right)); done)); exact rfl) | (apply Ld.ownk; exact rfl; exact rfl; (focus ((repeat' (first | exact At.head | apply At.tail | apply At.right)); done)); exact rfl) | (apply Ld.old1; exact rfl; exact rfl; assumption; (first | exact List.not_mem_nil | assumption)) | (apply Ld.blk1; exact rfl; exact rfl; assumption; (first | exact List.not_mem_nil | assumption); exact rfl) | (apply Ld.blkk; exact rfl; exact rfl; assumption; (first | exact List.not_mem_nil | assumption); exact rfl))) <;> (apply A.one 4; kernel_rfl; exact rfl; ((first | apply R.callP rfl rfl rfl (cmp_ok _ _) | (apply R.callV; (iterate 3 exact rfl); (intro w1 hw1; exact or_ok _ _ _ _ _ _ _ (hw1.get _ _ (At.mem (by (focus ((repeat' (first | exact At.head | apply At.tail | apply At.right)); done))))))) | (apply R.pure; exact rfl; first | (apply Ok1.lenS; (iterate 3 exact rfl)) | (apply Ok1.lenStr; (iterate 3 exact rfl)) | (apply Ok1.lenMm; (iterate 3 exact rfl); (focus ((repeat' (first | exact At.head | apply At.tail | apply At.right)); done))) | (apply Ok1.lenM_nil; (iterate 3 exact rfl)) | (apply Ok1.max2; exact rfl; exact rfl) | (apply Ok1.min2; exact rfl; exact rfl)))); apply R.nil; refine ⟨?_, ?_⟩; (focus ((repeat' (first | exact trivial | (refine ⟨?_, ?_⟩; (focus ((repeat' (first | exact At.head | apply At.tail | apply At.right)); done)))))))) <;> (apply A.one 9; kernel_rfl; exact rfl; ((first | apply R.callP rfl rfl rfl (cmp_ok _ _) | (apply R.callV; (iterate 3 exact rfl); (intro w1 hw1; exact or_ok _ _ _ _ _ _ _ (hw1.get _ _ (At.mem (by (focus ((repeat' (first | exact At.head | apply At.tail | apply At.right)); done))))))) | (apply R.pure; exact rfl; first | (apply Ok1.lenS; (iterate 3 exact rfl)) | (apply Ok1.lenStr; (iterate 3 exact rfl)) | (apply Ok1.lenMm; (iterate 3 exact rfl); (focus ((repeat' (first | exact At.head | apply At.tail | apply At.right)); done))) | (apply Ok1.lenM_nil; (iterate 3 exact rfl)) | (apply Ok1.max2; exact rfl; exact rfl) | (apply Ok1.min2; exact rfl; exact rfl)))); apply R.nil; refine ⟨?_, ?_⟩; (focus ((repeat' (first | exact trivial | (refine ⟨?_, ?_⟩; (focus ((repeat' (first | exact At.head | apply At.tail | apply At.right)); done)))))))) <;> (apply A.one 14; kernel_rfl; exact rfl; ((first | apply R.callP rfl rfl rfl (cmp_ok _ _) | (apply R.callV; (iterate 3 exact rfl); (intro w1 hw1; exact or_ok _ _ _ _ _ _ _ (hw1.get _ _ (At.mem (by (focus ((repeat' (first | exact At.head | apply At.tail | apply At.right)); done))))))) | (apply R.pure; exact rfl; first | (apply Ok1.lenS; (iterate 3 exact rfl)) | (apply Ok1.lenStr; (iterate 3 exact rfl)) | (apply Ok1.lenMm; (iterate 3 exact rfl); (focus ((repeat' (first | exact At.head | apply At.tail | apply At.right)); done))) | (apply Ok1.lenM_nil; (iterate 3 exact rfl)) | (apply Ok1.max2; exact rfl; exact rfl) | (apply Ok1.min2; exact rfl; exact rfl)))); apply R.nil; refine ⟨?_, ?_⟩; (focus ((repeat' (first | exact trivial | (refine ⟨?_, ?_⟩; (focus ((repeat' (first | exact At.head | apply At.tail | apply At.right)); done)))))))) <;> (apply A.one 19; kernel_rfl; exact rfl; ((first | apply R.callP rfl rfl rfl (cmp_ok _ _) | (apply R.callV; (iterate 3 exact rfl); (intro w1 hw1; exact or_ok _ _ _ _ _ _ _ (hw1.get _ _ (At.mem (by (focus ((repeat' (first | exact At.head | apply At.tail | apply At.right)); done))))))) | (apply R.pure; exact rfl; first | (apply Ok1.lenS; (iterate 3 exact rfl)) | (apply Ok1.lenStr; (iterate 3 exact rfl)) | (apply Ok1.lenMm; (iterate 3 exact rfl); (focus ((repeat' (first | exact At.head | apply At.tail | apply At.right)); done))) | (apply Ok1.lenM_nil; (iterate 3 exact rfl)) | (apply Ok1.max2; exact rfl; exact rfl) | (apply Ok1.min2; exact rfl; exact rfl)))); apply R.nil; refine ⟨?_, ?_⟩; (focus ((repeat' (first | exact trivial | (refine ⟨?_, ?_⟩; (focus ((repeat' (first | exact At.head | apply At.tail | apply At.right)); done)))))))) <;> (apply A.one 20; kernel_rfl; exact rfl; ((first | (apply R.buildSlice; (iterate 12 exact rfl); intro) | fail)); apply R.nil; refine ⟨?_, ?_⟩; (focus ((repeat' (first | exact trivial | (refine ⟨?_, ?_⟩; (focus ((repeat' (first | exact At.head | apply At.tail | apply At.right)); done)))))))) <;> (apply A.one 21; kernel_rfl; exact rfl; ((first | apply R.callP rfl rfl rfl (cmp_ok _ _) | (apply R.callV; (iterate 3 exact rfl); (intro w1 hw1; exact or_ok _ _ _ _ _ _ _ (hw1.get _ _ (At.mem (by (focus ((repeat' (first | exact At.head | apply At.tail | apply At.right)); done))))))) | (apply R.pure; exact rfl; first | (apply Ok1.lenS; (iterate 3 exact rfl)) | (apply Ok1.lenStr; (iterate 3 exact rfl)) | (apply Ok1.lenMm; (iterate 3 exact rfl); (focus ((repeat' (first | exact At.head | apply At.tail | apply At.right)); done))) | (apply Ok1.lenM_nil; (iterate 3 exact rfl)) | (apply Ok1.max2; exact rfl; exact rfl) | (apply Ok1.min2; exact rfl; exact rfl)))); apply R.nil; refine ⟨?_, ?_⟩; (focus ((repeat' (first | exact trivial | (refine ⟨?_, ?_⟩; (focus ((repeat' (first | exact At.head | apply At.tail | apply At.right)); done)))))))) <;> (apply A.take 22; exact rfl; exact rfl; kernel_rfl; kernel_rfl; kernel_rfl; first | (apply Ok1.assign; exact rfl)) <;> (apply A.done; kernel_rfl))) | apply T.seq | apply T.region | apply T.block | apply T.scope | apply T.label | apply T.skip | apply T.exit | apply T.ret | (apply T.cond_t; exact rfl) | (apply T.cond_f; exact rfl) | (apply T.cond_h; exact rfl; assumption) | (apply T.cond_n; exact rfl; assumption) | (apply T.cond rfl <;> intro)) | apply Rnd.step)
  all_goals (apply RetOk.t; exact rfl)
  all_goals simp only [cmpCl]
  · have h := ‹(_ : List Value) = _›
    simp only [List.cons.injEq, Value.int.injEq, true_and, and_true] at h
    rw [if_pos (by cases c; cases d; simp_all)]
  · have h := ‹(_ : List Value) ≠ _›
    simp only [ne_eq, List.cons.injEq, Value.int.injEq, true_and, and_true] at h
    rw [if_neg (by rintro rfl; exact h ⟨rfl, rfl, rfl, rfl⟩)]

end Go.Proofs.Ytplhnkmmhndkjaa
set_option linter.unusedSimpArgs false
set_option linter.unusedVariables false
namespace Go.Proofs.Ytplhnkmmhndkjaa
open Go.RowKit Go.Shelf
set_option maxRecDepth 100000
theorem len64_ok (x : Int) (h0 : 0 ≤ x) (h1 : x ≤ 18446744073709551615) : CallP Try.prog 90 [.int .u64 x] (.int .i64 (blen x.toNat)) := by
  refine enterP (tb := tb) Try.func90 rfl Try.ntmps90 rfl fun w => ?_
  repeat' (first | (apply R.is1; first | (apply R.isBin; first | (apply R.pure; exact rfl; first | (apply Ok1.add64; exact rfl; exact rfl; omega; omega) | (apply Ok1.geq_t; exact rfl; exact rfl; omega) | (apply Ok1.geq_f; exact rfl; exact rfl; omega) | (apply Ok1.shr; exact rfl; exact rfl; omega; exact Nat.le_of_ble_eq_true rfl; (first | exact pwE1 | exact pwE2 | exact pwE3 | exact pwE4 | exact pwE5 | exact pwE6 | exact pwE7 | exact pwE8 | exact pwE16 | exact pwE24 | exact pwE32 | exact rfl))) | (apply R.geq rfl rfl rfl <;> intro)) | (apply R.pure; exact rfl; first | (apply Ok1.len8; (iterate 4 exact rfl); omega; omega; kernel_rfl) | (apply Ok1.move; exact rfl) | (apply Ok1.assign; exact rfl) | (apply Ok1.index1; (iterate 6 exact rfl); omega; omega; exact rfl) | (apply Ok1.indexk; (iterate 6 exact rfl); omega; omega; exact rfl) | (apply Ok1.convI64; (iterate 5 exact rfl); omega; omega) | (apply Ok1.convU64; (iterate 5 exact rfl); omega; omega) | (apply Ok1.convU32; (iterate 5 exact rfl); omega; omega) | (apply Ok1.convU8; (iterate 5 exact rfl); omega; omega) | (apply Ok1.conv; (iterate 5 exact rfl)))) | (apply R.is0; first | fail) | (apply R.isG; first | (apply R.guard_run; exact rfl; exact rfl) | (apply R.guard_not; (iterate 3 exact rfl)) | (apply R.guard_not0; exact rfl; exact rfl) | (apply R.guard_un; (iterate 3 exact rfl)) | (apply R.guard_un0; exact rfl; exact rfl) | (apply R.guard rfl rfl ?_ (fun h => ⟨rfl, ?_⟩) <;> try intro)) | apply R.nil | (apply T.is; first | apply T.seq | apply T.region | apply T.block | apply T.scope | apply T.label | apply T.skip | apply T.exit | apply T.ret | (apply T.cond_t; exact rfl) | (apply T.cond_f; exact rfl) | (apply T.cond_h; exact rfl; assumption) | (apply T.cond_n; exact rfl; assumption) | (apply T.cond rfl <;> intro)) | apply Rnd.step)
  all_goals (apply RetOk.t; exact rfl)
  all_goals congr 1
  all_goals rw [Nat.min_eq_left (blen_le 8 (by omega))]
  all_goals first
    | (rw [blen32 (x := x.toNat) (by omega), blen16 (x := x.toNat / 4294967296) (by omega), blen8 (x := x.toNat / 4294967296 / 65536) (by omega), show (x / 4294967296 / 65536 / 256).toNat = x.toNat / 4294967296 / 65536 / 256 by omega]; omega)
    | (rw [blen32 (x := x.toNat) (by omega), blen16 (x := x.toNat / 4294967296) (by omega), show (x / 4294967296 / 65536).toNat = x.toNat / 4294967296 / 65536 by omega]; omega)
    | (rw [blen32 (x := x.toNat) (by omega), blen8 (x := x.toNat / 4294967296) (by omega), show (x / 4294967296 / 256).toNat = x.toNat / 4294967296 / 256 by omega]; omega)
    | (rw [blen32 (x := x.toNat) (by omega), show (x / 4294967296).toNat = x.toNat / 4294967296 by omega]; omega)
    | (rw [blen16 (x := x.toNat) (by omega), blen8 (x := x.toNat / 65536) (by omega), show (x / 65536 / 256).toNat = x.toNat / 65536 / 256 by omega]; omega)
    | (rw [blen16 (x := x.toNat) (by omega), show (x / 65536).toNat = x.toNat / 65536 by omega]; omega)
    | (rw [blen8 (x := x.toNat) (by omega), show (x / 256).toNat = x.toNat / 256 by omega]; omega)
    | omega
theorem len_ok (x : Int) (h0 : 0 ≤ x) (h1 : x ≤ 18446744073709551615) : CallP Try.prog 79 [.int .u64 x] (.int .i64 (blen x.toNat)) := by
  refine enterP (tb := tb) Try.func79 rfl Try.ntmps79 rfl fun w => ?_
  repeat' (first | (apply R.is1; first | (apply R.isCall; first | apply R.callP rfl rfl rfl (len64_ok _ (by omega) (by omega))) | (apply R.pure; exact rfl; first | (apply Ok1.move; exact rfl) | (apply Ok1.assign; exact rfl) | (apply Ok1.convI64; (iterate 5 exact rfl); omega; omega) | (apply Ok1.convU64; (iterate 5 exact rfl); omega; omega) | (apply Ok1.convU32; (iterate 5 exact rfl); omega; omega) | (apply Ok1.convU8; (iterate 5 exact rfl); omega; omega) | (apply Ok1.conv; (iterate 5 exact rfl)))) | (apply R.is0; first | fail) | (apply R.isG; first | (apply R.guard_run; exact rfl; exact rfl) | (apply R.guard_not; (iterate 3 exact rfl)) | (apply R.guard_not0; exact rfl; exact rfl) | (apply R.guard_un; (iterate 3 exact rfl)) | (apply R.guard_un0; exact rfl; exact rfl) | (apply R.guard rfl rfl ?_ (fun h => ⟨rfl, ?_⟩) <;> try intro)) | apply R.nil | (apply T.is; first | apply T.seq | apply T.region | apply T.block | apply T.scope | apply T.label | apply T.skip | apply T.exit | apply T.ret | (apply T.cond_t; exact rfl) | (apply T.cond_f; exact rfl) | (apply T.cond_h; exact rfl; assumption) | (apply T.cond_n; exact rfl; assumption) | (apply T.cond rfl <;> intro)) | apply Rnd.step)
  all_goals (apply RetOk.t; exact rfl)
  rfl
end Go.Proofs.Ytplhnkmmhndkjaa
set_option linter.unusedSimpArgs false
set_option linter.unusedVariables false
namespace Go.Proofs.Ytplhnkmmhndkjaa
open Go.RowKit Go.Shelf
set_option maxRecDepth 100000
structure Rm where
  kind : Int
  cl : Cl
  inc : Int
  deriving DecidableEq
def Rm.v (r : Rm) : List Value := [.int .i64 r.kind, .int .i64 r.cl.id, .int .i64 r.cl.roles, .int .i64 r.cl.exp, .int .i64 r.cl.ser, .int .i64 r.inc]
theorem Rm.v_len (r : Rm) : r.v.length = 6 := rfl
def Rm.chk (r : Rm) : Int := if r.kind < 0 ∨ 3 ≤ r.kind then 13 else if ¬ r.cl.right ∨ r.inc < 0 ∨ 2147483647 < r.inc then 10 else 0
theorem mcheck_ok (r : Rm) : CallP Try.prog 52 [.agg ⟨r.v⟩] (.int .i64 r.chk) := by
  refine enterP (tb := tb) Try.func52 rfl Try.ntmps52 rfl fun w => ?_
  simp only [Rm.v]
  repeat' (first | (apply R.is1; first | (apply R.isBin; first | (apply R.pure; exact rfl; first | (apply Ok1.lss_t; exact rfl; exact rfl; omega) | (apply Ok1.lss_f; exact rfl; exact rfl; omega) | (apply Ok1.gtr_t; exact rfl; exact rfl; omega) | (apply Ok1.gtr_f; exact rfl; exact rfl; omega) | (apply Ok1.geq_t; exact rfl; exact rfl; omega) | (apply Ok1.geq_f; exact rfl; exact rfl; omega) | (apply Ok1.neq_t; exact rfl; exact rfl; omega) | (apply Ok1.neq_f; exact rfl; exact rfl; omega) | (apply Ok1.neqP; (iterate 5 exact rfl)) | (apply Ok1.neqM; (iterate 5 exact rfl)) | (apply Ok1.neqS; (iterate 5 exact rfl))) | (apply R.lss rfl rfl rfl <;> intro) | (apply R.gtr rfl rfl rfl <;> intro) | (apply R.geq rfl rfl rfl <;> intro) | (apply R.neq rfl rfl rfl <;> intro) | (apply R.neqF; (iterate 8 exact rfl); all_goals intro)) | (apply R.isCall; first | apply R.callP rfl rfl rfl (check_ok _ _ _ _)) | (apply R.pure; exact rfl; first | (apply Ok1.move; exact rfl) | (apply Ok1.fieldAddr; (iterate 5 exact rfl)) | (apply Ok1.load; exact rfl; first | (apply Ld.own1; exact rfl; exact rfl; (focus ((repeat' (first | exact At.head | apply At.tail | apply At.right)); done)); exact rfl) | (apply Ld.ownk; exact rfl; exact rfl; (focus ((repeat' (first | exact At.head | apply At.tail | apply At.right)); done)); exact rfl) | (apply Ld.old1; exact rfl; exact rfl; assumption; (first | exact List.not_mem_nil | assumption)) | (apply Ld.blk1; exact rfl; exact rfl; assumption; (first | exact List.not_mem_nil | assumption); exact rfl) | (apply Ld.blkk; exact rfl; exact rfl; assumption; (first | exact List.not_mem_nil | assumption); exact rfl)) | (apply Ok1.assign; exact rfl) | (apply Ok1.pick_t; exact rfl; exact rfl) | (apply Ok1.pick_f; exact rfl; exact rfl) | (apply Ok1.pick_h; exact rfl; assumption; exact rfl) | (apply Ok1.pick_n; exact rfl; assumption; exact rfl)) | (apply R.box; (iterate 3 exact rfl); intro)) | (apply R.is0; first | fail) | (apply R.isG; first | (apply R.guard_run; exact rfl; exact rfl) | (apply R.guard_not; (iterate 3 exact rfl)) | (apply R.guard_not0; exact rfl; exact rfl) | (apply R.guard_un; (iterate 3 exact rfl)) | (apply R.guard_un0; exact rfl; exact rfl) | (apply R.guard rfl rfl ?_ (fun h => ⟨rfl, ?_⟩) <;> try intro)) | apply R.nil | (apply T.is; first | apply T.rounds 5 | apply T.seq | apply T.region | apply T.block | apply T.scope | apply T.label | apply T.skip | apply T.exit | apply T.ret | (apply T.cond_t; exact rfl) | (apply T.cond_f; exact rfl) | (apply T.cond_h; exact rfl; assumption) | (apply T.cond_n; exact rfl; assumption) | (apply T.cond rfl <;> intro)) | apply Rnd.step)
  all_goals (apply RetOk.t; exact rfl)
  all_goals simp only [Rm.chk]
  all_goals congr 1
  all_goals by_cases hr : r.cl.right
  all_goals have hr' : Cl.right ⟨r.cl.id, r.cl.roles, r.cl.exp, r.cl.ser⟩ ↔ r.cl.right := Iff.rfl
  all_goals simp only [hr', hr, if_true, if_false, ne_eq, not_true, not_false_eq_true, false_or, true_or] at *
  all_goals repeat' split
  all_goals first | rfl | omega
end Go.Proofs.Ytplhnkmmhndkjaa
set_option linter.unusedSimpArgs false
set_option linter.unusedVariables false
namespace Go.Proofs.Ytplhnkmmhndkjaa
open Go.RowKit Go.Shelf
def andI (k : IntKind) (x y : Int) : Int := k.wrap (BitVec.ofInt k.bits x &&& BitVec.ofInt k.bits y).toNat
def orI (k : IntKind) (x y : Int) : Int := k.wrap (BitVec.ofInt k.bits x ||| BitVec.ofInt k.bits y).toNat
def xorI (k : IntKind) (x y : Int) : Int := k.wrap (BitVec.ofInt k.bits x ^^^ BitVec.ofInt k.bits y).toNat
section
variable {X : Cx} {σ : Env} {L : Lst} {d : Option Nat} {ty ty2 t : TypeId} {pos : String} {af : Array Edge} {g : Option (Nat × Bool)} {x y : Operand} {i j : Int} {k : IntKind}
theorem Ok1.orK (hx : ev σ x = some (.int k i)) (hy : ev σ y = some (.int k j)) : Ok1 X ⟨d, .binOp .or t x y ty2, ty, pos, af, g⟩ σ L (.int k (orI k i j)) := .mk fun a w ha hw => by
  simp [execOp, ha.ev hx, ha.ev hy, eqGuard, binOp, Op.intBits, orI]
theorem Ok1.shl {k2 : IntKind} {m : Int} (hx : ev σ x = some (.int k i)) (hy : ev σ y = some (.int k2 j)) (h : 0 ≤ j) (h2 : j.toNat ≤ k.bits) (hm : pw j.toNat = m) : Ok1 X ⟨d, .binOp .shl t x y ty2, ty, pos, af, g⟩ σ L (.int k (k.wrap (i * m))) := .mk fun a w ha hw => by
  have : ¬ j < 0 := by omega
  rw [← hm, pw_eq]
  simp [execOp, ha.ev hx, ha.ev hy, eqGuard, binOp, Op.shift, this, Nat.min_eq_left h2]
theorem wrap_u64 {i : Int} (h1 : 0 ≤ i) (h2 : i ≤ 18446744073709551615) : IntKind.u64.wrap i = i := IntWalk.u64_in i ⟨h1, h2⟩
end
end Go.Proofs.Ytplhnkmmhndkjaa
set_option linter.unusedSimpArgs false
set_option linter.unusedVariables false
namespace Go.Proofs.Ytplhnkmmhndkjaa
open Go.RowKit Go.Shelf
def wr (i : Int) : Int := IntKind.u32.wrap i
def rotr (x p q : Int) : Int := orI .u32 (wr (x * q)) (x / p)
def turned (x p1 q1 p2 q2 p3 q3 : Int) : Int := xorI .u32 (xorI .u32 (rotr x p1 q1) (rotr x p2 q2)) (rotr x p3 q3)
def chI (a b c : Int) : Int := xorI .u32 (andI .u32 a b) (andI .u32 (xorI .u32 4294967295 a) c)
def majI (a b c : Int) : Int := xorI .u32 (xorI .u32 (andI .u32 a b) (andI .u32 a c)) (andI .u32 b c)
/-- Four bytes, the highest first. -/
def wordI (a b c d : Int) : Int := a * 16777216 + b * 65536 + c * 256 + d
structure H8 where
  a : Int
  b : Int
  c : Int
  d : Int
  e : Int
  f : Int
  g : Int
  h : Int
def H8.l (s : H8) : List Int := [s.a, s.b, s.c, s.d, s.e, s.f, s.g, s.h]
def u32s (l : List Int) : List Value := l.map (.int .u32)
def u8s (l : List Int) : List Value := l.map (.int .u8)
def H8.v (s : H8) : List Value := u32s s.l
def oneI (s : H8) (k w : Int) : Int := wr (wr (wr (wr (s.h + turned s.e 64 67108864 2048 2097152 33554432 128) + chI s.e s.f s.g) + k) + w)
def twoI (s : H8) : Int := wr (turned s.a 4 1073741824 8192 524288 4194304 1024 + majI s.a s.b s.c)
def stepI (s : H8) (k w : Int) : H8 := ⟨wr (oneI s k w + twoI s), s.a, s.b, s.c, wr (s.d + oneI s k w), s.e, s.f, s.g⟩
def addH (s t : H8) : H8 := ⟨wr (s.a + t.a), wr (s.b + t.b), wr (s.c + t.c), wr (s.d + t.d), wr (s.e + t.e), wr (s.f + t.f), wr (s.g + t.g), wr (s.h + t.h)⟩
/-- The words of a block's bytes b. -/
def nextI (b l : List Int) : Int :=
  if l.length < 16 then wordI (b.getD (4 * l.length) 0) (b.getD (4 * l.length + 1) 0) (b.getD (4 * l.length + 2) 0) (b.getD (4 * l.length + 3) 0)
  else wr (wr (wr (l.getD (l.length - 16) 0 + xorI .u32 (xorI .u32 (rotr (l.getD (l.length - 15) 0) 128 33554432) (rotr (l.getD (l.length - 15) 0) 262144 16384)) (l.getD (l.length - 15) 0 / 8)) + l.getD (l.length - 7) 0)
    + xorI .u32 (xorI .u32 (rotr (l.getD (l.length - 2) 0) 131072 32768) (rotr (l.getD (l.length - 2) 0) 524288 8192)) (l.getD (l.length - 2) 0 / 1024))
def schedI (b : List Int) : Nat → List Int
  | 0 => []
  | i + 1 => schedI b i ++ [nextI b (schedI b i)]
def roundsI (K W : List Int) (s : H8) : Nat → H8
  | 0 => s
  | i + 1 => stepI (roundsI K W s i) (K.getD i 0) (W.getD i 0)
def mixI (K b : List Int) (s : H8) : H8 := addH s (roundsI K (schedI b 64) s 64)
/-- All whole blocks. -/
def allI (K : List Int) : Nat → List Int → H8 → H8
  | 0, _, s => s
  | n + 1, b, s => allI K n (b.drop 64) (mixI K (b.take 64) s)
def h0I : H8 := ⟨1779033703, 3144134277, 1013904242, 2773480762, 1359893119, 2600822924, 528734635, 1541459225⟩
def kI : List Int := [1116352408, 1899447441, 3049323471, 3921009573, 961987163, 1508970993, 2453635748, 2870763221, 3624381080, 310598401, 607225278, 1426881987, 1925078388, 2162078206, 2614888103, 3248222580, 3835390401, 4022224774, 264347078, 604807628, 770255983, 1249150122, 1555081692, 1996064986, 2554220882, 2821834349, 2952996808, 3210313671, 3336571891, 3584528711, 113926993, 338241895, 666307205, 773529912, 1294757372, 1396182291, 1695183700, 1986661051, 2177026350, 2456956037, 2730485921, 2820302411, 3259730800, 3345764771, 3516065817, 3600352804, 4094571909, 275423344, 430227734, 506948616, 659060556, 883997877, 958139571, 1322822218, 1537002063, 1747873779, 1955562222, 2024104815, 2227730452, 2361852424, 2428436474, 2756734187, 3204031479, 3329325298]
/-- The words and what is left, once bytes b have come. -/
def wordsI (b : List Int) : H8 := allI kI (b.length / 64) b h0I
def leftI (b : List Int) : List Int := b.drop (64 * (b.length / 64))
end Go.Proofs.Ytplhnkmmhndkjaa
set_option linter.unusedSimpArgs false
set_option linter.unusedVariables false
namespace Go.Proofs.Ytplhnkmmhndkjaa
open Go.RowKit Go.Shelf
set_option maxRecDepth 100000
def u8V (x : Int) : List Value := [.int .u8 x]
theorem u8V_len (x : Int) : (u8V x).length = 1 := rfl
theorem fl_u8 (bs : List Int) : fl u8V bs = u8s bs := by
  unfold fl u8s
  induction bs with
  | nil => rfl
  | cons a l ih => simp only [List.map_cons, List.flatten_cons, ih]; rfl
def Byt (bs : List Int) : Prop := ∀ x ∈ bs, 0 ≤ x ∧ x ≤ 255
end Go.Proofs.Ytplhnkmmhndkjaa
set_option linter.unusedSimpArgs false
set_option linter.unusedVariables false
namespace Go.Proofs.Ytplhnkmmhndkjaa
open Go.RowKit Go.Shelf
set_option maxRecDepth 100000
theorem u8s_app (a b : List Int) : u8s (a ++ b) = u8s a ++ u8s b := by simp [u8s]
theorem u8s_len (a : List Int) : (u8s a).length = a.length := by simp [u8s]
theorem u8s_one (a : List Int) : (u8s a).all Value.oneCell' = true := by rw [List.all_eq_true]; intro x hx; obtain ⟨y, _, rfl⟩ := List.mem_map.1 hx; rfl
theorem Byt.app {a b : List Int} (h1 : Byt a) (h2 : Byt b) : Byt (a ++ b) := fun x hx => by rcases List.mem_append.1 hx with h | h; exact h1 x h; exact h2 x h
theorem Byt.drop {a : List Int} (h : Byt a) (i : Nat) : Byt (a.drop i) := fun x hx => h x (List.mem_of_mem_drop hx)
theorem Byt.take {a : List Int} (h : Byt a) (i : Nat) : Byt (a.take i) := fun x hx => h x (List.mem_of_mem_take hx)
/-- p' reads as p does, from k on. -/
structure Sfx (p p' : Option Addr) (n k : Nat) : Prop where
  rd : ∀ (W : World) (xs : List Int), xs.length = n → RdSl W p u8V xs → RdSl W p' u8V (xs.drop k)
  off : ∀ S, Off p S → Off p' S
theorem Sfx.refl (p : Option Addr) (n : Nat) : Sfx p p n 0 := ⟨fun W xs _ h => h, fun _ h => h⟩
theorem Sfx.suf {p p' : Option Addr} {n k c i : Nat} (h : Sfx p p' n k) (h1 : k + i ≤ n) (h2 : n - k ≤ c) : Sfx p (sufP p' c i 1) n (k + i) :=
  ⟨fun W xs hl hp => by
    have := (h.rd W xs hl hp).suf u8V_len (cap := c) (i := i) (by rw [List.length_drop]; omega) (by rw [List.length_drop]; omega)
    rwa [List.drop_drop] at this, fun S ho => (h.off S ho).suf _ _ _⟩
end Go.Proofs.Ytplhnkmmhndkjaa
set_option linter.unusedSimpArgs false
set_option linter.unusedVariables false
namespace Go.Proofs.Ytplhnkmmhndkjaa
open Go.RowKit Go.Shelf
set_option maxRecDepth 100000
theorem u8_mod (i : Int) : IntKind.u8.wrap i = i % 256 := by simp [IntKind.wrap, IntKind.bits, IntKind.signed]
theorem rdnone {n : Nat} {xs : List Int} {w : World} (hn : n = xs.length) (h : RdSl w none u8V xs) : n = 0 := by
  rcases h with h | ⟨b, o, h, _⟩
  · rw [hn, h]; rfl
  · cases h
theorem clone_ok (p : Option Addr) (n cap : Nat) (xs : List Int) (hn : n = xs.length) (hbig : n ≤ 1000000000) (w : World) (hp : RdSl w p u8V xs) : CallM Try.prog 36 [.slice p n cap] [] w fun v L => ∃ ov, OvOk 1 ov n (u8s xs) ∧ ov.isSome = p.isSome ∧ v = slV ov n ∧ L = blkL 5 ov (u8s xs) := by
  refine enterK (tb := tb) Try.func36 rfl Try.ntmps36 rfl ?_
  cases p with
  | none =>
    have h0 := rdnone hn hp
    have hx : xs = [] := List.eq_nil_of_length_eq_zero (by omega)
    subst hx
    repeat' (first | (apply R.is1; first | (apply R.isBin; first | (apply R.pure; exact rfl; first | (apply Ok1.eqlS; (iterate 5 exact rfl)) | (apply Ok1.eql_t; exact rfl; exact rfl; omega) | (apply Ok1.eql_f; exact rfl; exact rfl; omega) | (apply Ok1.eqlP; (iterate 5 exact rfl)) | (apply Ok1.eqlM; (iterate 5 exact rfl)) | (apply Ok1.eqlS; (iterate 5 exact rfl))) | (apply R.eql rfl rfl rfl <;> intro) | (apply R.eqlF; (iterate 8 exact rfl); all_goals intro)) | (apply R.pure; exact rfl; first | (apply Ok1.move; exact rfl) | (apply Ok1.assign; exact rfl)) | (apply R.buildSlice; (iterate 12 exact rfl); intro)) | (apply R.is0; first | fail) | (apply R.isG; first | (apply R.guard_run; exact rfl; exact rfl) | (apply R.guard_not; (iterate 3 exact rfl)) | (apply R.guard_not0; exact rfl; exact rfl) | (apply R.guard_un; (iterate 3 exact rfl)) | (apply R.guard_un0; exact rfl; exact rfl) | (apply R.guard rfl rfl ?_ (fun h => ⟨rfl, ?_⟩) <;> try intro)) | apply R.nil | (apply T.is; first | apply T.seq | apply T.region | apply T.block | apply T.scope | apply T.label | apply T.skip | apply T.exit | apply T.ret | (apply T.cond_t; exact rfl) | (apply T.cond_f; exact rfl) | (apply T.cond_h; exact rfl; assumption) | (apply T.cond_n; exact rfl; assumption) | (apply T.cond rfl <;> intro)) | apply Rnd.step)
    (apply RetOk.t; exact rfl)
    exact ⟨_, by (focus ((repeat' (first | exact Keep.nil _ | exact Ext.one _ _ | exact Ext.here _ _ | exact Ext.all _ | apply Keep.cons | apply Keep.app | apply Keep.last | apply Ext.cons | apply Ext.app)); done)), none, by rw [h0]; exact OvOk.start 1, rfl, rfl, rfl⟩
  | some a =>
    repeat' (first | (apply R.is1; first | (apply R.buildSlice0; (iterate 4 exact rfl); intro b0) | (apply R.isBin; first | (apply R.pure; exact rfl; first | (apply Ok1.eqlS; (iterate 5 exact rfl)) | (apply Ok1.eql_t; exact rfl; exact rfl; omega) | (apply Ok1.eql_f; exact rfl; exact rfl; omega) | (apply Ok1.eqlP; (iterate 5 exact rfl)) | (apply Ok1.eqlM; (iterate 5 exact rfl)) | (apply Ok1.eqlS; (iterate 5 exact rfl))) | (apply R.eql rfl rfl rfl <;> intro) | (apply R.eqlF; (iterate 8 exact rfl); all_goals intro)) | (apply R.isCall; first | (apply R.appendRd (xs := xs) (v := u8V) (sz := 1) (ov := some (b0, 0, [])) (n := 0) (old := []); (iterate 12 exact rfl); exact ⟨rfl, rfl⟩; (focus ((repeat' (first | exact Ext.none _ | exact Ext.one _ _ | exact Ext.here _ _ | exact Ext.all _ | apply Ext.cons | apply Ext.app | apply Ext.two)); done)); exact hn; exact u8V_len; exact rfl; (intro w1 hw1; exact hp.chg hw1.chg (Off.nil _)); (focus (rw [fl_u8]; exact u8s_one xs)); omega; intro ov1 hov1 hsome)) | (apply R.pure; exact rfl; first | (apply Ok1.move; exact rfl) | (apply Ok1.assign; exact rfl)) | (apply R.buildSlice; (iterate 12 exact rfl); intro)) | (apply R.is0; first | fail) | (apply R.isG; first | (apply R.guard_run; exact rfl; exact rfl) | (apply R.guard_not; (iterate 3 exact rfl)) | (apply R.guard_not0; exact rfl; exact rfl) | (apply R.guard_un; (iterate 3 exact rfl)) | (apply R.guard_un0; exact rfl; exact rfl) | (apply R.guard rfl rfl ?_ (fun h => ⟨rfl, ?_⟩) <;> try intro)) | apply R.nil | (apply T.is; first | apply T.seq | apply T.region | apply T.block | apply T.scope | apply T.label | apply T.skip | apply T.exit | apply T.ret | (apply T.cond_t; exact rfl) | (apply T.cond_f; exact rfl) | (apply T.cond_h; exact rfl; assumption) | (apply T.cond_n; exact rfl; assumption) | (apply T.cond rfl <;> intro)) | apply Rnd.step)
    rw [Nat.zero_add, List.nil_append, fl_u8] at hov1
    rw [Nat.zero_add, List.nil_append, fl_u8]
    repeat' (first | (apply R.is1; first | (apply R.isBin; first | (apply R.pure; exact rfl; first | (apply Ok1.eql_t; exact rfl; exact rfl; omega) | (apply Ok1.eql_f; exact rfl; exact rfl; omega) | (apply Ok1.eqlP; (iterate 5 exact rfl)) | (apply Ok1.eqlM; (iterate 5 exact rfl)) | (apply Ok1.eqlS; (iterate 5 exact rfl))) | (apply R.eql rfl rfl rfl <;> intro) | (apply R.eqlF; (iterate 8 exact rfl); all_goals intro)) | (apply R.pure; exact rfl; first | (apply Ok1.move; exact rfl) | (apply Ok1.assign; exact rfl)) | (apply R.buildSlice; (iterate 12 exact rfl); intro)) | (apply R.is0; first | fail) | (apply R.isG; first | (apply R.guard_run; exact rfl; exact rfl) | (apply R.guard_not; (iterate 3 exact rfl)) | (apply R.guard_not0; exact rfl; exact rfl) | (apply R.guard_un; (iterate 3 exact rfl)) | (apply R.guard_un0; exact rfl; exact rfl) | (apply R.guard rfl rfl ?_ (fun h => ⟨rfl, ?_⟩) <;> try intro)) | apply R.nil | (apply T.is; first | apply T.seq | apply T.region | apply T.block | apply T.scope | apply T.label | apply T.skip | apply T.exit | apply T.ret | (apply T.cond_t; exact rfl) | (apply T.cond_f; exact rfl) | (apply T.cond_h; exact rfl; assumption) | (apply T.cond_n; exact rfl; assumption) | (apply T.cond rfl <;> intro)) | apply Rnd.step)
    (apply RetOk.t; exact rfl)
    refine ⟨_, ?_, ov1, hov1, by rw [hsome rfl]; rfl, rfl, rfl⟩
    (focus ((repeat' (first | exact Keep.nil _ | exact Ext.one _ _ | exact Ext.here _ _ | exact Ext.all _ | apply Keep.cons | apply Keep.app | apply Keep.last | apply Ext.cons | apply Ext.app)); done))
theorem grow_ok (n : Nat) (hbig : n ≤ 1000000000) (w : World) : CallM Try.prog 54 [.slice none 0 0, .int .i64 n] [] w fun v L => ∃ ov, OvOk 1 ov 0 [] ∧ v = slV ov 0 ∧ L = blkL 5 ov [] := by
  refine enterK (tb := tb) Try.func54 rfl Try.ntmps54 rfl ?_
  rcases Nat.eq_zero_or_pos n with h0 | h0
  · subst h0
    repeat' (first | (apply R.is1; first | (apply R.isBin; first | (apply R.pure; exact rfl; first | (apply Ok1.sub64; exact rfl; exact rfl; omega; omega) | (apply Ok1.lss_t; exact rfl; exact rfl; omega) | (apply Ok1.lss_f; exact rfl; exact rfl; omega) | (apply Ok1.gtr_t; exact rfl; exact rfl; omega) | (apply Ok1.gtr_f; exact rfl; exact rfl; omega)) | (apply R.lss rfl rfl rfl <;> intro) | (apply R.gtr rfl rfl rfl <;> intro)) | (apply R.isCall; first | (apply R.pure; exact rfl; first | (apply Ok1.lenS; (iterate 3 exact rfl)) | (apply Ok1.lenStr; (iterate 3 exact rfl)) | (apply Ok1.lenMm; (iterate 3 exact rfl); (focus ((repeat' (first | exact At.head | apply At.tail | apply At.right)); done))) | (apply Ok1.lenM_nil; (iterate 3 exact rfl)))) | (apply R.pure; exact rfl; first | (apply Ok1.capS; (iterate 3 exact rfl)) | (apply Ok1.move; exact rfl) | (apply Ok1.assign; exact rfl) | (apply Ok1.slice0; (iterate 7 exact rfl); (refine ⟨?_, ?_, ?_⟩ <;> omega); (first | exact Or.inl rfl | exact Or.inr (fun e => by cases e))) | (apply Ok1.sliceTo; (iterate 6 exact rfl); omega; omega; omega; (first | exact Or.inl rfl | exact Or.inr (fun e => by cases e))) | (apply Ok1.sliceFrom; (iterate 7 exact rfl); omega; omega; omega; omega; omega; (first | exact Or.inl rfl | exact Or.inr (fun e => by cases e))))) | (apply R.is0; first | fail) | (apply R.isG; first | (apply R.guard_run; exact rfl; exact rfl) | (apply R.guard_not; (iterate 3 exact rfl)) | (apply R.guard_not0; exact rfl; exact rfl) | (apply R.guard_un; (iterate 3 exact rfl)) | (apply R.guard_un0; exact rfl; exact rfl) | (apply R.guard rfl rfl ?_ (fun h => ⟨rfl, ?_⟩) <;> try intro)) | apply R.nil | (apply T.is; first | apply T.seq | apply T.region | apply T.block | apply T.scope | apply T.label | apply T.skip | apply T.exit | apply T.ret | (apply T.cond_t; exact rfl) | (apply T.cond_f; exact rfl) | (apply T.cond_h; exact rfl; assumption) | (apply T.cond_n; exact rfl; assumption) | (apply T.cond rfl <;> intro)) | apply Rnd.step)
    (apply RetOk.t; exact rfl)
    exact ⟨_, by (focus ((repeat' (first | exact Keep.nil _ | exact Ext.one _ _ | exact Ext.here _ _ | exact Ext.all _ | apply Keep.cons | apply Keep.app | apply Keep.last | apply Ext.cons | apply Ext.app)); done)), none, OvOk.start 1, rfl, rfl⟩
  · repeat' (first | (apply R.is1; first | (apply R.isBin; first | (apply R.pure; exact rfl; first | (apply Ok1.sub64; exact rfl; exact rfl; omega; omega) | (apply Ok1.lss_t; exact rfl; exact rfl; omega) | (apply Ok1.lss_f; exact rfl; exact rfl; omega) | (apply Ok1.gtr_t; exact rfl; exact rfl; omega) | (apply Ok1.gtr_f; exact rfl; exact rfl; omega)) | (apply R.lss rfl rfl rfl <;> intro) | (apply R.gtr rfl rfl rfl <;> intro)) | (apply R.isCall; first | (apply R.growMk (n := n); (iterate 12 exact rfl); omega; omega; intro b0 j0) | (apply R.pure; exact rfl; first | (apply Ok1.lenS; (iterate 3 exact rfl)) | (apply Ok1.lenStr; (iterate 3 exact rfl)) | (apply Ok1.lenMm; (iterate 3 exact rfl); (focus ((repeat' (first | exact At.head | apply At.tail | apply At.right)); done))) | (apply Ok1.lenM_nil; (iterate 3 exact rfl)))) | (apply R.pure; exact rfl; first | (apply Ok1.capS; (iterate 3 exact rfl)) | (apply Ok1.move; exact rfl) | (apply Ok1.assign; exact rfl) | (apply Ok1.slice0; (iterate 7 exact rfl); (refine ⟨?_, ?_, ?_⟩ <;> omega); (first | exact Or.inl rfl | exact Or.inr (fun e => by cases e))) | (apply Ok1.sliceTo; (iterate 6 exact rfl); omega; omega; omega; (first | exact Or.inl rfl | exact Or.inr (fun e => by cases e))) | (apply Ok1.sliceFrom; (iterate 7 exact rfl); omega; omega; omega; omega; omega; (first | exact Or.inl rfl | exact Or.inr (fun e => by cases e))))) | (apply R.is0; first | fail) | (apply R.isG; first | (apply R.guard_run; exact rfl; exact rfl) | (apply R.guard_not; (iterate 3 exact rfl)) | (apply R.guard_not0; exact rfl; exact rfl) | (apply R.guard_un; (iterate 3 exact rfl)) | (apply R.guard_un0; exact rfl; exact rfl) | (apply R.guard rfl rfl ?_ (fun h => ⟨rfl, ?_⟩) <;> try intro)) | apply R.nil | (apply T.is; first | apply T.seq | apply T.region | apply T.block | apply T.scope | apply T.label | apply T.skip | apply T.exit | apply T.ret | (apply T.cond_t; exact rfl) | (apply T.cond_f; exact rfl) | (apply T.cond_h; exact rfl; assumption) | (apply T.cond_n; exact rfl; assumption) | (apply T.cond rfl <;> intro)) | apply Rnd.step)
    (apply RetOk.t; exact rfl)
    refine ⟨_, ?_, some (b0, n + j0, List.replicate (n + j0) (.int .u8 0)), ⟨rfl, by simp⟩, by simp [slV]; omega, rfl⟩
    simp only [blkL, List.nil_append]
    (focus ((repeat' (first | exact Keep.nil _ | exact Ext.one _ _ | exact Ext.here _ _ | exact Ext.all _ | apply Keep.cons | apply Keep.app | apply Keep.last | apply Ext.cons | apply Ext.app)); done))
/-- A part: a slice of bytes. -/
structure Pt where
  p : Option Addr
  cap : Nat
  xs : List Int
deriving Inhabited
def Pt.v (x : Pt) : List Value := [.slice x.p x.xs.length x.cap]
theorem Pt.v_len (x : Pt) : x.v.length = 1 := rfl
def cat (ps : List Pt) : List Int := ps.flatMap (·.xs)
theorem cat_nil : cat [] = [] := rfl
theorem cat_snoc {ps : List Pt} {i : Nat} {x : Pt} (h : ps[i]? = some x) : cat (ps.take (i + 1)) = cat (ps.take i) ++ x.xs := by
  unfold cat
  rw [List.take_add_one, h, List.flatMap_append]
  simp
theorem cat_le (ps : List Pt) (i : Nat) : (cat (ps.take i)).length ≤ (cat ps).length := by
  conv => rhs; rw [← List.take_append_drop i ps]
  unfold cat
  rw [List.flatMap_append, List.length_append]
  omega
theorem concat_ok (p : Option Addr) (n cap : Nat) (ps : List Pt) (hn : n = ps.length) (hbig : (cat ps).length ≤ 1000000000) (hbig2 : n ≤ 1000000000) (w : World) (hp : RdSl w p Pt.v ps) (hall : ∀ x ∈ ps, RdSl w x.p u8V x.xs) :
    CallM Try.prog 35 [.slice p n cap] [] w fun v L => ∃ ov, OvOk 1 ov (cat ps).length (u8s (cat ps)) ∧ v = slV ov (cat ps).length ∧ L = blkL 5 ov (u8s (cat ps)) := by
  subst hn
  refine enterK (tb := tb) Try.func35 rfl Try.ntmps35 rfl ?_
  repeat' (first | (apply R.is1; first | (apply R.isBin; first | (apply R.pure; exact rfl; first | (apply Ok1.add64; exact rfl; exact rfl; omega; omega) | (apply Ok1.lss_t; exact rfl; exact rfl; omega) | (apply Ok1.lss_f; exact rfl; exact rfl; omega)) | (apply R.lss rfl rfl rfl <;> intro)) | (apply R.isCall; first | (apply R.pure; exact rfl; first | (apply Ok1.lenS; (iterate 3 exact rfl)) | (apply Ok1.lenStr; (iterate 3 exact rfl)) | (apply Ok1.lenMm; (iterate 3 exact rfl); (focus ((repeat' (first | exact At.head | apply At.tail | apply At.right)); done))) | (apply Ok1.lenM_nil; (iterate 3 exact rfl)))) | (apply R.pure; exact rfl; first | (apply Ok1.move; exact rfl) | (apply Ok1.load; exact rfl; first | (apply Ld.own1; exact rfl; exact rfl; (focus ((repeat' (first | exact At.head | apply At.tail | apply At.right)); done)); exact rfl) | (apply Ld.ownk; exact rfl; exact rfl; (focus ((repeat' (first | exact At.head | apply At.tail | apply At.right)); done)); exact rfl) | (apply Ld.old1; exact rfl; exact rfl; assumption; (first | exact List.not_mem_nil | assumption)) | (apply Ld.blk1; exact rfl; exact rfl; assumption; (first | exact List.not_mem_nil | assumption); exact rfl) | (apply Ld.blkk; exact rfl; exact rfl; assumption; (first | exact List.not_mem_nil | assumption); exact rfl)) | (apply Ok1.assign; exact rfl) | (apply Ok1.indexAddr; (iterate 5 exact rfl); omega; omega) | (apply Ok1.indexAddrA; (iterate 5 exact rfl); omega; omega))) | (apply R.is0; first | fail) | (apply R.isG; first | (apply R.guard_run; exact rfl; exact rfl) | (apply R.guard_not; (iterate 3 exact rfl)) | (apply R.guard_not0; exact rfl; exact rfl) | (apply R.guard_un; (iterate 3 exact rfl)) | (apply R.guard_un0; exact rfl; exact rfl) | (apply R.guard rfl rfl ?_ (fun h => ⟨rfl, ?_⟩) <;> try intro)) | apply R.nil | (apply T.is; first | apply T.seq | apply T.region | apply T.block | apply T.scope | apply T.label | apply T.skip | apply T.exit | apply T.ret | (apply T.cond_t; exact rfl) | (apply T.cond_f; exact rfl) | (apply T.cond_h; exact rfl; assumption) | (apply T.cond_n; exact rfl; assumption) | (apply T.cond rfl <;> intro)) | apply Rnd.step)
  apply T.loopK (α := Nat) (I := fun i => i ≤ ps.length) (σi := fun i => [(0, .slice p ps.length cap), (3, .int .i64 (cat (ps.take i)).length), (9, .slice p ps.length cap), (10, .int .i64 ps.length), (11, .int .i64 i)]) (Li := fun _ => []) (μ := fun i => ps.length - i) (i0 := 0)
  · exact Nat.zero_le _
  · exact ⟨rfl, rfl, rfl, rfl, rfl, trivial⟩
  · (focus ((repeat' (first | exact Keep.nil _ | exact Ext.one _ _ | exact Ext.here _ _ | exact Ext.all _ | apply Keep.cons | apply Keep.app | apply Keep.last | apply Ext.cons | apply Ext.app)); done))
  · intro i hi
    have hle := cat_le ps i
    rcases Nat.lt_or_ge i ps.length with hlt | hge
    · obtain ⟨x, hx⟩ : ∃ x, ps[i]? = some x := ⟨_, List.getElem?_eq_getElem (by omega)⟩
      obtain ⟨b, o, hpe, H⟩ := hp.at hx
      replace H := H 1 Pt.v_len
      have hs := cat_snoc hx
      have hl := congrArg List.length hs
      rw [List.length_append] at hl
      have hle2 := cat_le ps (i + 1)
      repeat' (first | (apply R.is1; first | (apply R.isBin; first | (apply R.pure; exact rfl; first | (apply Ok1.add64; exact rfl; exact rfl; omega; omega) | (apply Ok1.lss_t; exact rfl; exact rfl; omega) | (apply Ok1.lss_f; exact rfl; exact rfl; omega)) | (apply R.lss rfl rfl rfl <;> intro)) | (apply R.isCall; first | (apply R.pure; exact rfl; first | (apply Ok1.lenS; (iterate 3 exact rfl)) | (apply Ok1.lenStr; (iterate 3 exact rfl)) | (apply Ok1.lenMm; (iterate 3 exact rfl); (focus ((repeat' (first | exact At.head | apply At.tail | apply At.right)); done))) | (apply Ok1.lenM_nil; (iterate 3 exact rfl)))) | (apply R.pure; exact rfl; first | (apply Ok1.indexAddrP; (iterate 4 exact rfl); exact hpe; exact rfl; omega; omega) | (apply Ok1.load; exact rfl; apply Ld.row0 H; exact rfl; exact List.not_mem_nil; (iterate 3 exact rfl)) | (apply Ok1.move; exact rfl) | (apply Ok1.load; exact rfl; first | (apply Ld.own1; exact rfl; exact rfl; (focus ((repeat' (first | exact At.head | apply At.tail | apply At.right)); done)); exact rfl) | (apply Ld.ownk; exact rfl; exact rfl; (focus ((repeat' (first | exact At.head | apply At.tail | apply At.right)); done)); exact rfl) | (apply Ld.old1; exact rfl; exact rfl; assumption; (first | exact List.not_mem_nil | assumption)) | (apply Ld.blk1; exact rfl; exact rfl; assumption; (first | exact List.not_mem_nil | assumption); exact rfl) | (apply Ld.blkk; exact rfl; exact rfl; assumption; (first | exact List.not_mem_nil | assumption); exact rfl)) | (apply Ok1.assign; exact rfl) | (apply Ok1.indexAddr; (iterate 5 exact rfl); omega; omega) | (apply Ok1.indexAddrA; (iterate 5 exact rfl); omega; omega))) | (apply R.is0; first | fail) | (apply R.isG; first | (apply R.guard_run; exact rfl; exact rfl) | (apply R.guard_not; (iterate 3 exact rfl)) | (apply R.guard_not0; exact rfl; exact rfl) | (apply R.guard_un; (iterate 3 exact rfl)) | (apply R.guard_un0; exact rfl; exact rfl) | (apply R.guard rfl rfl ?_ (fun h => ⟨rfl, ?_⟩) <;> try intro)) | apply R.nil | (apply T.is; first | apply T.seq | apply T.region | apply T.block | apply T.scope | apply T.label | apply T.skip | apply T.exit | apply T.ret | (apply T.cond_t; exact rfl) | (apply T.cond_f; exact rfl) | (apply T.cond_h; exact rfl; assumption) | (apply T.cond_n; exact rfl; assumption) | (apply T.cond rfl <;> intro)) | apply Rnd.step)
      refine ⟨i + 1, by omega, by omega, ⟨rfl, ?_, rfl, rfl, rfl, trivial⟩, by (focus ((repeat' (first | exact Keep.nil _ | exact Ext.one _ _ | exact Ext.here _ _ | exact Ext.all _ | apply Keep.cons | apply Keep.app | apply Keep.last | apply Ext.cons | apply Ext.app)); done))⟩
      rw [hl]
      rfl
    · have him : i = ps.length := by omega
      subst him
      rw [List.take_length]
      have hgr := fun w1 => grow_ok (cat ps).length hbig w1
      repeat' (first | (apply R.is1; first | (apply R.isBin; first | (apply R.pure; exact rfl; first | (apply Ok1.add64; exact rfl; exact rfl; omega; omega) | (apply Ok1.lss_t; exact rfl; exact rfl; omega) | (apply Ok1.lss_f; exact rfl; exact rfl; omega)) | (apply R.lss rfl rfl rfl <;> intro)) | (apply R.isCall; first | (apply R.callE; (iterate 3 exact rfl); exact Ext.none _; intro w1 hw1; exact hgr w1; rintro v Lo ⟨ov0, hov0, rfl, rfl⟩) | (apply R.pure; exact rfl; first | (apply Ok1.lenS; (iterate 3 exact rfl)) | (apply Ok1.lenStr; (iterate 3 exact rfl)) | (apply Ok1.lenMm; (iterate 3 exact rfl); (focus ((repeat' (first | exact At.head | apply At.tail | apply At.right)); done))) | (apply Ok1.lenM_nil; (iterate 3 exact rfl)))) | (apply R.pure; exact rfl; first | (apply Ok1.move; exact rfl) | (apply Ok1.load; exact rfl; first | (apply Ld.own1; exact rfl; exact rfl; (focus ((repeat' (first | exact At.head | apply At.tail | apply At.right)); done)); exact rfl) | (apply Ld.ownk; exact rfl; exact rfl; (focus ((repeat' (first | exact At.head | apply At.tail | apply At.right)); done)); exact rfl) | (apply Ld.old1; exact rfl; exact rfl; assumption; (first | exact List.not_mem_nil | assumption)) | (apply Ld.blk1; exact rfl; exact rfl; assumption; (first | exact List.not_mem_nil | assumption); exact rfl) | (apply Ld.blkk; exact rfl; exact rfl; assumption; (first | exact List.not_mem_nil | assumption); exact rfl)) | (apply Ok1.assign; exact rfl) | (apply Ok1.indexAddr; (iterate 5 exact rfl); omega; omega) | (apply Ok1.indexAddrA; (iterate 5 exact rfl); omega; omega))) | (apply R.is0; first | fail) | (apply R.isG; first | (apply R.guard_run; exact rfl; exact rfl) | (apply R.guard_not; (iterate 3 exact rfl)) | (apply R.guard_not0; exact rfl; exact rfl) | (apply R.guard_un; (iterate 3 exact rfl)) | (apply R.guard_un0; exact rfl; exact rfl) | (apply R.guard rfl rfl ?_ (fun h => ⟨rfl, ?_⟩) <;> try intro)) | apply R.nil | (apply T.is; first | apply T.seq | apply T.region | apply T.block | apply T.scope | apply T.label | apply T.skip | apply T.exit | apply T.ret | (apply T.cond_t; exact rfl) | (apply T.cond_f; exact rfl) | (apply T.cond_h; exact rfl; assumption) | (apply T.cond_n; exact rfl; assumption) | (apply T.cond rfl <;> intro)) | apply Rnd.step)
      apply T.loopK (α := Nat × Ov) (I := fun y => y.1 ≤ ps.length ∧ OvOk 1 y.2 (cat (ps.take y.1)).length (u8s (cat (ps.take y.1)))) (σi := fun y => [(6, slV y.2 (cat (ps.take y.1)).length), (25, .slice p ps.length cap), (26, .int .i64 ps.length), (27, .int .i64 y.1)]) (Li := fun y => blkL 5 y.2 (u8s (cat (ps.take y.1)))) (μ := fun y => ps.length - y.1) (i0 := (0, ov0))
      · exact ⟨Nat.zero_le _, hov0⟩
      · exact ⟨rfl, rfl, rfl, rfl, trivial⟩
      · simp only [List.take_zero, cat_nil]
        change Keep _ (blkL 5 ov0 [])
        (focus ((repeat' (first | exact Keep.nil _ | exact Ext.one _ _ | exact Ext.here _ _ | exact Ext.all _ | apply Keep.cons | apply Keep.app | apply Keep.last | apply Ext.cons | apply Ext.app)); done))
      · rintro ⟨i, ov⟩ ⟨hi, hov⟩
        simp only at hi hov ⊢
        rcases Nat.lt_or_ge i ps.length with hlt | hge
        · obtain ⟨x, hx⟩ : ∃ x, ps[i]? = some x := ⟨_, List.getElem?_eq_getElem (by omega)⟩
          obtain ⟨b, o, hpe, H⟩ := hp.at hx
          replace H := H 1 Pt.v_len
          have hs := cat_snoc hx
          have hl := congrArg List.length hs
          rw [List.length_append] at hl
          have hle2 := cat_le ps (i + 1)
          have hrd := hall x (List.mem_of_getElem? hx)
          repeat' (first | (apply R.is1; first | (apply R.isBin; first | (apply R.pure; exact rfl; first | (apply Ok1.add64; exact rfl; exact rfl; omega; omega) | (apply Ok1.lss_t; exact rfl; exact rfl; omega) | (apply Ok1.lss_f; exact rfl; exact rfl; omega)) | (apply R.lss rfl rfl rfl <;> intro)) | (apply R.isCall; first | (apply R.appendRd (xs := x.xs) (v := u8V) (sz := 1) (ov := ov) (n := (cat (ps.take i)).length) (old := u8s (cat (ps.take i))); (iterate 12 exact rfl); exact hov; (focus ((repeat' (first | exact Ext.none _ | exact Ext.one _ _ | exact Ext.here _ _ | exact Ext.all _ | apply Ext.cons | apply Ext.app | apply Ext.two)); done)); exact rfl; exact u8V_len; exact rfl; (intro w1 hw1; exact hrd.chg hw1.chg (Off.nil _)); (focus (rw [fl_u8]; exact u8s_one x.xs)); omega; intro ov1 hov1 hsome) | (apply R.pure; exact rfl; first | (apply Ok1.lenS; (iterate 3 exact rfl)) | (apply Ok1.lenStr; (iterate 3 exact rfl)) | (apply Ok1.lenMm; (iterate 3 exact rfl); (focus ((repeat' (first | exact At.head | apply At.tail | apply At.right)); done))) | (apply Ok1.lenM_nil; (iterate 3 exact rfl)))) | (apply R.pure; exact rfl; first | (apply Ok1.indexAddrP; (iterate 4 exact rfl); exact hpe; exact rfl; omega; omega) | (apply Ok1.load; exact rfl; apply Ld.row0 H; exact rfl; exact List.not_mem_nil; (iterate 3 exact rfl)) | (apply Ok1.move; exact rfl) | (apply Ok1.load; exact rfl; first | (apply Ld.own1; exact rfl; exact rfl; (focus ((repeat' (first | exact At.head | apply At.tail | apply At.right)); done)); exact rfl) | (apply Ld.ownk; exact rfl; exact rfl; (focus ((repeat' (first | exact At.head | apply At.tail | apply At.right)); done)); exact rfl) | (apply Ld.old1; exact rfl; exact rfl; assumption; (first | exact List.not_mem_nil | assumption)) | (apply Ld.blk1; exact rfl; exact rfl; assumption; (first | exact List.not_mem_nil | assumption); exact rfl) | (apply Ld.blkk; exact rfl; exact rfl; assumption; (first | exact List.not_mem_nil | assumption); exact rfl)) | (apply Ok1.assign; exact rfl) | (apply Ok1.indexAddr; (iterate 5 exact rfl); omega; omega) | (apply Ok1.indexAddrA; (iterate 5 exact rfl); omega; omega))) | (apply R.is0; first | fail) | (apply R.isG; first | (apply R.guard_run; exact rfl; exact rfl) | (apply R.guard_not; (iterate 3 exact rfl)) | (apply R.guard_not0; exact rfl; exact rfl) | (apply R.guard_un; (iterate 3 exact rfl)) | (apply R.guard_un0; exact rfl; exact rfl) | (apply R.guard rfl rfl ?_ (fun h => ⟨rfl, ?_⟩) <;> try intro)) | apply R.nil | (apply T.is; first | apply T.seq | apply T.region | apply T.block | apply T.scope | apply T.label | apply T.skip | apply T.exit | apply T.ret | (apply T.cond_t; exact rfl) | (apply T.cond_f; exact rfl) | (apply T.cond_h; exact rfl; assumption) | (apply T.cond_n; exact rfl; assumption) | (apply T.cond rfl <;> intro)) | apply Rnd.step)
          rw [fl_u8, ← u8s_app, ← hs, ← hl] at hov1
          rw [fl_u8, ← u8s_app, ← hs, ← hl]
          repeat' (first | (apply R.is1; first | (apply R.isBin; first | (apply R.pure; exact rfl; first | (apply Ok1.add64; exact rfl; exact rfl; omega; omega) | (apply Ok1.lss_t; exact rfl; exact rfl; omega) | (apply Ok1.lss_f; exact rfl; exact rfl; omega)) | (apply R.lss rfl rfl rfl <;> intro)) | (apply R.isCall; first | (apply R.pure; exact rfl; first | (apply Ok1.lenS; (iterate 3 exact rfl)) | (apply Ok1.lenStr; (iterate 3 exact rfl)) | (apply Ok1.lenMm; (iterate 3 exact rfl); (focus ((repeat' (first | exact At.head | apply At.tail | apply At.right)); done))) | (apply Ok1.lenM_nil; (iterate 3 exact rfl)))) | (apply R.pure; exact rfl; first | (apply Ok1.move; exact rfl) | (apply Ok1.load; exact rfl; first | (apply Ld.own1; exact rfl; exact rfl; (focus ((repeat' (first | exact At.head | apply At.tail | apply At.right)); done)); exact rfl) | (apply Ld.ownk; exact rfl; exact rfl; (focus ((repeat' (first | exact At.head | apply At.tail | apply At.right)); done)); exact rfl) | (apply Ld.old1; exact rfl; exact rfl; assumption; (first | exact List.not_mem_nil | assumption)) | (apply Ld.blk1; exact rfl; exact rfl; assumption; (first | exact List.not_mem_nil | assumption); exact rfl) | (apply Ld.blkk; exact rfl; exact rfl; assumption; (first | exact List.not_mem_nil | assumption); exact rfl)) | (apply Ok1.assign; exact rfl) | (apply Ok1.indexAddr; (iterate 5 exact rfl); omega; omega) | (apply Ok1.indexAddrA; (iterate 5 exact rfl); omega; omega))) | (apply R.is0; first | fail) | (apply R.isG; first | (apply R.guard_run; exact rfl; exact rfl) | (apply R.guard_not; (iterate 3 exact rfl)) | (apply R.guard_not0; exact rfl; exact rfl) | (apply R.guard_un; (iterate 3 exact rfl)) | (apply R.guard_un0; exact rfl; exact rfl) | (apply R.guard rfl rfl ?_ (fun h => ⟨rfl, ?_⟩) <;> try intro)) | apply R.nil | (apply T.is; first | apply T.seq | apply T.region | apply T.block | apply T.scope | apply T.label | apply T.skip | apply T.exit | apply T.ret | (apply T.cond_t; exact rfl) | (apply T.cond_f; exact rfl) | (apply T.cond_h; exact rfl; assumption) | (apply T.cond_n; exact rfl; assumption) | (apply T.cond rfl <;> intro)) | apply Rnd.step)
          exact ⟨(i + 1, ov1), ⟨by simp only; omega, hov1⟩, by simp only; omega, ⟨rfl, rfl, rfl, rfl, trivial⟩, by (focus ((repeat' (first | exact Keep.nil _ | exact Ext.one _ _ | exact Ext.here _ _ | exact Ext.all _ | apply Keep.cons | apply Keep.app | apply Keep.last | apply Ext.cons | apply Ext.app)); done))⟩
        · have him : i = ps.length := by omega
          subst him
          rw [List.take_length] at hov ⊢
          repeat' (first | (apply R.is1; first | (apply R.isBin; first | (apply R.pure; exact rfl; first | (apply Ok1.add64; exact rfl; exact rfl; omega; omega) | (apply Ok1.lss_t; exact rfl; exact rfl; omega) | (apply Ok1.lss_f; exact rfl; exact rfl; omega)) | (apply R.lss rfl rfl rfl <;> intro)) | (apply R.isCall; first | (apply R.pure; exact rfl; first | (apply Ok1.lenS; (iterate 3 exact rfl)) | (apply Ok1.lenStr; (iterate 3 exact rfl)) | (apply Ok1.lenMm; (iterate 3 exact rfl); (focus ((repeat' (first | exact At.head | apply At.tail | apply At.right)); done))) | (apply Ok1.lenM_nil; (iterate 3 exact rfl)))) | (apply R.pure; exact rfl; first | (apply Ok1.move; exact rfl) | (apply Ok1.load; exact rfl; first | (apply Ld.own1; exact rfl; exact rfl; (focus ((repeat' (first | exact At.head | apply At.tail | apply At.right)); done)); exact rfl) | (apply Ld.ownk; exact rfl; exact rfl; (focus ((repeat' (first | exact At.head | apply At.tail | apply At.right)); done)); exact rfl) | (apply Ld.old1; exact rfl; exact rfl; assumption; (first | exact List.not_mem_nil | assumption)) | (apply Ld.blk1; exact rfl; exact rfl; assumption; (first | exact List.not_mem_nil | assumption); exact rfl) | (apply Ld.blkk; exact rfl; exact rfl; assumption; (first | exact List.not_mem_nil | assumption); exact rfl)) | (apply Ok1.assign; exact rfl) | (apply Ok1.indexAddr; (iterate 5 exact rfl); omega; omega) | (apply Ok1.indexAddrA; (iterate 5 exact rfl); omega; omega))) | (apply R.is0; first | fail) | (apply R.isG; first | (apply R.guard_run; exact rfl; exact rfl) | (apply R.guard_not; (iterate 3 exact rfl)) | (apply R.guard_not0; exact rfl; exact rfl) | (apply R.guard_un; (iterate 3 exact rfl)) | (apply R.guard_un0; exact rfl; exact rfl) | (apply R.guard rfl rfl ?_ (fun h => ⟨rfl, ?_⟩) <;> try intro)) | apply R.nil | (apply T.is; first | apply T.seq | apply T.region | apply T.block | apply T.scope | apply T.label | apply T.skip | apply T.exit | apply T.ret | (apply T.cond_t; exact rfl) | (apply T.cond_f; exact rfl) | (apply T.cond_h; exact rfl; assumption) | (apply T.cond_n; exact rfl; assumption) | (apply T.cond rfl <;> intro)) | apply Rnd.step)
          (apply RetOk.t; exact rfl)
          exact ⟨_, by (focus ((repeat' (first | exact Keep.nil _ | exact Ext.one _ _ | exact Ext.here _ _ | exact Ext.all _ | apply Keep.cons | apply Keep.app | apply Keep.last | apply Ext.cons | apply Ext.app)); done)), ov, hov, rfl, rfl⟩
end Go.Proofs.Ytplhnkmmhndkjaa
set_option linter.unusedSimpArgs false
set_option linter.unusedVariables false
namespace Go.Proofs.Ytplhnkmmhndkjaa
open Go.RowKit Go.Shelf
set_option maxRecDepth 100000
/-- A running digest: on, its words; what is left of it lies in a slice of one's own, from k on. -/
structure RS where
  on : Bool
  s : H8
  ov : Ov
  xs : List Int
  p : Option Addr
  cap : Nat
  k : Nat
  lf : List Int
  n : Nat
structure RuI (st : RS) (b : List Int) : Prop where
  ov : OvOk 1 st.ov st.xs.length (u8s st.xs)
  sfx : Sfx (ovp st.ov) st.p st.xs.length st.k
  lf : st.lf = st.xs.drop st.k
  cap : st.lf.length ≤ st.cap
  n : st.n = b.length
  left : st.lf = leftI b
  byt : Byt b
  words : st.on = true → st.s = wordsI b
  off : st.on = false → b = []
theorem CallM.imp {P : Program} {f : FuncId} {vs : List Value} {L : Lst} {w : World} {R R' : Value → Lst → Prop} (h : CallM P f vs L w R) (hr : ∀ v L, R v L → R' v L) : CallM P f vs L w R' :=
  ⟨fun hw => (h.run hw).mono fun e w' ⟨v, L', h1, h2, h3⟩ => ⟨v, L', h1, hr _ _ h2, h3⟩⟩
end Go.Proofs.Ytplhnkmmhndkjaa
set_option linter.unusedSimpArgs false
set_option linter.unusedVariables false
namespace Go.Proofs.Ytplhnkmmhndkjaa
open Go.RowKit Go.Shelf
set_option maxRecDepth 100000
theorem rdown {ov : Ov} {xs : List Int} {e : Nat} (hov : OvOk 1 ov xs.length (u8s xs)) {w0 w : World} {S : List Nat} {L : Lst} (hw : Hp w0 S L w) (hin : ∀ x ∈ blkL e ov (u8s xs), x ∈ L) : RdSl w (ovp ov) u8V xs := by
  rw [← fl_u8] at hov hin
  exact RdSl.own' hw hin hov u8V_len
theorem RuI.rd {st : RS} {b : List Int} (hI : RuI st b) {w0 w : World} {S : List Nat} {L : Lst} (hw : Hp w0 S L w) (hin : ∀ x ∈ blkL 5 st.ov (u8s st.xs), x ∈ L) : RdSl w st.p u8V st.lf := by
  rw [hI.lf]
  exact hI.sfx.rd _ _ rfl (rdown hI.ov hw hin)
end Go.Proofs.Ytplhnkmmhndkjaa
set_option linter.unusedSimpArgs false
set_option linter.unusedVariables false
set_option linter.unusedSectionVars false
namespace Go.Proofs.Ytplhnkmmhndkjaa
open Go.RowKit Go.Shelf
section
variable {X : Cx} {σ : Env} {L L' Li Lr : Lst} {d : Option Nat} {dd c : Nat} {ty : TypeId} {pos : String} {af : Array Edge} {g : Option (Nat × Bool)} {x y : Operand} {t t2 e : TypeId} {r r2 re : TRow}
variable {all : Array Oper} {rest : List Oper} {K : Env → Lst → Prop} {p : Option Addr} {n m cap i b : Nat}
/-- An array's variable, cut to a slice of all of it. -/
theorem Ok1.sliceArr {o : Nat} (ht : X.tb.row t = some r) (hk : r.k = .arr n e) (he : X.tb.row e = some re) (hx : ev σ x = some (.pointer (some ⟨b, o, none⟩))) :
    Ok1 X ⟨d, .slice t x none none none, ty, pos, af, g⟩ σ L (.slice (some ⟨b, o, none⟩) n n) := .mk fun a w ha hw => by
  have h2 := (X.tb.get ht).is
  rw [hk] at h2
  simp only [TK.is] at h2
  simp [execOp, Instr.sliceAt, run_underlying h2, ha.ev hx, Instr.sureAddr, Instr.sliceBounds, (X.tb.get he).size, Addr.add_none]
end
end Go.Proofs.Ytplhnkmmhndkjaa
set_option linter.unusedSimpArgs false
set_option linter.unusedVariables false
namespace Go.Proofs.Ytplhnkmmhndkjaa
open Go.RowKit Go.Shelf
section
variable {X : Cx} {all : Array Oper} {C L L' : Lst} {fuel fuel' : Nat} {listed listed' : Array Bool} {K : Env → Lst → Prop} {σ σ' : Env}
theorem A.weak (h : A X all C fuel listed K σ' L') (hs : Sub σ' σ) (hk : Keep L L') : A X all C fuel listed K σ L := ⟨fun a w ha hw hC => h.run a w (ha.sub hs) (hw.keep hk) hC⟩
theorem A.merge (P : Env → Lst → Prop) (fuel' : Nat) (listed' : Array Bool) (h1 : ∀ σ L, P σ L → A X all C fuel' listed' K σ L) (h2 : (∀ σ L, P σ L → A X all C fuel' listed' K σ L) → A X all C fuel listed K σ L) : A X all C fuel listed K σ L := h2 h1
/-- Those of a list, one by one. -/
def AllOf (X : Cx) (all : Array Oper) (C : Lst) (fuel : Nat) (listed : Array Bool) (K : Env → Lst → Prop) (σ : Env) (L : Lst) : List Nat → Prop
  | [] => True
  | i :: is => (∃ o, all[i]? = some o ∧ R X all [o] (fun σ' L' => SubL C L' ∧ A X all C fuel (listed.setIfInBounds i true) K σ' L') σ L) ∧ AllOf X all C fuel listed K σ L is
theorem AllOf.get : ∀ {rs : List Nat}, AllOf X all C fuel listed K σ L rs → ∀ i ∈ rs, ∃ o, all[i]? = some o ∧ R X all [o] (fun σ' L' => SubL C L' ∧ A X all C fuel (listed.setIfInBounds i true) K σ' L') σ L
  | [], _, i, hi => by cases hi
  | j :: js, h, i, hi => by
    rcases List.mem_cons.1 hi with rfl | hi
    · exact h.1
    · exact AllOf.get h.2 i hi
theorem A.multi (rs : List Nat) (hr : Region.ready .any all listed = rs) (hne : rs ≠ []) (h : AllOf X all C fuel listed K σ L rs) : A X all C (fuel + 1) listed K σ L :=
  ⟨fun a w ha hw hC => wpAnyC_all hr hne fun w' hc i hi => by
    obtain ⟨o, ho, h2⟩ := h.get i hi
    exact A.step ho h2 ha (hw.step hc) (hC.step hc)⟩
end
section
variable {X : Cx} {σ : Env} {L L' : Lst} {d : Option Nat} {dd b : Nat} {ty : TypeId} {pos : String} {af : Array Edge} {g : Option (Nat × Bool)} {x : Operand} {t e : TypeId} {r re : TRow}
variable {all : Array Oper} {rest : List Oper} {K : Env → Lst → Prop}
end
end Go.Proofs.Ytplhnkmmhndkjaa
