/- Lists of known blocks with parts that are not spelt out: where a block or a part lies in them, what is kept, loops and calls over them. -/
import Derived.Test.YtdfdfohfnjefiaaEng13
set_option linter.unusedSimpArgs false
set_option linter.unusedVariables false
set_option linter.unusedSectionVars false
namespace Go.Proofs.Ytdfdfohfnjefiaa
open Go.RowKit Go.Shelf

theorem At.right {A B : Lst} {b : Nat} {o : Obj} (h : At B b o) : At (A ++ B) b o := by
  induction A with
  | nil => exact h
  | cons x A ih => exact .tail ih
theorem At.left {A B : Lst} {b : Nat} {o : Obj} (h : At A b o) : At (A ++ B) b o := by
  induction h with
  | head => exact .head
  | tail _ ih => exact .tail ih
theorem Upd.right {A B B' : Lst} {b : Nat} {o o' : Obj} (h : Upd B b o o' B') : Upd (A ++ B) b o o' (A ++ B') := by
  induction A with
  | nil => exact h
  | cons x A ih => exact .tail ih
theorem Del.right {A B B' : Lst} {b : Nat} {o : Obj} (h : Del B b o B') : Del (A ++ B) b o (A ++ B') := by
  induction A with
  | nil => exact h
  | cons x A ih => exact .tail ih
theorem OwnAt.right {e sz n : Nat} {A L L1 : Lst} {v : Value} {xs : List Value} (h : OwnAt e sz L v n xs L1) : OwnAt e sz (A ++ L) v n xs (A ++ L1) := by
  cases h with
  | nil => exact .nil _
  | blk h1 h2 h3 => exact .blk h1.right h2 h3
theorem OwnAt.mid {e sz n : Nat} {ov : Ov} {xs : List Value} {B : Lst} (h : OvOk sz ov n xs) : OwnAt e sz (blkL e ov xs ++ B) (slV ov n) n xs B := by
  obtain ⟨h1, h2⟩ := h
  cases ov with
  | none =>
    subst h2
    have : xs = [] := by cases xs; rfl; simp at h1
    subst this
    exact .nil B
  | some q => obtain ⟨b, j, junk⟩ := q; exact .blk .head h1 h2

theorem Ok1.lenMm {X : Cx} {σ : Env} {L : Lst} {t kt et : TypeId} {r : TRow} {κ α : Type} {kv : κ → Value} {vv : α → Value} {ms : Ms κ α} {clk b : Nat} {x : Operand} {ty : TypeId} {pos : String} {af : Array Edge} {d : Option Nat} {g : Option (Nat × Bool)}
    (hkt : X.tb.row t = some r) (hk : r.k = .map kt et) (hx : ev σ x = some (.map (some b))) (hat : At L b (mobj kv vv ms clk)) : Ok1 X ⟨d, .call { callee := .builtin .len, args := #[x], argTypes := #[t] }, ty, pos, af, g⟩ σ L (.int .i64 ms.length) := by
  classical exact Ok1.lenM hkt hk hx hat
/-- The part seg lies in L; the rest is L1. -/
inductive Ext : Lst → Lst → Lst → Prop where
  | none (L : Lst) : Ext L [] L
  | all (L : Lst) : Ext L L []
  | here (A B : Lst) : Ext (A ++ B) A B
  | one (x : Nat × Obj) (L : Lst) : Ext (x :: L) [x] L
  | cons (x : Nat × Obj) {L s L1 : Lst} : Ext L s L1 → Ext (x :: L) s (x :: L1)
  | app (A : Lst) {L s L1 : Lst} : Ext L s L1 → Ext (A ++ L) s (A ++ L1)
  | two (x : Nat × Obj) {L L1 s L2 : Lst} : Ext L [x] L1 → Ext L1 s L2 → Ext L (x :: s) L2
theorem Ext.perm {L s L1 : Lst} (h : Ext L s L1) : (s ++ L1).Perm L := by
  induction h with
  | none L => exact .refl _
  | all L => simp
  | here A B => exact .refl _
  | one x L => exact .refl _
  | cons x _ ih => exact List.perm_middle.trans (ih.cons x)
  | @app A L s L1 _ ih =>
    have h1 : (s ++ (A ++ L1)).Perm (A ++ (s ++ L1)) := by
      rw [← List.append_assoc, ← List.append_assoc]
      exact List.perm_append_comm.append_right L1
    exact h1.trans (ih.append_left A)
  | two x _ _ ih1 ih2 => exact (ih2.cons x).trans ih1
/-- Of L, L' is kept. -/
inductive Keep : Lst → Lst → Prop where
  | nil (L : Lst) : Keep L []
  | last {L s L1 : Lst} : Ext L s L1 → Keep L s
  | cons {x : Nat × Obj} {L L1 R : Lst} : Ext L [x] L1 → Keep L1 R → Keep L (x :: R)
  | app {L s L1 R : Lst} : Ext L s L1 → Keep L1 R → Keep L (s ++ R)
theorem Keep.perm {L L' : Lst} (h : Keep L L') : ∃ r, (L' ++ r).Perm L := by
  induction h with
  | nil L => exact ⟨L, .refl _⟩
  | last h => exact ⟨_, h.perm⟩
  | cons h _ ih => obtain ⟨r, hr⟩ := ih; exact ⟨r, (hr.cons _).trans h.perm⟩
  | app h _ ih => obtain ⟨r, hr⟩ := ih; exact ⟨r, by rw [List.append_assoc]; exact (hr.append_left _).trans h.perm⟩
theorem Hp.keep {w0 w : World} {S : List Nat} {L L' : Lst} (h : Hp w0 S L w) (hk : Keep L L') : Hp w0 S L' w := by
  obtain ⟨r, hr⟩ := hk.perm
  exact (h.perm hr).sub (List.sublist_append_left _ _)

section
variable {X : Cx} {σ : Env} {L Li Lr : Lst} {Q : Post} {c x y : Code}
theorem T.weakK {σ' : Env} {L' : Lst} (h : T X c Q σ' L') (hk : Keep L L') (hs : Sub σ' σ) : T X c Q σ L := ⟨fun a w ha hw => h.run a w (ha.sub hs) (hw.keep hk)⟩
theorem T.loopK {α : Type} (I : α → Prop) (σi : α → Env) (Li : α → Lst) (μ : α → Nat) (i0 : α) (h0 : I i0) (hs : Sub (σi i0) σ) (hL : Keep L (Li i0))
    (hr : ∀ i, I i → T X c (thenQ (fun σ L => ∃ j, I j ∧ μ j < μ i ∧ Sub (σi j) σ ∧ Keep L (Li j)) Q) (σi i) (Li i)) : T X (.loop c) Q σ L := by
  refine ⟨fun a w ha hw => ?_⟩
  have key : ∀ m i, I i → μ i < m → ∀ a w, Mod X.n a (σi i) → Hp X.w0 X.S (Li i) w → Code.rounds X.P c (X.lift Q) m a w := by
    intro m
    induction m with
    | zero => intro i _ h; omega
    | succ m ih =>
      intro i hi hm a w ha hw
      rw [rounds_succ]
      refine wp_mono ((hr i hi).run a w ha hw) fun e a w ⟨σ, L, h1, h2, h3⟩ => ?_
      cases e with
      | normal =>
        obtain ⟨j, h4, h5, h6, h7⟩ := h3
        exact ih j h4 (by omega) a w (h1.sub h6) (h2.keep h7)
      | _ => exact ⟨σ, L, h1, h2, h3⟩
  exact wp_loop_rounds (μ i0 + 1) (key _ i0 h0 (by omega) a w (ha.sub hs) (hw.keep hL))
theorem T.meetK {α : Type} (I : α → Prop) (σi : α → Env) (Li : α → Lst)
    (h : T X x (thenQ (fun σ L => ∃ j, I j ∧ Sub (σi j) σ ∧ Keep L (Li j)) Q) σ L) (hk : ∀ i, I i → T X y Q (σi i) (Li i)) : T X (.seq x y) Q σ L :=
  T.seq (h.mono fun e σ L hq => by
    cases e with
    | normal =>
      obtain ⟨j, h1, h2, h3⟩ := hq
      exact T.weakK (hk j h1) h3 h2
    | _ => exact hq)
end
section
variable {X : Cx} {σ : Env} {L Li Lr : Lst} {dd : Nat} {ty : TypeId} {pos : String} {af : Array Edge} {f : FuncId} {ats : Array TypeId}
variable {all : Array Oper} {rest : List Oper} {K : Env → Lst → Prop} {xs : List Operand} {vs : List Value}
theorem R.callE {R1 : Value → Lst → Prop} (he : X.tb.fns.contains f = true) (hx : evs σ xs = some vs) (hn : Nat.blt dd X.n = true) (hp : Ext L Li Lr) (hc : ∀ w, Hp X.w0 X.S L w → CallM X.P f vs Li w R1) (h : ∀ v Lo, R1 v Lo → R X all rest K ((dd, v) :: σ) (Lo ++ Lr)) :
    R X all (⟨some dd, .call { callee := .value (.func f), args := xs.toArray, argTypes := ats }, ty, pos, af, none⟩ :: rest) K σ L :=
  R.call (α := Value × Lst) (v := fun v => v.1) (L' := fun v => v.2 ++ Lr) (I := fun v => R1 v.1 v.2) he hx hn (fun w hw => by
    have hw2 := hw.perm hp.perm
    have hin : Hp w (blks Li) Li w := ⟨.refl _ _, fun b o hm => hw2.get b o (List.mem_append_left _ hm), (List.nodup_append.1 (by have := hw2.nod; rwa [List.map_append] at this)).1, fun b o hm => .inr (List.mem_map.2 ⟨(b, o), hm, rfl⟩)⟩
    exact ((hc w hw).run hin).mono fun e w' ⟨v, Lo, h1, h2, h3⟩ => ⟨(v, Lo), h1, hw2.callM h3, h2⟩) fun v hv => h v.1 v.2 hv
theorem Ext.mem {L s L1 : Lst} (h : Ext L s L1) : ∀ x ∈ s, x ∈ L := fun x hx => h.perm.subset (List.mem_append_left _ hx)
/-- What is read by one who is called lies in none of the blocks that he may write. -/
theorem RdSl.off {w0 w : World} {S : List Nat} {L Li Lr : Lst} (hw : Hp w0 S L w) (he : Ext L Li Lr) {b : Nat} {o : Obj} (hm : (b, o) ∈ Lr) : b ∉ blks Li := by
  have h2 := (hw.perm he.perm).nod
  rw [List.map_append, List.nodup_append] at h2
  intro hb
  exact h2.2.2 b hb b (List.mem_map.2 ⟨(b, o), hm, rfl⟩) rfl
theorem enterK {P : Program} (tb : Tb P) {f : FuncId} {fn : Func} {c : Code} {vs : List Value} {n : Nat} {R1 : Value → Lst → Prop} {w : World} {L : Lst}
    (hf : P.funcs[f]? = some fn) (hb : fn.body = some c) (hn : fn.ntmps = n) (hvn : Nat.ble vs.length n = true)
    (h : T ⟨P, tb, n, w, blks L⟩ c (retQ ⟨P, tb, n, w, blks L⟩ fn.results.toList fun v Lo => ∃ L', Keep Lo L' ∧ R1 v L') (number 0 vs) L) : CallM P f vs L w R1 :=
  ⟨fun hw => (enter hf hb hn (Nat.le_of_ble_eq_true hvn) hw h).mono fun e w' ⟨v, Lo, h1, ⟨L', h2, h3⟩, h4⟩ => ⟨v, L', h1, h3, h4.keep h2⟩⟩
end
end Go.Proofs.Ytdfdfohfnjefiaa
