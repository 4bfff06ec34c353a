/- The judgement T over code and R over a region's operations, over a symbolic frame and a list of known blocks; rules for the control words; the entry into a function. -/
import Derived.Test.YtligpachgcmkcaaEng1
import Derived.LoopN
set_option linter.unusedSimpArgs false
set_option linter.unusedVariables false
namespace Go.Proofs.Ytligpachgcmkcaa
open Go.RowKit Go.Shelf

/-! ### the types' table -/
inductive TK where
  | int (k : IntKind)
  | bool
  | string
  | ptr (e : Nat)
  | slice (e : Nat)
  | arr (n e : Nat)
  | map (k e : Nat)
  | strct (fs : List (Nat × Nat × Nat))
  | fn
  | other
structure TRow where
  k : TK
  size : Nat
  bytes : Nat
  zero : Value
def Flds (P : Program) : List Field → List (Nat × Nat × Nat) → Prop
  | [], [] => True
  | f :: r, (t, off, sz) :: s => f.type = t ∧ f.offset = off ∧ (∀ w, (Go.sizeOf t).run P w = .ok sz w) ∧ (f.name == "_") = false ∧ Flds P r s
  | _, _ => False
def TK.is (P : Program) (t : Nat) : TK → Prop
  | .int k => P.underlying t = some (.int k)
  | .bool => P.underlying t = some .bool
  | .string => P.underlying t = some .string
  | .ptr e => P.underlying t = some (.pointer e)
  | .slice e => P.underlying t = some (.slice e)
  | .arr n e => P.underlying t = some (.array n e)
  | .map k e => P.underlying t = some (.map k e)
  | .strct fs => ∃ fields : Array Field, P.underlying t = some (.struct fields) ∧ Flds P fields.toList fs
  | .fn => ∃ (ps rs : Array TypeId) (v : Bool), P.underlying t = some (.func ps rs v)
  | .other => True
def TK.agg : TK → Option Bool
  | .strct _ => some true
  | .arr .. => some true
  | .other => none
  | _ => some false
structure TGood (P : Program) (t : Nat) (r : TRow) : Prop where
  is : r.k.is P t
  size : ∀ w, (Go.sizeOf t).run P w = .ok r.size w
  zero : ∀ w, (zeroValue t).run P w = .ok r.zero w
  plain : match r.k with | .strct _ => P.stoodInHeld t = false | _ => True
  bytes : (P.info? t).map (·.bytes) = some r.bytes
def TGoods (P : Program) : Nat → List (Option TRow) → Prop
  | _, [] => True
  | k, some r :: rs => TGood P k r ∧ TGoods P (k + 1) rs
  | k, none :: rs => TGoods P (k + 1) rs
def FGoods (P : Program) : List Nat → Prop
  | [] => True
  | f :: r => Enters P f ∧ FGoods P r
/-- The program's tables: types (by number), functions that have a body. -/
structure Tb (P : Program) where
  rows : List (Option TRow)
  good : TGoods P 0 rows
  fns : List Nat
  fgood : FGoods P fns
  mix : P.follows .mixedOrders = true
  deep : 8 ≤ P.depth
def Tb.row {P : Program} (tb : Tb P) (t : Nat) : Option TRow := match tb.rows[t]? with | some r => r | none => none
theorem TGoods.get {P : Program} : ∀ {rs : List (Option TRow)} {k i : Nat} {r : TRow}, TGoods P k rs → rs[i]? = some (some r) → TGood P (k + i) r
  | [], _, _, _, _, h => by cases h
  | some r :: rs, k, 0, r', h, e => by cases e; exact h.1
  | none :: rs, k, 0, r', h, e => by cases e
  | some r :: rs, k, i + 1, r', h, e => by have := TGoods.get h.2 (i := i) e; rwa [Nat.add_right_comm, Nat.add_assoc] at this
  | none :: rs, k, i + 1, r', h, e => by have := TGoods.get (rs := rs) h (i := i) e; rwa [Nat.add_right_comm, Nat.add_assoc] at this
theorem Tb.get {P : Program} (tb : Tb P) {t : Nat} {r : TRow} (h : tb.row t = some r) : TGood P t r := by
  unfold Tb.row at h
  cases e : tb.rows[t]? with
  | none => rw [e] at h; cases h
  | some x => rw [e] at h; cases h; have := TGoods.get tb.good e; rwa [Nat.zero_add] at this
theorem FGoods.get {P : Program} : ∀ {l : List Nat} {f : Nat}, FGoods P l → f ∈ l → Enters P f
  | [], _, _, h => by cases h
  | g :: r, f, h, hm => by
    rcases List.mem_cons.1 hm with e | hm
    · subst e; exact h.1
    · exact FGoods.get h.2 hm
theorem Tb.ent {P : Program} (tb : Tb P) {f : Nat} (h : tb.fns.contains f = true) : Enters P f := FGoods.get tb.fgood (by simpa using h)
theorem TGood.agg {P : Program} {t : Nat} {r : TRow} {b : Bool} (h : TGood P t r) (hb : r.k.agg = some b) (w : World) : (isAgg t).run P w = .ok b w := by
  have h1 := h.is
  cases hk : r.k <;> rw [hk] at h1 hb <;> simp only [TK.agg, Option.some.injEq] at hb <;> first | cases hb | skip
  all_goals (try subst hb)
  all_goals simp only [TK.is] at h1
  all_goals first
    | exact run_isAgg_plain h1 rfl w
    | (obtain ⟨ps, rs, vv, h2⟩ := h1; exact run_isAgg_plain h2 rfl w)
    | (obtain ⟨fs, h2, _⟩ := h1; simp [isAgg, run_underlying h2])
    | simp [isAgg, run_underlying h1]

/-- What a walk is over: the program, how many slots the frame has, the world at the call's start, which old blocks may be written. -/
structure Cx where
  P : Program
  tb : Tb P
  n : Nat
  w0 : World
  S : List Nat

abbrev Post := Exit → Env → Lst → Prop
def Cx.lift (X : Cx) (Q : Post) : Exit → Act → World → Prop := fun e a w => ∃ σ L, Mod X.n a σ ∧ Hp X.w0 X.S L w ∧ Q e σ L

structure T (X : Cx) (c : Code) (Q : Post) (σ : Env) (L : Lst) : Prop where
  run : ∀ a w, Mod X.n a σ → Hp X.w0 X.S L w → c.wp X.P (X.lift Q) a w

def thenQ (K : Env → Lst → Prop) (Q : Post) : Post := fun e σ L => match e with
  | .normal => K σ L
  | .exit id => Q (.exit id) σ L
  | .goto l => Q (.goto l) σ L
  | .ret => Q .ret σ L
  | .panic c => Q (.panic c) σ L
  | .outgrown => Q .outgrown σ L
def blockQ (id : Nat) (Q : Post) : Post := fun e σ L => match e with
  | .exit id' => match Nat.beq id' id with | true => Q .normal σ L | false => Q (.exit id') σ L
  | .normal => Q .normal σ L
  | .goto l => Q (.goto l) σ L
  | .ret => Q .ret σ L
  | .panic c => Q (.panic c) σ L
  | .outgrown => Q .outgrown σ L
def scopeQ (Q : Post) : Post := fun e σ L => match e with
  | .goto _ => False
  | .normal => Q .normal σ L
  | .exit id => Q (.exit id) σ L
  | .ret => Q .ret σ L
  | .panic c => Q (.panic c) σ L
  | .outgrown => Q .outgrown σ L

section
variable {X : Cx} {Q : Post} {σ : Env} {L : Lst} {x y c : Code} {K : Env → Lst → Prop}

theorem T.skip (h : Q .normal σ L) : T X .skip Q σ L := ⟨fun a w ha hw => wp_skip ⟨σ, L, ha, hw, h⟩⟩
theorem T.label {l : Nat} (h : Q .normal σ L) : T X (.label l) Q σ L := ⟨fun a w ha hw => wp_label ⟨σ, L, ha, hw, h⟩⟩
theorem T.exit {id : Nat} (h : Q (.exit id) σ L) : T X (.exit id) Q σ L := ⟨fun a w ha hw => wp_exit ⟨σ, L, ha, hw, h⟩⟩
theorem T.ret (h : Q .ret σ L) : T X .ret Q σ L := ⟨fun a w ha hw => wp_ret ⟨σ, L, ha, hw, h⟩⟩
theorem T.mono {Q' : Post} (h : T X c Q σ L) (hq : ∀ e σ L, Q e σ L → Q' e σ L) : T X c Q' σ L :=
  ⟨fun a w ha hw => wp_mono (h.run a w ha hw) fun e a w ⟨σ, L, h1, h2, h3⟩ => ⟨σ, L, h1, h2, hq e σ L h3⟩⟩
theorem T.seq (h : T X x (thenQ (T X y Q) Q) σ L) : T X (.seq x y) Q σ L :=
  ⟨fun a w ha hw => wp_seq (wp_mono (h.run a w ha hw) fun e a w ⟨σ, L, h1, h2, h3⟩ => by
    cases e <;> first | exact h3.run a w h1 h2 | exact ⟨σ, L, h1, h2, h3⟩)⟩
theorem T.block {id : Nat} (h : T X c (blockQ id Q) σ L) : T X (.block id c) Q σ L :=
  ⟨fun a w ha hw => wp_block (wp_mono (h.run a w ha hw) fun e a w ⟨σ, L, h1, h2, h3⟩ => by
    cases e with
    | exit id' =>
      simp only [blockQ] at h3
      simp only [Exit.inBlock]
      by_cases e : id' = id
      · subst e; rw [Nat.beq_refl] at h3; rw [if_pos rfl]; exact ⟨σ, L, h1, h2, h3⟩
      · have e' : Nat.beq id' id = false := by
          cases hb : Nat.beq id' id with
          | false => rfl
          | true => exact (e (Nat.eq_of_beq_eq_true hb)).elim
        rw [e'] at h3; rw [if_neg e]; exact ⟨σ, L, h1, h2, h3⟩
    | _ => exact ⟨σ, L, h1, h2, h3⟩)⟩
theorem T.scope (h : T X c (scopeQ Q) σ L) : T X (.scope c) Q σ L :=
  ⟨fun a w ha hw => wp_scope_straight (wp_mono (h.run a w ha hw) fun e a w ⟨σ, L, h1, h2, h3⟩ => by
    cases e <;> first | exact h3.elim | exact ⟨σ, L, h1, h2, h3⟩)⟩
theorem T.cond {z : Operand} {b : Bool} (hc : ev σ z = some (.bool b)) (h1 : b = true → T X x Q σ L) (h2 : b = false → T X y Q σ L) : T X (.cond z x y) Q σ L :=
  ⟨fun a w ha hw => wp_cond_split (ha.ev hc) (fun e => (h1 e).run a w ha hw) (fun e => (h2 e).run a w ha hw)⟩
theorem T.cond_t {z : Operand} (hc : ev σ z = some (.bool true)) (h : T X x Q σ L) : T X (.cond z x y) Q σ L := .cond hc (fun _ => h) (fun e => by cases e)
theorem T.cond_f {z : Operand} (hc : ev σ z = some (.bool false)) (h : T X y Q σ L) : T X (.cond z x y) Q σ L := .cond hc (fun e => by cases e) (fun _ => h)

/-- A frame that knows less. -/
def Sub : Env → Env → Prop
  | [], _ => True
  | (t, v) :: r, σ => look σ t = some v ∧ Sub r σ
theorem Sub.ok {σ' σ : Env} (h : Sub σ' σ) : ∀ t v, look σ' t = some v → look σ t = some v := by
  induction σ' with
  | nil => intro t v e; cases e
  | cons p r ih =>
    obtain ⟨k, u⟩ := p
    intro t v e
    simp only [look] at e
    cases hb : Nat.beq k t with
    | true => rw [hb] at e; cases e; rw [← Nat.eq_of_beq_eq_true hb]; exact h.1
    | false => rw [hb] at e; exact ih h.2 t v e
theorem Mod.sub {n : Nat} {a : Act} {σ σ' : Env} (h : Mod n a σ) (hs : Sub σ' σ) : Mod n a σ' := ⟨h.size, h.defers, fun t v e => h.ok t v (hs.ok t v e)⟩
/-- A list of blocks that knows less (each named block once). -/
def SubL : Lst → Lst → Prop
  | [], _ => True
  | (b, o) :: r, L => At L b o ∧ SubL r L
theorem SubL.mem {L' L : Lst} (h : SubL L' L) : ∀ b o, (b, o) ∈ L' → (b, o) ∈ L := by
  induction L' with
  | nil => intro b o hm; cases hm
  | cons p r ih =>
    obtain ⟨k, u⟩ := p
    intro b o hm
    rcases List.mem_cons.1 hm with e | hm
    · cases e; exact h.1.mem
    · exact ih h.2 b o hm

/-- What is known of the heap is kept, of a part of the blocks, in whatever order (that they are apart comes from the whole). -/
theorem Hp.part {w0 w : World} {S : List Nat} {L L' : Lst} (h : Hp w0 S L w) (hs : SubL L' L) (hn : (L'.map (·.1)).Nodup) : Hp w0 S L' w :=
  ⟨h.chg, fun b o hm => h.get b o (hs.mem b o hm), hn, fun b o hm => h.own b o (hs.mem b o hm)⟩

/-- The blocks of L' are, at these places (ascending or not, no place twice), blocks of L. -/
def pick (L : Lst) : List Nat → Lst
  | [] => []
  | i :: r => match L[i]? with | some x => x :: pick L r | none => pick L r
theorem pick_mem {L : Lst} {is : List Nat} {x : Nat × Obj} (h : x ∈ pick L is) : ∃ i, i ∈ is ∧ L[i]? = some x := by
  induction is with
  | nil => cases h
  | cons i r ih =>
    simp only [pick] at h
    cases hi : L[i]? with
    | none => rw [hi] at h; obtain ⟨j, h1, h2⟩ := ih h; exact ⟨j, List.mem_cons_of_mem _ h1, h2⟩
    | some y =>
      rw [hi] at h
      rcases List.mem_cons.1 h with e | h
      · subst e; exact ⟨i, List.mem_cons_self, hi⟩
      · obtain ⟨j, h1, h2⟩ := ih h; exact ⟨j, List.mem_cons_of_mem _ h1, h2⟩
theorem pick_nodup {L : Lst} (hn : (L.map (·.1)).Nodup) {is : List Nat} (hi : is.Nodup) : ((pick L is).map (·.1)).Nodup := by
  induction is with
  | nil => simp [pick]
  | cons i r ih =>
    simp only [List.nodup_cons] at hi
    simp only [pick]
    cases h : L[i]? with
    | none => exact ih hi.2
    | some x =>
      simp only [List.map_cons, List.nodup_cons]
      refine ⟨fun hm => ?_, ih hi.2⟩
      obtain ⟨y, hy, e⟩ := List.mem_map.1 hm
      obtain ⟨j, hj, hj2⟩ := pick_mem hy
      obtain ⟨hil, hie⟩ := List.getElem?_eq_some_iff.1 h
      obtain ⟨hjl, hje⟩ := List.getElem?_eq_some_iff.1 hj2
      have hne : ∀ i j (hi : i < L.length) (hj : j < L.length), i < j → L[i].1 ≠ L[j].1 := by
        intro i j hi hj hij
        have := (List.pairwise_iff_getElem.1 hn) i j (by simpa using hi) (by simpa using hj) hij
        simpa using this
      have hxy : L[i].1 = L[j].1 := by rw [hie, hje, e]
      have : i = j := by
        rcases Nat.lt_trichotomy i j with h1 | h1 | h1
        · exact (hne i j hil hjl h1 hxy).elim
        · exact h1
        · exact (hne j i hjl hil h1 hxy.symm).elim
      exact hi.1 (this ▸ hj)
theorem Hp.pick {w0 w : World} {S : List Nat} {L : Lst} (h : Hp w0 S L w) {is : List Nat} (hi : is.Nodup) : Hp w0 S (pick L is) w :=
  ⟨h.chg, fun b o hm => by obtain ⟨i, _, e⟩ := pick_mem hm; exact h.get b o (List.mem_of_getElem? e), pick_nodup h.nod hi, fun b o hm => by obtain ⟨i, _, e⟩ := pick_mem hm; exact h.own b o (List.mem_of_getElem? e)⟩

/-- The state is cut down: σ' of the frame, the blocks at the places 'is'. -/
theorem T.weak {σ' : Env} (is : List Nat) (h : T X c Q σ' (pick L is)) (hi : is.Nodup) (hs : Sub σ' σ) : T X c Q σ L :=
  ⟨fun a w ha hw => h.run a w (ha.sub hs) (hw.pick hi)⟩

/-- Rounds of a loop, one at a time. -/
def Rnd (X : Cx) (c : Code) (Q : Post) : Nat → Env → Lst → Prop
  | 0 => fun _ _ => False
  | k + 1 => T X c (thenQ (Rnd X c Q k) Q)
theorem Rnd.run : ∀ {k : Nat} {σ : Env} {L : Lst}, Rnd X c Q k σ L → ∀ a w, Mod X.n a σ → Hp X.w0 X.S L w → Code.rounds X.P c (X.lift Q) k a w
  | 0, _, _, h, _, _, _, _ => h.elim
  | k + 1, σ, L, h, a, w, ha, hw => by
    rw [rounds_succ]
    exact wp_mono (T.run h a w ha hw) fun e a w ⟨σ, L, h1, h2, h3⟩ => by
      cases e <;> first | exact Rnd.run h3 a w h1 h2 | exact ⟨σ, L, h1, h2, h3⟩
theorem T.rounds (k : Nat) (h : Rnd X c Q k σ L) : T X (.loop c) Q σ L :=
  ⟨fun a w ha hw => wp_loop_rounds k (h.run a w ha hw)⟩
theorem Rnd.step {k : Nat} (h : T X c (thenQ (Rnd X c Q k) Q) σ L) : Rnd X c Q (k + 1) σ L := h

/-- A loop by an invariant: at every round's head the state is '(σ i, L i)' for some i of which 'I i' holds; every round that goes on lowers the measure. -/
theorem T.loop {α : Type} (I : α → Prop) (σi : α → Env) (Li : α → Lst) (μ : α → Nat) (is : List Nat) (i0 : α) (h0 : I i0) (hs : Sub (σi i0) σ) (hn : is.Nodup) (hL : pick L is = Li i0)
    (hr : ∀ i, I i → T X c (thenQ (fun σ L => ∃ j is, I j ∧ μ j < μ i ∧ Sub (σi j) σ ∧ is.Nodup ∧ pick L is = Li j) Q) (σi i) (Li i)) : T X (.loop c) Q σ L := by
  refine ⟨fun a w ha hw => ?_⟩
  have key : ∀ m i, I i → μ i < m → ∀ a w, Mod X.n a (σi i) → Hp X.w0 X.S (Li i) w → Code.rounds X.P c (X.lift Q) m a w := by
    intro m
    induction m with
    | zero => intro i _ h; omega
    | succ m ih =>
      intro i hi hm a w ha hw
      rw [rounds_succ]
      refine wp_mono ((hr i hi).run a w ha hw) fun e a w ⟨σ, L, h1, h2, h3⟩ => ?_
      cases e with
      | normal =>
        obtain ⟨j, is, h4, h5, h6, h7, h8⟩ := h3
        exact ih j h4 (by omega) a w (h1.sub h6) (h8 ▸ h2.pick h7)
      | _ => exact ⟨σ, L, h1, h2, h3⟩
  exact wp_loop_rounds (μ i0 + 1) (key _ i0 h0 (by omega) a w (ha.sub hs) (hL ▸ hw.pick hn))

/-- Ways meet again: behind x the state is '(σi i, Li i)' for some i. -/
theorem T.meet {α : Type} (I : α → Prop) (σi : α → Env) (Li : α → Lst)
    (h : T X x (thenQ (fun σ L => ∃ j is, I j ∧ Sub (σi j) σ ∧ is.Nodup ∧ pick L is = Li j) Q) σ L) (hk : ∀ i, I i → T X y Q (σi i) (Li i)) : T X (.seq x y) Q σ L :=
  T.seq (h.mono fun e σ L hq => by
    cases e with
    | normal =>
      obtain ⟨j, is, h1, h2, h3, h4⟩ := hq
      exact T.weak is (h4 ▸ hk j h1) h3 h2
    | _ => exact hq)

/-! ### a region's operations, in the text's order -/
def Cx.liftK (X : Cx) (K : Env → Lst → Prop) : Exit → Act → World → Prop := fun e a w => e = .normal ∧ ∃ σ L, Mod X.n a σ ∧ Hp X.w0 X.S L w ∧ K σ L
structure R (X : Cx) (all : Array Oper) (l : List Oper) (K : Env → Lst → Prop) (σ : Env) (L : Lst) : Prop where
  run : ∀ a w, Mod X.n a σ → Hp X.w0 X.S L w → wpList X.P all (X.liftK K) l a w

theorem wpList_mono {P : Program} {ops : Array Oper} {Q Q' : Exit → Act → World → Prop} (hq : ∀ e a w, Q e a w → Q' e a w) : ∀ (l : List Oper) (a : Act) (w : World), wpList P ops Q l a w → wpList P ops Q' l a w
  | [], a, w, h => hq _ _ _ h
  | o :: r, a, w, h => by
    unfold wpList at h ⊢
    by_cases hw : Region.wanted o (yielded ops a.tmps) = true
    · rw [if_pos hw] at h ⊢
      refine h.imp (fun h => ?_) (fun h => ⟨h.1, h.2.choose, h.2.choose_spec.choose, hq _ _ _ h.2.choose_spec.choose_spec⟩)
      unfold Oper.wp at *
      generalize (execOp a.eval o).run P w = r at *
      cases r with
      | ok x w' =>
        cases x <;> simp only [Oper.upon] at h ⊢ <;>
          first
            | exact wpList_mono hq _ _ _ h
            | exact Calls.mono h (fun e w'' he => by cases e <;> first | exact wpList_mono hq _ _ _ he | exact hq _ _ _ he | (obtain ⟨a, w, h2⟩ := he; exact ⟨a, w, hq _ _ _ h2⟩))
            | exact Rows.mono h (fun _ _ he => wpList_mono hq _ _ _ he)
      | halt x w' => cases x <;> simp only [Oper.upon] at h ⊢ <;> first | exact hq _ _ _ h | exact h
    · rw [if_neg hw] at h ⊢; exact wpList_mono hq _ _ _ h

theorem T.region {id : Nat} {ops : Array Oper} (h : R X ops ops.toList (Q .normal) σ L) : T X (.region id ops false) Q σ L :=
  ⟨fun a w ha hw => wp_region_list (wpList_mono (fun e a w ⟨he, σ, L, h1, h2, h3⟩ => ⟨σ, L, h1, h2, he ▸ h3⟩) _ _ _ (h.run a w ha hw))⟩

variable {all : Array Oper} {rest : List Oper} {o : Oper}
theorem R.nil (h : K σ L) : R X all [] K σ L := ⟨fun a w ha hw => ⟨rfl, σ, L, ha, hw, h⟩⟩

theorem blt_lt {a b : Nat} (h : Nat.blt a b = true) : a < b := by simpa [Nat.blt_eq] using h
/-- An operation that leaves the world alone and yields v. -/
structure Ok1 (X : Cx) (o : Oper) (σ : Env) (L : Lst) (v : Value) : Prop where
  run : ∀ a w, Mod X.n a σ → Hp X.w0 X.S L w → (execOp a.eval o).run X.P w = .ok (.value v) w

theorem R.pure {d : Nat} {op : Op} {type : TypeId} {pos : String} {after : Array Edge} {v : Value} (hn : Nat.blt d X.n = true) (ho : Ok1 X ⟨some d, op, type, pos, after, none⟩ σ L v) (h : R X all rest K ((d, v) :: σ) L) : R X all (⟨some d, op, type, pos, after, none⟩ :: rest) K σ L :=
  ⟨fun a w ha hw => wpList_plain rfl fun K' hK' => by
    unfold Oper.wp
    rw [ho.run a w ha hw, Oper.upon_value]
    exact hK' _ _ (h.run _ _ (ha.put (blt_lt hn) v) hw)⟩
/-- Sieves: they say of what form the goal is, and nothing more. -/
theorem R.is1 {d : Nat} {op : Op} {type : TypeId} {pos : String} {after : Array Edge} (h : R X all (⟨some d, op, type, pos, after, none⟩ :: rest) K σ L) : R X all (⟨some d, op, type, pos, after, none⟩ :: rest) K σ L := h
theorem R.is0 {op : Op} {type : TypeId} {pos : String} {after : Array Edge} (h : R X all (⟨none, op, type, pos, after, none⟩ :: rest) K σ L) : R X all (⟨none, op, type, pos, after, none⟩ :: rest) K σ L := h
theorem R.isG {dst : Option Nat} {op : Op} {type : TypeId} {pos : String} {after : Array Edge} {j : Nat} {b : Bool} (h : R X all (⟨dst, op, type, pos, after, some (j, b)⟩ :: rest) K σ L) : R X all (⟨dst, op, type, pos, after, some (j, b)⟩ :: rest) K σ L := h
theorem R.isBin {d : Nat} {op : BinOp} {t t2 : TypeId} {x y : Operand} {type : TypeId} {pos : String} {after : Array Edge} {g : Option (Nat × Bool)} (h : R X all (⟨some d, .binOp op t x y t2, type, pos, after, g⟩ :: rest) K σ L) : R X all (⟨some d, .binOp op t x y t2, type, pos, after, g⟩ :: rest) K σ L := h
theorem R.isCall {d : Nat} {c : Call} {type : TypeId} {pos : String} {after : Array Edge} {g : Option (Nat × Bool)} (h : R X all (⟨some d, .call c, type, pos, after, g⟩ :: rest) K σ L) : R X all (⟨some d, .call c, type, pos, after, g⟩ :: rest) K σ L := h
theorem T.is (h : T X c Q σ L) : T X c Q σ L := h
/-- A value, in a new world. -/
theorem R.value {d : Nat} (hg : o.guard = none) (hd : o.dst = some d) (hn : Nat.blt d X.n = true)
    (ho : ∀ a w, Mod X.n a σ → Hp X.w0 X.S L w → ∃ v w' L', (execOp a.eval o).run X.P w = .ok (.value v) w' ∧ Hp X.w0 X.S L' w' ∧ R X all rest K ((d, v) :: σ) L') : R X all (o :: rest) K σ L :=
  ⟨fun a w ha hw => wpList_plain hg fun K' hK' => by
    obtain ⟨v, w', L', h1, h2, h3⟩ := ho a w ha hw
    unfold Oper.wp
    rw [h1, Oper.upon_value, hd]
    exact hK' _ _ (h3.run _ _ (ha.put (blt_lt hn) v) h2)⟩
/-- A value that nobody keeps, in a new world (a builtin called for its effect). -/
theorem R.value0 (hg : o.guard = none) (hd : o.dst = none)
    (ho : ∀ a w, Mod X.n a σ → Hp X.w0 X.S L w → ∃ v w' L', (execOp a.eval o).run X.P w = .ok (.value v) w' ∧ Hp X.w0 X.S L' w' ∧ R X all rest K σ L') : R X all (o :: rest) K σ L :=
  ⟨fun a w ha hw => wpList_plain hg fun K' hK' => by
    obtain ⟨v, w', L', h1, h2, h3⟩ := ho a w ha hw
    unfold Oper.wp
    rw [h1, Oper.upon_value, hd]
    exact hK' _ _ (h3.run _ _ ha h2)⟩
/-- A step without a value (a store). -/
theorem R.skip (hg : o.guard = none) (hd : o.dst = none)
    (ho : ∀ a w, Mod X.n a σ → Hp X.w0 X.S L w → ∃ w' L', (execOp a.eval o).run X.P w = .ok .skip w' ∧ Hp X.w0 X.S L' w' ∧ R X all rest K σ L') : R X all (o :: rest) K σ L :=
  ⟨fun a w ha hw => wpList_plain hg fun K' hK' => by
    obtain ⟨w', L', h1, h2, h3⟩ := ho a w ha hw
    unfold Oper.wp
    rw [h1, Oper.upon_skip, hd]
    exact hK' _ _ (h3.run _ _ ha h2)⟩

/-- A guarded operation: if the guard's value is as wanted it is carried out as if unguarded, else its slot is 'undef'. -/
theorem R.guard {dst : Option Nat} {op : Op} {type : TypeId} {pos : String} {after : Array Edge} {j dj : Nat} {want b : Bool}
    (hj : (all[j]?).bind (·.dst) = some dj) (hb : look σ dj = some (.bool b))
    (h1 : b = want → R X all ({ dst := dst, op := op, type := type, pos := pos, after := after, guard := none } :: rest) K σ L)
    (h2 : b = (!want) → match dst with | some d => Nat.blt d X.n = true ∧ R X all rest K ((d, undef) :: σ) L | none => R X all rest K σ L) :
    R X all ({ dst := dst, op := op, type := type, pos := pos, after := after, guard := some (j, want) } :: rest) K σ L := by
  refine ⟨fun a w ha hw => ?_⟩
  have hy : yielded all a.tmps j = some b := by
    have := ha.ok dj (.bool b) hb
    simp only [Array.getD] at this
    have hlt : dj < a.tmps.size := by
      rcases Nat.lt_or_ge dj a.tmps.size with h | h
      · exact h
      · rw [dif_neg (by omega)] at this; cases this
    rw [dif_pos hlt] at this
    have h2 : a.tmps[dj]? = some (.bool b) := by rw [Array.getElem?_eq_getElem hlt]; exact congrArg some this
    simp [yielded, hj, h2]
  by_cases e : b = want
  · have hr := (h1 e).run a w ha hw
    unfold wpList at hr ⊢
    simp only [Region.wanted, hy, e, if_true, beq_self_eq_true] at hr ⊢
    exact hr
  · have e' : b = (!want) := by cases b <;> cases want <;> first | rfl | exact (e rfl).elim
    have hr := h2 e'
    unfold wpList
    have hw' : Region.wanted { dst := dst, op := op, type := type, pos := pos, after := after, guard := some (j, want) } (yielded all a.tmps) = false := by
      simp only [Region.wanted, hy]
      cases b <;> cases want <;> first | rfl | exact (e rfl).elim
    rw [hw']
    cases dst with
    | none => exact hr.run a w ha hw
    | some d => exact hr.2.run _ _ (ha.put (blt_lt hr.1) undef) hw

theorem R.guard_run {dst : Option Nat} {op : Op} {type : TypeId} {pos : String} {after : Array Edge} {j dj : Nat} {want : Bool}
    (hj : (all[j]?).bind (·.dst) = some dj) (hb : look σ dj = some (.bool want))
    (h1 : R X all ({ dst := dst, op := op, type := type, pos := pos, after := after, guard := none } :: rest) K σ L) :
    R X all ({ dst := dst, op := op, type := type, pos := pos, after := after, guard := some (j, want) } :: rest) K σ L :=
  R.guard hj hb (fun _ => h1) (fun e => by cases want <;> cases e)
theorem R.guard_not {dst : Nat} {op : Op} {type : TypeId} {pos : String} {after : Array Edge} {j dj : Nat} {want : Bool}
    (hj : (all[j]?).bind (·.dst) = some dj) (hb : look σ dj = some (.bool (!want))) (hn : Nat.blt dst X.n = true)
    (h1 : R X all rest K ((dst, undef) :: σ) L) :
    R X all ({ dst := some dst, op := op, type := type, pos := pos, after := after, guard := some (j, want) } :: rest) K σ L :=
  R.guard hj hb (fun e => by cases want <;> cases e) (fun _ => ⟨hn, h1⟩)
theorem R.guard_not0 {op : Op} {type : TypeId} {pos : String} {after : Array Edge} {j dj : Nat} {want : Bool}
    (hj : (all[j]?).bind (·.dst) = some dj) (hb : look σ dj = some (.bool (!want)))
    (h1 : R X all rest K σ L) :
    R X all ({ dst := none, op := op, type := type, pos := pos, after := after, guard := some (j, want) } :: rest) K σ L :=
  R.guard hj hb (fun e => by cases want <;> cases e) (fun _ => h1)
/-- A call by contract: the value is 'v x', the known blocks 'L' x', for some x of which 'I x' holds. -/
theorem R.call {d : Nat} {f : FuncId} {xs : List Operand} {vs : List Value} {ats : Array TypeId} {type : TypeId} {pos : String} {after : Array Edge} {α : Type} {v : α → Value} {L' : α → Lst} {I : α → Prop}
    (he : X.tb.fns.contains f = true) (hx : evs σ xs = some vs) (hn : Nat.blt d X.n = true)
    (hc : ∀ w, Hp X.w0 X.S L w → Calls X.P f vs.toArray w fun e w' => ∃ x, e = .returned (v x) ∧ Hp X.w0 X.S (L' x) w' ∧ I x)
    (h : ∀ x, I x → R X all rest K ((d, v x) :: σ) (L' x)) :
    R X all ({ dst := some d, op := .call { callee := .value (.func f), args := xs.toArray, argTypes := ats }, type := type, pos := pos, after := after, guard := none } :: rest) K σ L := by
  refine ⟨fun a w ha hw => wpList_plain rfl fun K' hK' => ?_⟩
  have hargs : xs.toArray.map a.eval = vs.toArray := by
    have : ∀ (xs : List Operand) (vs : List Value), evs σ xs = some vs → xs.map a.eval = vs := by
      intro xs
      induction xs with
      | nil => intro vs h; simp [evs] at h; simp [← h]
      | cons x xs ih =>
        intro vs h
        simp only [evs] at h
        cases h1 : ev σ x with
        | none => simp [h1] at h
        | some u =>
          cases h2 : evs σ xs with
          | none => simp [h1, h2] at h
          | some us =>
            simp [h1, h2] at h
            subst h
            simp [ha.ev h1, ih us h2]
    rw [List.map_toArray, this xs vs hx]
  unfold Oper.wp
  have hr : (execOp a.eval { dst := some d, op := .call { callee := .value (.func f), args := xs.toArray, argTypes := ats }, type := type, pos := pos, after := after, guard := none }).run X.P w = .ok (.enter f vs.toArray) w := by
    have := X.tb.ent he vs.toArray w
    simp only [execOp, resolve, Act.eval, hargs, Deferred.ofValue, Sem.run_bind, Sem.run_pure, Result.andThen_ok, invoke]
    simpa using this
  rw [hr, Oper.upon_enter]
  refine (hc w hw).mono fun e w' ⟨x, he, hw', hx⟩ => ?_
  subst he
  exact hK' _ _ ((h x hx).run _ _ (ha.put (blt_lt hn) _) hw')
end
end Go.Proofs.Ytligpachgcmkcaa
