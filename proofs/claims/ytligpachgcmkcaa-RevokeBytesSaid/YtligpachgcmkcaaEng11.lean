/- Small operations: min, max, nil tests, shifts, a string's bytes, reslicing; calls that write blocks they know (CallM); a slice of one's own that grows. -/
import Derived.Test.YtligpachgcmkcaaEng10
set_option linter.unusedSimpArgs false
set_option linter.unusedVariables false
set_option linter.unusedSectionVars false
namespace Go.Proofs.Ytligpachgcmkcaa
open Go.RowKit Go.Shelf

section
variable {X : Cx} {σ : Env} {L L' L1 : Lst} {dd b : Nat} {ty ty2 : TypeId} {pos : String} {af : Array Edge} {d : Option Nat} {g : Option (Nat × Bool)} {x y z : Operand} {t e : TypeId} {r re : TRow} {v : Value}
variable {all : Array Oper} {rest : List Oper} {K : Env → Lst → Prop} {i j : Int} {k : IntKind} {ats : Array TypeId}

theorem Ok1.max2 (hx : ev σ x = some (.int k i)) (hy : ev σ y = some (.int k j)) : Ok1 X ⟨d, .call { callee := .builtin .max, args := #[x, y], argTypes := ats }, ty, pos, af, g⟩ σ L (.int k (max i j)) := .mk fun a w ha hw => by
  have : (if i < j then j else i) = max i j := by omega
  simp [execOp, resolve, ha.ev hx, ha.ev hy, invoke, builtin, Builtin.max_, Builtin.max2, this]
theorem Ok1.min2 (hx : ev σ x = some (.int k i)) (hy : ev σ y = some (.int k j)) : Ok1 X ⟨d, .call { callee := .builtin .min, args := #[x, y], argTypes := ats }, ty, pos, af, g⟩ σ L (.int k (min i j)) := .mk fun a w ha hw => by
  have : (if j < i then j else i) = min i j := by omega
  simp [execOp, resolve, ha.ev hx, ha.ev hy, invoke, builtin, Builtin.min_, Builtin.min2, this]

/-! nil tests -/
theorem ptr_is {X : Cx} (ht : X.tb.row t = some r) (hk : r.k = .ptr e) : X.P.underlying t = some (.pointer e) := by have := (X.tb.get ht).is; rw [hk] at this; exact this
theorem equal_run {P : Program} {w : World} {t : TypeId} {x y : Value} {b : Bool} (h : ∀ d, (Op.equalIn (d + 1) t x y).run P w = .ok b w) : (Op.equal t x y).run P w = .ok b w := h 9999
theorem eqlop_run {X : Cx} {w : World} {x y : Operand} {u v : Value} {b : Bool} {A : Act} (hx : A.eval x = u) (hy : A.eval y = v) (h1 : ∀ a, u ≠ .agg a) (h1' : u ≠ .nilIface) (h2 : binOp .eql t u v = (do pure (.bool (← Op.equal t u v)))) (h : ∀ d, (Op.equalIn (d + 1) t u v).run X.P w = .ok b w) :
    (execOp A.eval ⟨d, .binOp .eql t x y ty2, ty, pos, af, g⟩).run X.P w = .ok (.value (.bool b)) w := by
  have hg : eqGuard .eql t x y u v = pure () := by
    unfold eqGuard
    cases u <;> first | rfl | exact (h1 _ rfl).elim | exact (h1' rfl).elim
  have := equal_run h
  simp [execOp, hx, hy, hg, h2, this]
theorem neqop_run {X : Cx} {w : World} {x y : Operand} {u v : Value} {b : Bool} {A : Act} (hx : A.eval x = u) (hy : A.eval y = v) (h1 : ∀ a, u ≠ .agg a) (h1' : u ≠ .nilIface) (h2 : binOp .neq t u v = (do pure (.bool (!(← Op.equal t u v))))) (h : ∀ d, (Op.equalIn (d + 1) t u v).run X.P w = .ok b w) :
    (execOp A.eval ⟨d, .binOp .neq t x y ty2, ty, pos, af, g⟩).run X.P w = .ok (.value (.bool !b)) w := by
  have hg : eqGuard .neq t x y u v = pure () := by
    unfold eqGuard
    cases u <;> first | rfl | exact (h1 _ rfl).elim | exact (h1' rfl).elim
  have := equal_run h
  simp [execOp, hx, hy, hg, h2, this]
theorem Ok1.eqlP {p : Option Addr} (ht : X.tb.row t = some r) (hk : r.k = .ptr e) (hx : ev σ x = some (.pointer p)) (hy : ev σ y = some (.pointer none)) (hv : v = .bool p.isNone) : Ok1 X ⟨d, .binOp .eql t x y ty2, ty, pos, af, g⟩ σ L v := .mk fun a w ha hw => by
  have h : X.P.underlying t = some (.pointer e) := by have := (X.tb.get ht).is; rw [hk] at this; exact this
  subst hv
  rw [eqlop_run (b := p.isNone) (ha.ev hx) (ha.ev hy) (fun _ e => by cases e) (fun e => by cases e) rfl fun d => by cases p <;> simp [Op.equalIn, run_underlying h]]
theorem Ok1.neqP {p : Option Addr} (ht : X.tb.row t = some r) (hk : r.k = .ptr e) (hx : ev σ x = some (.pointer p)) (hy : ev σ y = some (.pointer none)) (hv : v = .bool p.isSome) : Ok1 X ⟨d, .binOp .neq t x y ty2, ty, pos, af, g⟩ σ L v := .mk fun a w ha hw => by
  have h : X.P.underlying t = some (.pointer e) := by have := (X.tb.get ht).is; rw [hk] at this; exact this
  subst hv
  rw [neqop_run (b := p.isNone) (ha.ev hx) (ha.ev hy) (fun _ e => by cases e) (fun e => by cases e) rfl fun d => by cases p <;> simp [Op.equalIn, run_underlying h]]
  cases p <;> rfl
theorem Ok1.eqlM {p : Option Nat} {kt et : TypeId} (ht : X.tb.row t = some r) (hk : r.k = .map kt et) (hx : ev σ x = some (.map p)) (hy : ev σ y = some (.map none)) (hv : v = .bool p.isNone) : Ok1 X ⟨d, .binOp .eql t x y ty2, ty, pos, af, g⟩ σ L v := .mk fun a w ha hw => by
  have h : X.P.underlying t = some (.map kt et) := by have := (X.tb.get ht).is; rw [hk] at this; exact this
  subst hv
  rw [eqlop_run (b := p.isNone) (ha.ev hx) (ha.ev hy) (fun _ e => by cases e) (fun e => by cases e) rfl fun d => by cases p <;> simp [Op.equalIn, run_underlying h]]
theorem Ok1.neqM {p : Option Nat} {kt et : TypeId} (ht : X.tb.row t = some r) (hk : r.k = .map kt et) (hx : ev σ x = some (.map p)) (hy : ev σ y = some (.map none)) (hv : v = .bool p.isSome) : Ok1 X ⟨d, .binOp .neq t x y ty2, ty, pos, af, g⟩ σ L v := .mk fun a w ha hw => by
  have h : X.P.underlying t = some (.map kt et) := by have := (X.tb.get ht).is; rw [hk] at this; exact this
  subst hv
  rw [neqop_run (b := p.isNone) (ha.ev hx) (ha.ev hy) (fun _ e => by cases e) (fun e => by cases e) rfl fun d => by cases p <;> simp [Op.equalIn, run_underlying h]]
  cases p <;> rfl
theorem Ok1.eqlS {p : Option Addr} {n c : Nat} (ht : X.tb.row t = some r) (hk : r.k = .slice e) (hx : ev σ x = some (.slice p n c)) (hy : ev σ y = some (.slice none 0 0)) (hv : v = .bool p.isNone) : Ok1 X ⟨d, .binOp .eql t x y ty2, ty, pos, af, g⟩ σ L v := .mk fun a w ha hw => by
  have h : X.P.underlying t = some (.slice e) := by have := (X.tb.get ht).is; rw [hk] at this; exact this
  subst hv
  rw [eqlop_run (b := p.isNone) (ha.ev hx) (ha.ev hy) (fun _ e => by cases e) (fun e => by cases e) rfl fun d => by cases p <;> simp [Op.equalIn, run_underlying h]]
theorem Ok1.neqS {p : Option Addr} {n c : Nat} (ht : X.tb.row t = some r) (hk : r.k = .slice e) (hx : ev σ x = some (.slice p n c)) (hy : ev σ y = some (.slice none 0 0)) (hv : v = .bool p.isSome) : Ok1 X ⟨d, .binOp .neq t x y ty2, ty, pos, af, g⟩ σ L v := .mk fun a w ha hw => by
  have h : X.P.underlying t = some (.slice e) := by have := (X.tb.get ht).is; rw [hk] at this; exact this
  subst hv
  rw [neqop_run (b := p.isNone) (ha.ev hx) (ha.ev hy) (fun _ e => by cases e) (fun e => by cases e) rfl fun d => by cases p <;> simp [Op.equalIn, run_underlying h]]
  cases p <;> rfl

/-! shifts by a constant, a string's byte -/
def pw : Nat → Int
  | 0 => 1 | 1 => 2 | 2 => 4 | 3 => 8 | 4 => 16 | 5 => 32 | 6 => 64 | 7 => 128 | 8 => 256 | 16 => 65536 | 24 => 16777216 | 32 => 4294967296
  | n => 2 ^ n
theorem pw_eq (n : Nat) : pw n = 2 ^ n := by unfold pw; split <;> rfl
theorem Ok1.shr {k2 : IntKind} {m : Int} (hx : ev σ x = some (.int k i)) (hy : ev σ y = some (.int k2 j)) (h : 0 ≤ j) (h2 : j.toNat ≤ k.bits) (hm : pw j.toNat = m) : Ok1 X ⟨d, .binOp .shr t x y ty2, ty, pos, af, g⟩ σ L (.int k (i / m)) := .mk fun a w ha hw => by
  have hp : (0 : Int) ≤ 2 ^ j.toNat := Int.le_of_lt (Int.pow_pos (by decide))
  have : ¬ j < 0 := by omega
  rw [← hm, pw_eq]
  simp [execOp, ha.ev hx, ha.ev hy, eqGuard, binOp, Op.shift, this, Nat.min_eq_left h2, Int.fdiv_eq_ediv_of_nonneg _ hp]
theorem Ok1.indexStr {s : ByteArray} {c : UInt8} (ht : X.tb.row t = some r) (hk : r.k = .string) (hx : ev σ x = some (.string s)) (hy : ev σ y = some (.int k i)) (h0 : 0 ≤ i) (hc : s[i.toNat]? = some c) : Ok1 X ⟨d, .index t x y, ty, pos, af, g⟩ σ L (.int .u8 c.toNat) := .mk fun a w ha hw => by
  have h : X.P.underlying t = some .string := by have := (X.tb.get ht).is; rw [hk] at this; exact this
  simp [execOp, ha.ev hx, ha.ev hy, Instr.index, asIntOf, run_underlying h, h0, hc]

/-! reslicing -/
def bd (σ : Env) (o : Option Operand) (dflt : Int) : Option Int := match o with
  | none => some dflt
  | some o => match ev σ o with
    | some (.int _ i) => some i
    | _ => none
theorem bound_run {P : Program} {w : World} {n a : Nat} {A : Act} (σ : Env) (ha : Mod n A σ) {o : Operand} {dflt : Int} {i : Int} {code : BoundsCode} (h : bd σ (some o) dflt = some i) (h0 : 0 ≤ i) (h1 : i ≤ a) : (Instr.sliceBound (A.eval o) a code).run P w = .ok i.toNat w := by
  simp only [bd] at h
  cases hv : ev σ o with
  | none => rw [hv] at h; cases h
  | some u =>
    rw [hv] at h
    cases u <;> simp only [reduceCtorEq, Option.some.injEq] at h
    subst h
    simp [Instr.sliceBound, ha.ev hv, asIntOf, h0, h1]
theorem bounds_run {P : Program} {w : World} {n : Nat} {A : Act} {isS : Bool} {len cap : Nat} {lo hi mx : Option Operand} {l h m : Int} (ha : Mod n A σ) (hm : bd σ mx cap = some m) (hh : bd σ hi len = some h) (hl : bd σ lo 0 = some l) (h0 : 0 ≤ l) (h1 : l ≤ h) (h2 : h ≤ m) (h3 : m ≤ cap) (hx : mx = none ∨ hi ≠ none) :
    (Instr.sliceBounds isS len cap (lo.map A.eval) (hi.map A.eval) (mx.map A.eval)).run P w = .ok (l.toNat, h.toNat, m.toNat) w := by
  cases mx with
  | none =>
    simp only [bd, Option.some.injEq] at hm
    subst hm
    cases hi with
    | none =>
      simp only [bd, Option.some.injEq] at hh
      subst hh
      cases lo with
      | none => simp only [bd, Option.some.injEq] at hl; subst hl; simp [Instr.sliceBounds]
      | some o =>
        have hc := fun c => bound_run (P := P) (w := w) (a := len) (code := c) σ ha hl h0 (by omega)
        simp [Instr.sliceBounds, hc]
    | some o2 =>
      have hb := fun c => bound_run (P := P) (w := w) (a := cap) (code := c) σ ha hh (by omega) h2
      cases lo with
      | none => simp only [bd, Option.some.injEq] at hl; subst hl; simp [Instr.sliceBounds, hb]
      | some o => 
        have hc := fun c => bound_run (P := P) (w := w) (a := h.toNat) (code := c) σ ha hl h0 (by omega)
        simp [Instr.sliceBounds, hb, hc]
  | some o3 =>
    have hd := fun c => bound_run (P := P) (w := w) (a := cap) (code := c) σ ha hm (by omega) h3
    cases hi with
    | none => simp at hx
    | some o2 =>
      have hb := fun c => bound_run (P := P) (w := w) (a := m.toNat) (code := c) σ ha hh (by omega) (by omega)
      cases lo with
      | none => simp only [bd, Option.some.injEq] at hl; subst hl; simp [Instr.sliceBounds, hd, hb]
      | some o =>
        have hc := fun c => bound_run (P := P) (w := w) (a := h.toNat) (code := c) σ ha hl h0 (by omega)
        simp [Instr.sliceBounds, hd, hb, hc]
theorem slice_run {P : Program} {w : World} {n : Nat} {A : Act} {p : Option Addr} {len cap : Nat} {lo hi mx : Option Operand} {l h m : Int} (tb : Tb P) (ht : tb.row t = some r) (hk : r.k = .slice e) (he : tb.row e = some re) (ha : Mod n A σ) (hx : ev σ x = some (.slice p len cap)) (hm : bd σ mx cap = some m) (hh : bd σ hi len = some h) (hl : bd σ lo 0 = some l) (h0 : 0 ≤ l) (h1 : l ≤ h) (h2 : h ≤ m) (h3 : m ≤ cap) (hx2 : mx = none ∨ hi ≠ none) :
    (execOp A.eval ⟨d, .slice t x lo hi mx, ty, pos, af, g⟩).run P w = .ok (.value (.slice (if m.toNat = l.toNat then p else p.map (·.add (l.toNat * re.size))) (h.toNat - l.toNat) (m.toNat - l.toNat))) w := by
  have hu : P.underlying t = some (.slice e) := by have := (tb.get ht).is; rw [hk] at this; exact this
  have hb := bounds_run (P := P) (w := w) (isS := true) ha hm hh hl h0 h1 h2 h3 hx2
  simp [execOp, Instr.sliceAt, run_underlying hu, Instr.slice, ha.ev hx, hb, (tb.get he).size]
/-- of none -/
theorem Ok1.slice0 {lo hi mx : Option Operand} {l h m : Int} (ht : X.tb.row t = some r) (hk : r.k = .slice e) (he : X.tb.row e = some re) (hx : ev σ x = some (.slice none 0 0)) (hm : bd σ mx 0 = some m) (hh : bd σ hi 0 = some h) (hl : bd σ lo 0 = some l) (h0 : l = 0 ∧ h = 0 ∧ m = 0) (hx2 : mx = none ∨ hi ≠ none) :
    Ok1 X ⟨d, .slice t x lo hi mx, ty, pos, af, g⟩ σ L (.slice none 0 0) := .mk fun a w ha hw => by
  obtain ⟨rfl, rfl, rfl⟩ := h0
  rw [slice_run X.tb ht hk he ha hx hm hh hl (by omega) (by omega) (by omega) (by omega) hx2]
  simp
/-- its first ones -/
theorem Ok1.sliceTo {b o len cap : Nat} {hi mx : Option Operand} {h m : Int} (ht : X.tb.row t = some r) (hk : r.k = .slice e) (he : X.tb.row e = some re) (hx : ev σ x = some (.slice (some ⟨b, o, none⟩) len cap)) (hm : bd σ mx cap = some m) (hh : bd σ hi len = some h) (h1 : 0 ≤ h) (h2 : h ≤ m) (h3 : m ≤ cap) (hx2 : mx = none ∨ hi ≠ none) :
    Ok1 X ⟨d, .slice t x none hi mx, ty, pos, af, g⟩ σ L (.slice (some ⟨b, o, none⟩) h.toNat m.toNat) := .mk fun a w ha hw => by
  rw [slice_run (l := 0) X.tb ht hk he ha hx hm hh rfl (by omega) (by omega) (by omega) (by omega) hx2]
  simp [Addr.add_none]
/-- from one on, where room is left -/
theorem Ok1.sliceFrom {b o len cap : Nat} {lo : Operand} {hi mx : Option Operand} {l h m : Int} (ht : X.tb.row t = some r) (hk : r.k = .slice e) (he : X.tb.row e = some re) (hx : ev σ x = some (.slice (some ⟨b, o, none⟩) len cap)) (hl : bd σ (some lo) 0 = some l) (hm : bd σ mx cap = some m) (hh : bd σ hi len = some h) (h0 : 0 ≤ l) (h1 : l ≤ h) (h2 : h ≤ m) (h3 : m ≤ cap) (h4 : l < m) (hx2 : mx = none ∨ hi ≠ none) :
    Ok1 X ⟨d, .slice t x (some lo) hi mx, ty, pos, af, g⟩ σ L (.slice (some ⟨b, o + l.toNat * re.size, none⟩) (h.toNat - l.toNat) (m.toNat - l.toNat)) := .mk fun a w ha hw => by
  rw [slice_run X.tb ht hk he ha hx hm hh hl (by omega) (by omega) (by omega) (by omega) hx2]
  rw [if_neg (by omega)]
  simp [Addr.add_none]
end

/-! calls that write blocks they know -/
def blks (L : Lst) : List Nat := L.map (·.1)
/-- Called in world w, in which the blocks of L hold what L says, it returns a value; of what was there nothing but those blocks has changed; the value and what is known afterwards fit R. -/
structure CallM (P : Program) (f : FuncId) (vs : List Value) (L : Lst) (w : World) (R : Value → Lst → Prop) : Prop where
  run : Hp w (blks L) L w → Calls P f vs.toArray w fun e w' => ∃ v L', e = .returned v ∧ R v L' ∧ Hp w (blks L) L' w'

inductive Pull : Lst → Lst → Lst → Prop where
  | nil (L : Lst) : Pull L [] L
  | cons {L L1 Li Lr : Lst} {b : Nat} {o : Obj} : Del L b o L1 → Pull L1 Li Lr → Pull L ((b, o) :: Li) Lr
theorem Pull.perm {L Li Lr : Lst} (h : Pull L Li Lr) : (Li ++ Lr).Perm L := by
  induction h with
  | nil => exact .refl _
  | cons hd _ ih => exact (ih.cons _).trans hd.perm

theorem Hp.callM {w0 w w' : World} {S : List Nat} {Li Lo Lr : Lst} (h : Hp w0 S (Li ++ Lr) w) (h' : Hp w (blks Li) Lo w') : Hp w0 S (Lo ++ Lr) w' := by
  have hn := h.nod
  rw [List.map_append, List.nodup_append] at hn
  obtain ⟨hn1, hn2, hn3⟩ := hn
  have hin : ∀ b, b ∈ blks Li → w0.heap.size ≤ b ∨ b ∈ S := by
    intro b hb
    obtain ⟨⟨b', o⟩, hm, rfl⟩ := List.mem_map.1 hb
    exact h.own b' o (List.mem_append_left _ hm)
  have hsz := h.chg.size
  refine ⟨?_, ?_, ?_, ?_⟩
  · refine ⟨h'.chg.os.trans h.chg.os, h'.chg.tape.trans h.chg.tape, h'.chg.output.trans h.chg.output, Nat.le_trans h.chg.size h'.chg.size, Nat.le_trans h.chg.drawn h'.chg.drawn, fun k hk hks => ?_⟩
    refine (h'.chg.block k (by omega) fun hb => ?_).trans (h.chg.block k hk hks)
    rcases hin k hb with h1 | h1
    · omega
    · exact hks h1
  · intro b o hm
    rcases List.mem_append.1 hm with hm | hm
    · exact h'.get b o hm
    · refine h'.chg.heap (h.get b o (List.mem_append_right _ hm)) fun hb => ?_
      exact hn3 b hb b (List.mem_map.2 ⟨(b, o), hm, rfl⟩) rfl
  · rw [List.map_append, List.nodup_append]
    refine ⟨h'.nod, hn2, fun b hb c hc e => ?_⟩
    subst e
    obtain ⟨⟨b', o⟩, hm, rfl⟩ := List.mem_map.1 hb
    obtain ⟨⟨b2, o2⟩, hm2, e2⟩ := List.mem_map.1 hc
    have hlt := h.lt (List.mem_append_right Li hm2)
    try simp only at e2
    rcases h'.own b' o hm with h1 | h1
    · (try simp only at hlt e2); omega
    · exact hn3 b' h1 b' (List.mem_map.2 ⟨(b2, o2), hm2, e2⟩) rfl
  · intro b o hm
    rcases List.mem_append.1 hm with hm | hm
    · rcases h'.own b o hm with h1 | h1
      · exact .inl (by omega)
      · exact hin b h1
    · exact h.own b o (List.mem_append_right _ hm)

section
variable {X : Cx} {σ : Env} {L Li Lr : Lst} {dd : Nat} {ty : TypeId} {pos : String} {af : Array Edge} {f : FuncId} {ats : Array TypeId}
variable {all : Array Oper} {rest : List Oper} {K : Env → Lst → Prop} {xs : List Operand} {vs : List Value}

theorem R.callM {R1 : Value → Lst → Prop} (he : X.tb.fns.contains f = true) (hx : evs σ xs = some vs) (hn : Nat.blt dd X.n = true) (hp : Pull L Li Lr) (hc : ∀ w, Hp X.w0 X.S L w → CallM X.P f vs Li w R1) (h : ∀ v Lo, R1 v Lo → R X all rest K ((dd, v) :: σ) (Lo ++ Lr)) :
    R X all (⟨some dd, .call { callee := .value (.func f), args := xs.toArray, argTypes := ats }, ty, pos, af, none⟩ :: rest) K σ L :=
  R.call (α := Value × Lst) (v := fun v => v.1) (L' := fun v => v.2 ++ Lr) (I := fun v => R1 v.1 v.2) he hx hn (fun w hw => by
    have hw2 := hw.perm hp.perm
    have hin : Hp w (blks Li) Li w := ⟨.refl _ _, fun b o hm => hw2.get b o (List.mem_append_left _ hm), (List.nodup_append.1 (by have := hw2.nod; rwa [List.map_append] at this)).1, fun b o hm => .inr (List.mem_map.2 ⟨(b, o), hm, rfl⟩)⟩
    exact ((hc w hw).run hin).mono fun e w' ⟨v, Lo, h1, h2, h3⟩ => ⟨(v, Lo), h1, hw2.callM h3, h2⟩) fun v hv => h v.1 v.2 hv

theorem enterM {P : Program} (tb : Tb P) {f : FuncId} {fn : Func} {c : Code} {vs : List Value} {n : Nat} {R1 : Value → Lst → Prop} {w : World} {L : Lst}
    (hf : P.funcs[f]? = some fn) (hb : fn.body = some c) (hn : fn.ntmps = n) (hvn : Nat.ble vs.length n = true)
    (h : T ⟨P, tb, n, w, blks L⟩ c (retQ ⟨P, tb, n, w, blks L⟩ fn.results.toList R1) (number 0 vs) L) : CallM P f vs L w R1 :=
  ⟨fun hw => enter hf hb hn (Nat.le_of_ble_eq_true hvn) hw h⟩
end

/-! a slice of one's own that grows -/
def OvOk (sz : Nat) (ov : Ov) (n : Nat) (xs : List Value) : Prop := xs.length = n * sz ∧ match ov with
  | none => n = 0
  | some (_, j, junk) => junk.length = j * sz
theorem OvOk.start (sz : Nat) : OvOk sz none 0 [] := ⟨by simp, rfl⟩
theorem OwnAt.base {e sz n : Nat} {ov : Ov} {xs : List Value} (h : OvOk sz ov n xs) : OwnAt e sz (blkL e ov xs) (slV ov n) n xs [] := by
  obtain ⟨h1, h2⟩ := h
  cases ov with
  | none =>
    subst h2
    have : xs = [] := by cases xs; rfl; simp at h1
    subst this
    exact .nil []
  | some q => obtain ⟨b, j, junk⟩ := q; exact .blk .head h1 h2
theorem OwnAt.tail {e sz n : Nat} {L L1 : Lst} {v : Value} {xs : List Value} (y : Nat × Obj) (h : OwnAt e sz L v n xs L1) : OwnAt e sz (y :: L) v n xs (y :: L1) := by
  cases h with
  | nil => exact .nil _
  | blk h1 h2 h3 => exact .blk (.tail h1) h2 h3
theorem OvOk.some {sz n m b j : Nat} {ov : Ov} {xs ys junk : List Value} (h : OvOk sz ov n xs) (hy : ys.length = m * sz) (hj : junk.length = j * sz) : OvOk sz (some (b, j, junk)) (n + m) (xs ++ ys) :=
  ⟨by simp [h.1, hy, Nat.add_mul], hj⟩
end Go.Proofs.Ytligpachgcmkcaa
