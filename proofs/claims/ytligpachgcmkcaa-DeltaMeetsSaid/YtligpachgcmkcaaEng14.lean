/- Maps: the operations, over a list of entries (key, value, birth). -/
import Derived.Test.YtligpachgcmkcaaEng8
set_option linter.unusedSimpArgs false
set_option linter.unusedVariables false
set_option linter.unusedSectionVars false
namespace Go.Proofs.Ytligpachgcmkcaa
open Go.RowKit Go.Shelf

section
variable {κ α : Type} [DecidableEq κ]
abbrev Ms (κ α : Type) := List (κ × α × Nat)
def mget (k : κ) : Ms κ α → Option α
  | [] => none
  | x :: r => if x.1 = k then some x.2.1 else mget k r
def mset (k : κ) (a : α) : Ms κ α → Ms κ α
  | [] => []
  | x :: r => if x.1 = k then (x.1, a, x.2.2) :: r else x :: mset k a r
def mdel (k : κ) : Ms κ α → Ms κ α
  | [] => []
  | x :: r => if x.1 = k then r else x :: mdel k r
def mobj (kv : κ → Value) (vv : α → Value) (ms : Ms κ α) (clk : Nat) : Obj := .map ⟨ms.map fun x => ⟨kv x.1, vv x.2.1, x.2.2⟩⟩ clk
def mfind (k : κ) : Ms κ α → Nat → Option (Nat × α)
  | [], _ => none
  | x :: r, i => if x.1 = k then some (i, x.2.1) else mfind k r (i + 1)
theorem mfind_mget (k : κ) : ∀ (ms : Ms κ α) (i : Nat), (mfind k ms i).map (·.2) = mget k ms
  | [], _ => rfl
  | x :: r, i => by
    by_cases h : x.1 = k
    · simp [mfind, mget, h]
    · simp [mfind, mget, h, mfind_mget k r (i + 1)]

theorem findKey_run {P : Program} {t : Nat} {kv : κ → Value} (hk : KeyT P t kv) (vv : α → Value) (k : κ) (ms : Ms κ α) (w : World) :
    (Instr.findKey t (kv k) (ms.map fun x => (⟨kv x.1, vv x.2.1, x.2.2⟩ : MapEntry))).run P w = .ok ((mfind k ms 0).map fun p => (p.1, vv p.2)) w := by
  obtain ⟨dsc, h1, h2⟩ := hk.now
  have hask : ∀ (ms : Ms κ α) (i : Nat), (Instr.findAsking t (kv k) (ms.map fun x => (⟨kv x.1, vv x.2.1, x.2.2⟩ : MapEntry)) i).run P w = .ok ((mfind k ms i).map fun p => (p.1, vv p.2)) w := by
    intro ms
    induction ms with
    | nil => intro i; simp [Instr.findAsking, mfind]
    | cons x r ih =>
      intro i
      obtain ⟨b, r1, r2⟩ := hk.eq w k x.1
      simp only [List.map_cons, Instr.findAsking, Sem.run_bind, r1, Result.andThen_ok]
      by_cases h : x.1 = k
      · have : b = true := r2.2 h.symm
        subst this
        simp [mfind, h]
      · have : b = false := by cases b with | false => rfl | true => exact (h (r2.1 rfl).symm).elim
        subst this
        simp only [Bool.false_eq_true, if_false, mfind, if_neg h]
        exact ih (i + 1)
  have hnow : (∀ a b, ∃ r, Instr.sameNow dsc (kv a) (kv b) = some r ∧ (r = true ↔ a = b)) → ∀ (ms : Ms κ α) (i : Nat), Instr.findNow dsc (kv k) (ms.map fun x => (⟨kv x.1, vv x.2.1, x.2.2⟩ : MapEntry)) i = some ((mfind k ms i).map fun p => (p.1, vv p.2)) := by
    intro hs ms
    induction ms with
    | nil => intro i; rfl
    | cons x r ih =>
      intro i
      obtain ⟨b, r1, r2⟩ := hs k x.1
      simp only [List.map_cons, Instr.findNow, r1]
      by_cases h : x.1 = k
      · have : b = true := r2.2 h.symm
        subst this
        simp [mfind, h]
      · have : b = false := by cases b with | false => rfl | true => exact (h (r2.1 rfl).symm).elim
        subst this
        simp only [mfind, if_neg h]
        exact ih (i + 1)
  unfold Instr.findKey
  rw [Sem.run_bind, run_underlying h1]
  simp only [Result.andThen_ok]
  rcases h2 with h2 | h2
  · cases ms with
    | nil => simp [Instr.findNow, mfind]
    | cons x r =>
      have : Instr.findNow dsc (kv k) ((x :: r).map fun x => (⟨kv x.1, vv x.2.1, x.2.2⟩ : MapEntry)) 0 = none := by
        simp only [List.map_cons, Instr.findNow, h2]
      rw [this]
      exact hask (x :: r) 0
  · rw [hnow h2 ms 0]
    rfl

theorem mset_modify (kv : κ → Value) (vv : α → Value) (k : κ) (a : α) : ∀ (ms : Ms κ α) (i j : Nat) (o : α), mfind k ms j = some (i + j, o) →
    (ms.map fun x => (⟨kv x.1, vv x.2.1, x.2.2⟩ : MapEntry)).modify i (fun e => { e with key := kv k, val := vv a }) = (mset k a ms).map fun x => ⟨kv x.1, vv x.2.1, x.2.2⟩
  | [], i, j, o, h => by cases h
  | x :: r, i, j, o, h => by
    simp only [mfind] at h
    by_cases hx : x.1 = k
    · rw [if_pos hx] at h
      simp only [Option.some.injEq, Prod.mk.injEq] at h
      have : i = 0 := by omega
      subst this
      simp [mset, hx]
    · rw [if_neg hx] at h
      have hge : ∀ (ms : Ms κ α) (j : Nat) (p : Nat × α), mfind k ms j = some p → j ≤ p.1 := by
        intro ms
        induction ms with
        | nil => intro j p h; cases h
        | cons x r ih =>
          intro j p h
          simp only [mfind] at h
          by_cases hx : x.1 = k
          · rw [if_pos hx] at h; cases h; exact Nat.le_refl _
          · rw [if_neg hx] at h; have := ih _ _ h; omega
      have := hge _ _ _ h
      obtain ⟨i, rfl⟩ : ∃ i', i = i' + 1 := ⟨i - 1, by simp at this; omega⟩
      simp only [List.map_cons, List.modify_succ_cons, mset, if_neg hx, List.cons.injEq, true_and]
      exact mset_modify kv vv k a r i (j + 1) o (by rw [h]; congr 2; omega)
theorem mdel_erase (f : κ × α × Nat → MapEntry) (k : κ) : ∀ (ms : Ms κ α) (i j : Nat) (o : α), mfind k ms j = some (i + j, o) →
    (ms.map f).eraseIdx i = (mdel k ms).map f
  | [], i, j, o, h => by cases h
  | x :: r, i, j, o, h => by
    simp only [mfind] at h
    by_cases hx : x.1 = k
    · rw [if_pos hx] at h
      simp only [Option.some.injEq, Prod.mk.injEq] at h
      have : i = 0 := by omega
      subst this
      simp [mdel, hx]
    · rw [if_neg hx] at h
      have hge : ∀ (ms : Ms κ α) (j : Nat) (p : Nat × α), mfind k ms j = some p → j ≤ p.1 := by
        intro ms
        induction ms with
        | nil => intro j p h; cases h
        | cons x r ih =>
          intro j p h
          simp only [mfind] at h
          by_cases hx : x.1 = k
          · rw [if_pos hx] at h; cases h; exact Nat.le_refl _
          · rw [if_neg hx] at h; have := ih _ _ h; omega
      have := hge _ _ _ h
      obtain ⟨i, rfl⟩ : ∃ i', i = i' + 1 := ⟨i - 1, by simp at this; omega⟩
      simp only [List.map_cons, List.eraseIdx_cons_succ, mdel, if_neg hx, List.cons.injEq, true_and]
      exact mdel_erase f k r i (j + 1) o (by rw [h]; congr 2; omega)
theorem mdel_none (k : κ) : ∀ (ms : Ms κ α), mget k ms = none → mdel k ms = ms
  | [], _ => rfl
  | x :: r, h => by
    simp only [mget] at h
    by_cases hx : x.1 = k
    · rw [if_pos hx] at h; cases h
    · rw [if_neg hx] at h; simp [mdel, hx, mdel_none k r h]
end

section
variable {X : Cx} {σ : Env} {L L' : Lst} {dd b : Nat} {ty ty2 : TypeId} {pos : String} {af : Array Edge} {d : Option Nat} {g : Option (Nat × Bool)} {x y z : Operand} {t kt et : TypeId} {r : TRow}
variable {all : Array Oper} {rest : List Oper} {K : Env → Lst → Prop}
variable {κ α : Type} [DecidableEq κ] {kv : κ → Value} {vv : α → Value} {ms : Ms κ α} {clk : Nat} {vk va : Value}

theorem TB.map {P : Program} (tb : Tb P) (ht : tb.row t = some r) (hk : r.k = .map kt et) : P.underlying t = some (.map kt et) := by
  have := (tb.get ht).is
  rw [hk] at this
  exact this

/-- A look-up: the general form ('ok' too). -/
theorem lookup_run {P : Program} {w : World} (hkt : KeyT P kt kv) (hu : P.underlying t = some (.map kt et)) {zr : Value} (hz : ∀ w, (zeroValue et).run P w = .ok zr w) (hb : w.heap[b]? = some (mobj kv vv ms clk)) (k : κ) (ok : Bool) :
    (Instr.lookup t (.map (some b)) (kv k) ok).run P w = .ok (match mget k ms with
      | some a => if ok then .tuple #[vv a, .bool true] else vv a
      | none => if ok then .tuple #[zr, .bool false] else zr) w := by
  have hget : (getObj b).run P w = .ok (mobj kv vv ms clk) w := by
    simp only [getObj, Sem.run, hb]
    rfl
  have hf := findKey_run hkt vv k ms w
  have hm := mfind_mget k ms 0
  unfold Instr.lookup
  simp only [Sem.run_bind, run_underlying hu, Result.andThen_ok, hget, mobj, Sem.run_pure, hkt.chk, hf]
  cases h : mfind k ms 0 with
  | none =>
    rw [h] at hm
    simp only [Option.map_none] at hm
    rw [← hm]
    simp [hz]
  | some p =>
    rw [h] at hm
    simp only [Option.map_some] at hm
    rw [← hm]
    simp
theorem lookup_nil0 {P : Program} {w : World} (hkt : KeyT P kt kv) (hu : P.underlying t = some (.map kt et)) {zr : Value} (hz : ∀ w, (zeroValue et).run P w = .ok zr w) (k : κ) (ok : Bool) :
    (Instr.lookup t (.map none) (kv k) ok).run P w = .ok (if ok then .tuple #[zr, .bool false] else zr) w := by
  have hf := findKey_run hkt (vv := fun a : Unit => .bool true) k [] w
  unfold Instr.lookup
  simp only [List.map_nil, mfind, Option.map_none] at hf
  simp only [Sem.run_bind, run_underlying hu, Result.andThen_ok, Sem.run_pure, hkt.chk, hf, hz]

theorem Ok1.lookup_some {ok : Bool} {a : α} {u : Value} {re : TRow} (k : κ) (hkt : KeyT X.P kt kv) (ht : X.tb.row t = some r) (hk : r.k = .map kt et) (he : X.tb.row et = some re) (hx : ev σ x = some (.map (some b))) (hy : ev σ y = some vk) (hv : vk = kv k) (hat : At L b (mobj kv vv ms clk)) (hm : mget k ms = some a) (hu : u = if ok then .tuple ⟨[vv a, .bool true]⟩ else vv a) :
    Ok1 X ⟨d, .lookup t x y ok, ty, pos, af, g⟩ σ L u := .mk fun a' w ha hw => by
  have := lookup_run hkt (TB.map X.tb ht hk) (X.tb.get he).zero (hw.get _ _ hat.mem) k ok
  rw [hm] at this
  simp [execOp, ha.ev hx, ha.ev hy, hv, this, hu]
theorem Ok1.lookup_none {ok : Bool} {u : Value} {re : TRow} (k : κ) (hkt : KeyT X.P kt kv) (ht : X.tb.row t = some r) (hk : r.k = .map kt et) (he : X.tb.row et = some re) (hx : ev σ x = some (.map (some b))) (hy : ev σ y = some vk) (hv : vk = kv k) (hat : At L b (mobj kv vv ms clk)) (hm : mget k ms = none) (hu : u = if ok then .tuple ⟨[re.zero, .bool false]⟩ else re.zero) :
    Ok1 X ⟨d, .lookup t x y ok, ty, pos, af, g⟩ σ L u := .mk fun a' w ha hw => by
  have := lookup_run hkt (TB.map X.tb ht hk) (X.tb.get he).zero (hw.get _ _ hat.mem) k ok
  rw [hm] at this
  simp [execOp, ha.ev hx, ha.ev hy, hv, this, hu]

theorem Ok1.lookup_nil {ok : Bool} {u : Value} {re : TRow} (k : κ) (hkt : KeyT X.P kt kv) (ht : X.tb.row t = some r) (hk : r.k = .map kt et) (he : X.tb.row et = some re) (hx : ev σ x = some (.map none)) (hy : ev σ y = some vk) (hv : vk = kv k) (hu : u = if ok then .tuple ⟨[re.zero, .bool false]⟩ else re.zero) :
    Ok1 X ⟨d, .lookup t x y ok, ty, pos, af, g⟩ σ L u := .mk fun a' w ha hw => by
  have h9 := lookup_nil0 (w := w) hkt (TB.map X.tb ht hk) (X.tb.get he).zero k ok
  simp [execOp, ha.ev hx, ha.ev hy, hv, h9, hu]

theorem setObj_run {P : Program} {w : World} {o o' : Obj} (hb : w.heap[b]? = some o) (hc : ∀ c t f, o ≠ .cells c t f) : (setObj b o').run P w = .ok () { w with heap := w.heap.setIfInBounds b o' } := by
  simp only [setObj, Sem.run, hb]
theorem setObj_at {w : World} {o o' : Obj} (hb : w.heap[b]? = some o) : ({ w with heap := w.heap.setIfInBounds b o' } : World).heap[b]? = some o' := by
  have h9 := (Array.getElem?_eq_some_iff.1 hb).1
  simp [h9]

theorem update_run {P : Program} {w : World} (hkt : KeyT P kt kv) (hu : P.underlying t = some (.map kt et)) (hb : w.heap[b]? = some (mobj kv vv ms clk)) (k : κ) (a : α) :
    ∃ w', (Instr.mapUpdate t (.map (some b)) (kv k) (vv a)).run P w = .ok () w' ∧ Chg [b] w w' ∧
      w'.heap[b]? = some (match mget k ms with | some _ => mobj kv vv (mset k a ms) clk | none => mobj kv vv (ms ++ [(k, a, clk)]) (clk + 1)) := by
  have hget : (getObj b).run P w = .ok (mobj kv vv ms clk) w := by
    simp only [getObj, Sem.run, hb]
    rfl
  have hf := findKey_run hkt vv k ms w
  have hm := mfind_mget k ms 0
  have hne : ∀ c t f, mobj kv vv ms clk ≠ .cells c t f := fun _ _ _ e => by cases e
  unfold Instr.mapUpdate
  simp only [Sem.run_bind, run_underlying hu, Result.andThen_ok, hget, mobj, hkt.chk, hf]
  cases h : mfind k ms 0 with
  | none =>
    rw [h] at hm
    simp only [Option.map_none] at hm
    rw [← hm]
    have hs := fun o' => setObj_run (P := P) (o' := o') hb hne
    refine ⟨_, by simp only [Option.map_none, hs]; rfl, Chg.setObj w _ (by simp), ?_⟩
    rw [setObj_at hb]
    simp
  | some p =>
    rw [h] at hm
    simp only [Option.map_some] at hm
    rw [← hm]
    have hs := fun o' => setObj_run (P := P) (o' := o') hb hne
    obtain ⟨i, o⟩ := p
    have hkey : ((((ms.map fun x => (⟨kv x.1, vv x.2.1, x.2.2⟩ : MapEntry))[i]?).map (·.key)).getD (kv k)) = kv k := by
      have : ∀ (ms : Ms κ α) (i j : Nat) (o : α), mfind k ms j = some (i + j, o) → (((ms.map fun x => (⟨kv x.1, vv x.2.1, x.2.2⟩ : MapEntry))[i]?).map (·.key)) = some (kv k) := by
        intro ms
        induction ms with
        | nil => intro i j o h; cases h
        | cons x r ih =>
          intro i j o h
          simp only [mfind] at h
          by_cases hx : x.1 = k
          · rw [if_pos hx] at h
            simp only [Option.some.injEq, Prod.mk.injEq] at h
            have : i = 0 := by omega
            subst this
            simp [hx]
          · rw [if_neg hx] at h
            have hge : ∀ (ms : Ms κ α) (j : Nat) (p : Nat × α), mfind k ms j = some p → j ≤ p.1 := by
              intro ms
              induction ms with
              | nil => intro j p h; cases h
              | cons x r ih =>
                intro j p h
                simp only [mfind] at h
                by_cases hx : x.1 = k
                · rw [if_pos hx] at h; cases h; exact Nat.le_refl _
                · rw [if_neg hx] at h; have := ih _ _ h; omega
            have := hge _ _ _ h
            obtain ⟨i, rfl⟩ : ∃ i', i = i' + 1 := ⟨i - 1, by simp at this; omega⟩
            simpa using ih i (j + 1) o (by rw [h]; congr 2; omega)
      rw [this ms i 0 o (by simpa using h)]
      rfl
    have hstay : (Instr.keyThatStays ((((ms.map fun x => (⟨kv x.1, vv x.2.1, x.2.2⟩ : MapEntry))[i]?).map (·.key)).getD (kv k)) (kv k)).run P w = .ok (kv k) w := by
      rw [hkey]
      simp [Instr.keyThatStays, hkt.bits]
    have hmod := mset_modify kv vv k a ms i 0 o (by simpa using h)
    refine ⟨_, ?_, Chg.setObj w _ (by simp), setObj_at hb⟩
    · simp only [Option.map_some, Sem.run_bind]
      have h2 : (Array.mk (ms.map fun x => (⟨kv x.1, vv x.2.1, x.2.2⟩ : MapEntry)))[i]? = (ms.map fun x => (⟨kv x.1, vv x.2.1, x.2.2⟩ : MapEntry))[i]? := by simp
      rw [h2, hstay]
      simp only [Result.andThen_ok, hs]
      congr 3
      rw [← hmod]
      simp [mobj]

theorem R.mapSet_old {o a : α} (k : κ) (hkt : KeyT X.P kt kv) (ht : X.tb.row t = some r) (hk : r.k = .map kt et) (hx : ev σ x = some (.map (some b))) (hy : ev σ y = some vk) (hv : vk = kv k) (hz : ev σ z = some va) (hva : va = vv a)
    (hu : Upd L b (mobj kv vv ms clk) (mobj kv vv (mset k a ms) clk) L') (hm : mget k ms = some o) (h : R X all rest K σ L') : R X all (⟨none, .mapUpdate t x y z, ty, pos, af, none⟩ :: rest) K σ L :=
  R.skip rfl rfl fun a' w ha hw => by
    obtain ⟨w', h1, h2, h3⟩ := update_run hkt (TB.map X.tb ht hk) (hw.get _ _ hu.mem) k a
    rw [hm] at h3
    exact ⟨w', L', by simp [execOp, ha.ev hx, ha.ev hy, ha.ev hz, hv, hva, h1], hw.upd hu h2 h3, h⟩
theorem R.mapSet_new {a : α} (k : κ) (hkt : KeyT X.P kt kv) (ht : X.tb.row t = some r) (hk : r.k = .map kt et) (hx : ev σ x = some (.map (some b))) (hy : ev σ y = some vk) (hv : vk = kv k) (hz : ev σ z = some va) (hva : va = vv a)
    (hu : Upd L b (mobj kv vv ms clk) (mobj kv vv (ms ++ [(k, a, clk)]) (clk + 1)) L') (hm : mget k ms = none) (h : R X all rest K σ L') : R X all (⟨none, .mapUpdate t x y z, ty, pos, af, none⟩ :: rest) K σ L :=
  R.skip rfl rfl fun a' w ha hw => by
    obtain ⟨w', h1, h2, h3⟩ := update_run hkt (TB.map X.tb ht hk) (hw.get _ _ hu.mem) k a
    rw [hm] at h3
    exact ⟨w', L', by simp [execOp, ha.ev hx, ha.ev hy, ha.ev hz, hv, hva, h1], hw.upd hu h2 h3, h⟩

theorem R.makeMap (kv : κ → Value) (vv : α → Value) (hn : Nat.blt dd X.n = true) (h : ∀ b, R X all rest K ((dd, .map (some b)) :: σ) ((b, mobj kv vv ([] : Ms κ α) 0) :: L)) : R X all (⟨some dd, .makeMap t none, ty, pos, af, none⟩ :: rest) K σ L :=
  R.value rfl rfl hn fun a w ha hw => by
    refine ⟨.map (some w.heap.size), w.alloc (mobj kv vv ([] : Ms κ α) 0), _, ?_, hw.alloc _, h _⟩
    simp [execOp, Instr.makeMap, mobj]

theorem Ok1.lenM (hkt : X.tb.row t = some r) (hk : r.k = .map kt et) (hx : ev σ x = some (.map (some b))) (hat : At L b (mobj kv vv ms clk)) : Ok1 X ⟨d, .call { callee := .builtin .len, args := #[x], argTypes := #[t] }, ty, pos, af, g⟩ σ L (.int .i64 ms.length) := .mk fun a w ha hw => by
  have hb := hw.get _ _ hat.mem
  have hget : (getObj b).run X.P w = .ok (mobj kv vv ms clk) w := by
    simp only [getObj, Sem.run, hb]; rfl
  simp [execOp, resolve, ha.ev hx, invoke, builtin, Builtin.len_, run_underlying (TB.map X.tb hkt hk), goInt, hget, mobj]
theorem Ok1.lenM_nil (hkt : X.tb.row t = some r) (hk : r.k = .map kt et) (hx : ev σ x = some (.map none)) : Ok1 X ⟨d, .call { callee := .builtin .len, args := #[x], argTypes := #[t] }, ty, pos, af, g⟩ σ L (.int .i64 0) := .mk fun a w ha hw => by
  simp [execOp, resolve, ha.ev hx, invoke, builtin, Builtin.len_, run_underlying (TB.map X.tb hkt hk), goInt]
end

/-! ### delete, ranging -/
section
variable {X : Cx} {σ : Env} {L L' : Lst} {dd b : Nat} {ty ty2 : TypeId} {pos : String} {af : Array Edge} {d : Option Nat} {g : Option (Nat × Bool)} {x y z : Operand} {t t2 kt et : TypeId} {r : TRow}
variable {all : Array Oper} {rest : List Oper} {K : Env → Lst → Prop}
variable {κ α : Type} [DecidableEq κ] {kv : κ → Value} {vv : α → Value} {ms : Ms κ α} {clk : Nat} {vk va : Value}

theorem delete_run {P : Program} {w : World} (hkt : KeyT P kt kv) (hu : P.underlying t = some (.map kt et)) (hb : w.heap[b]? = some (mobj kv vv ms clk)) (k : κ) (ats : Array TypeId) (h0 : ats[0]? = some t) (ty : TypeId) :
    ∃ w', (Builtin.delete_ ats ty #[.map (some b), kv k]).run P w = .ok (.tuple #[]) w' ∧ Chg [b] w w' ∧ w'.heap[b]? = some (mobj kv vv (mdel k ms) clk) := by
  have hget : (getObj b).run P w = .ok (mobj kv vv ms clk) w := by
    simp only [getObj, Sem.run, hb]
    rfl
  have hf := findKey_run hkt vv k ms w
  have hm := mfind_mget k ms 0
  have hne : ∀ c t f, mobj kv vv ms clk ≠ .cells c t f := fun _ _ _ e => by cases e
  have hs := fun o' => setObj_run (P := P) (o' := o') hb hne
  unfold Builtin.delete_
  simp only [h0, Array.getElem?_toList, List.getElem?_toArray, List.getElem?_cons_zero, List.getElem?_cons_succ, Sem.run_bind, run_underlying hu, Result.andThen_ok, hget, mobj, hkt.chk, hf]
  cases h : mfind k ms 0 with
  | none =>
    rw [h] at hm
    simp only [Option.map_none] at hm
    refine ⟨_, by simp only [Option.map_none, Sem.run_bind, hs, Result.andThen_ok, Sem.run_pure]; rfl, Chg.setObj w _ (by simp), ?_⟩
    rw [mdel_none k ms hm.symm, setObj_at hb]
  | some p =>
    obtain ⟨i, o⟩ := p
    refine ⟨_, by simp only [Option.map_some, Sem.run_bind, hs, Result.andThen_ok, Sem.run_pure]; rfl, Chg.setObj w _ (by simp), ?_⟩
    rw [setObj_at hb]
    have := mdel_erase (fun x => (⟨kv x.1, vv x.2.1, x.2.2⟩ : MapEntry)) k ms i 0 o (by simpa using h)
    simp only [mobj, ← this]
    congr 2
    simp

theorem R.mapDel {vd : Option Nat} (k : κ) (hkt : KeyT X.P kt kv) (ht : X.tb.row t = some r) (hk : r.k = .map kt et) (hx : ev σ x = some (.map (some b))) (hy : ev σ y = some vk) (hv : vk = kv k)
    (hu : Upd L b (mobj kv vv ms clk) (mobj kv vv (mdel k ms) clk) L') (h : R X all rest K σ L') : R X all (⟨none, .call { callee := .builtin .delete, args := #[x, y], argTypes := #[t, t2] }, ty, pos, af, none⟩ :: rest) K σ L :=
  R.value0 rfl rfl fun a' w ha hw => by
    obtain ⟨w', h1, h2, h3⟩ := delete_run hkt (TB.map X.tb ht hk) (hw.get _ _ hu.mem) k #[t, t2] rfl ty
    refine ⟨.tuple #[], w', L', ?_, hw.upd hu h2 h3, h⟩
    simp [execOp, resolve, ha.ev hx, ha.ev hy, hv, invoke, builtin, h1]
theorem R.mapDelD (k : κ) (hn : Nat.blt dd X.n = true) (hkt : KeyT X.P kt kv) (ht : X.tb.row t = some r) (hk : r.k = .map kt et) (hx : ev σ x = some (.map (some b))) (hy : ev σ y = some vk) (hv : vk = kv k)
    (hu : Upd L b (mobj kv vv ms clk) (mobj kv vv (mdel k ms) clk) L') (h : R X all rest K ((dd, .tuple #[]) :: σ) L') : R X all (⟨some dd, .call { callee := .builtin .delete, args := #[x, y], argTypes := #[t, t2] }, ty, pos, af, none⟩ :: rest) K σ L :=
  R.value rfl rfl hn fun a' w ha hw => by
    obtain ⟨w', h1, h2, h3⟩ := delete_run hkt (TB.map X.tb ht hk) (hw.get _ _ hu.mem) k #[t, t2] rfl ty
    refine ⟨_, w', L', ?_, hw.upd hu h2 h3, h⟩
    simp [execOp, resolve, ha.ev hx, ha.ev hy, hv, invoke, builtin, h1]

/-- A ranging over a map begins. -/
theorem R.range {kt et : TypeId} (hn : Nat.blt dd X.n = true) (ht : X.tb.row t = some r) (hk : r.k = .map kt et) (hx : ev σ x = some (.map (some b))) (hat : At L b (mobj kv vv ms clk))
    (h : ∀ c, R X all rest K ((dd, .pointer (some ⟨c, 0, none⟩)) :: σ) ((c, .mapIter (some b) clk ⟨[]⟩ clk) :: L)) : R X all (⟨some dd, .range t x, ty, pos, af, none⟩ :: rest) K σ L :=
  R.value rfl rfl hn fun a w ha hw => by
    refine ⟨.pointer (some ⟨w.heap.size, 0, none⟩), w.alloc (.mapIter (some b) clk ⟨[]⟩ clk), _, ?_, hw.alloc _, h _⟩
    have hb := hw.get _ _ hat.mem
    have hget : (getObj b).run X.P w = .ok (mobj kv vv ms clk) w := by
      simp only [getObj, Sem.run, hb]; rfl
    simp [execOp, ha.ev hx, Instr.range, run_underlying (TB.map X.tb ht hk), hget, mobj]

/-- One step of a ranging over a map that is not written meanwhile. -/
theorem R.next {c : Nat} {seen : List Nat} (hn : Nat.blt dd X.n = true) (hx : ev σ x = some (.pointer (some ⟨c, 0, none⟩))) (hat : At L b (mobj kv vv ms clk)) (hit : At L c (.mapIter (some b) clk ⟨seen⟩ clk))
    (hclk : ∀ e ∈ ms, e.2.2 < clk)
    (hover : (∀ e ∈ ms, e.2.2 ∈ seen) → R X all rest K ((dd, .tuple ⟨[.bool false]⟩) :: σ) L)
    (hstep : ∀ e ∈ ms, e.2.2 ∉ seen → ∃ L', Upd L c (.mapIter (some b) clk ⟨seen⟩ clk) (.mapIter (some b) clk ⟨seen ++ [e.2.2]⟩ clk) L' ∧ R X all rest K ((dd, .tuple ⟨[.bool true, kv e.1, vv e.2.1]⟩) :: σ) L') :
    R X all (⟨some dd, .next x false, ty, pos, af, none⟩ :: rest) K σ L :=
  R.value rfl rfl hn fun a w ha hw => by
    have hb := hw.get _ _ hat.mem
    have hc := hw.get _ _ hit.mem
    have hget : ∀ w' : World, w'.heap = w.heap → (getObj b).run X.P w' = .ok (mobj kv vv ms clk) w' := by
      intro w' e
      simp only [getObj, Sem.run, e, hb]; rfl
    have hgetc : (getObj c).run X.P w = .ok (.mapIter (some b) clk ⟨seen⟩ clk) w := by
      simp only [getObj, Sem.run, hc]
    have hne : ∀ c' t f, (Obj.mapIter (some b) clk ⟨seen⟩ clk) ≠ .cells c' t f := fun _ _ _ e => by cases e
    let f : κ × α × Nat → MapEntry := fun x => ⟨kv x.1, vv x.2.1, x.2.2⟩
    have hguard : (!(Array.mk seen).isEmpty && !(Array.mk (ms.map f)).isEmpty && (Array.mk (ms.map f)).all (fun e => decide (e.born ≥ clk))) = false := by
      cases ms with
      | nil => simp
      | cons e r =>
        have := hclk e List.mem_cons_self
        simp [f]
        intro _ h
        omega
    have hold : (Array.mk (ms.map f)).filter (fun e => !(Array.mk seen).contains e.born) = ⟨(ms.filter fun e => !seen.contains e.2.2).map f⟩ := by
      apply Array.toList_inj.1
      simp [List.filter_map, f]
      rfl
    have hlt : ∀ e ∈ (ms.filter fun e => !seen.contains e.2.2).map f, e.born < clk := by
      intro e he
      obtain ⟨x, hx, rfl⟩ := List.mem_map.1 he
      exact hclk x (List.mem_filter.1 hx).1
    have hf1 : (Array.mk ((ms.filter fun e => !seen.contains e.2.2).map f)).filter (fun e => decide (e.born < clk)) = ⟨(ms.filter fun e => !seen.contains e.2.2).map f⟩ := by
      apply Array.toList_inj.1
      simp only [Array.toList_filter]
      rw [List.filter_eq_self.2]
      intro e he
      simpa using hlt e he
    have hf2 : (Array.mk ((ms.filter fun e => !seen.contains e.2.2).map f)).filter (fun e => decide (e.born ≥ clk)) = #[] := by
      apply Array.toList_inj.1
      simp only [Array.toList_filter]
      rw [List.filter_eq_nil_iff.2]
      intro e he
      have := hlt e he
      simp; omega
    generalize hrem : (ms.filter fun e => !seen.contains e.2.2) = rem at *
    have hmem : ∀ e ∈ rem, e ∈ ms ∧ e.2.2 ∉ seen := by
      intro e he
      rw [← hrem] at he
      simpa using List.mem_filter.1 he
    have hrun : ∀ (q : Sem Value), (execOp a.eval ⟨some dd, .next x false, ty, pos, af, none⟩).run X.P w = ((Instr.next (.pointer (some ⟨c, 0, none⟩)) false ty).run X.P w).andThen fun v w' => .ok (.value v) w' := by
      intro q
      simp [execOp, ha.ev hx]
    rw [hrun (Pure.pure undef)]
    unfold Instr.next
    simp only [Sem.run_bind, hgetc, Result.andThen_ok, hget w rfl, mobj]
    rw [show (ms.map fun x => (⟨kv x.1, vv x.2.1, x.2.2⟩ : MapEntry)) = ms.map f from rfl, hguard]
    simp only [Bool.false_eq_true, if_false, Sem.run_pure, Result.andThen_ok, hold, hf1, hf2, Sem.run_bind, run_choose]
    cases rem with
    | nil =>
      have hall : ∀ e ∈ ms, e.2.2 ∈ seen := by
        intro e he
        rcases Classical.em (e.2.2 ∈ seen) with h | h
        · exact h
        · have : e ∈ (ms.filter fun e => !seen.contains e.2.2) := List.mem_filter.2 ⟨he, by simpa using h⟩
          rw [hrem] at this
          cases this
      refine ⟨.tuple ⟨[.bool false]⟩, w, L, ?_, hw, hover hall⟩
      simp [Question.forced]
    | cons e0 rem =>
      -- some candidate is chosen
      have hcand : (((if (Array.mk ((e0 :: rem).map f)).isEmpty then #[none] else #[]) ++ ((Array.mk ((e0 :: rem).map f)) ++ #[]).map some) : Array (Option MapEntry)) = ⟨((e0 :: rem).map f).map some⟩ := by
        apply Array.toList_inj.1
        simp
      rw [hcand]
      have hsz : (Array.mk (((e0 :: rem).map f).map some)).size = rem.length + 1 := by simp
      rw [hsz]
      have key : ∀ i, i < rem.length + 1 → ∀ w', (w' = w ∨ w' = w.drew) → ∃ v w'' L', (match (Array.mk (((e0 :: rem).map f).map some))[i]? with
          | some (some e) => (do setObj c (.mapIter (some b) clk ((Array.mk seen).push e.born) clk); Pure.pure (Value.tuple #[.bool true, e.key, e.val]) : Sem Value)
          | some none => Pure.pure (Value.tuple #[.bool false])
          | none => stuck "Next: no such candidate" : Sem Value).run X.P w' = .ok v w'' ∧ Hp X.w0 X.S L' w'' ∧ R X all rest K ((dd, v) :: σ) L' := by
        intro i hi w' hw'
        have hi' : i < (e0 :: rem).length := by simpa using hi
        have : (Array.mk (((e0 :: rem).map f).map some))[i]? = some (some (f (e0 :: rem)[i])) := by
          have h8 : (((e0 :: rem).map f).map some)[i]? = some (some (f (e0 :: rem)[i])) := by
            rw [List.getElem?_map, List.getElem?_map, List.getElem?_eq_getElem hi']; rfl
          simpa using h8
        rw [this]
        obtain ⟨h1, h2⟩ := hmem _ (List.getElem_mem hi')
        obtain ⟨L', hu, hr⟩ := hstep _ h1 h2
        have hwp : Hp X.w0 X.S L w' := by
          rcases hw' with rfl | rfl
          · exact hw
          · exact hw.step (Chg.drew [] w)
        have hc' := hwp.get _ _ hit.mem
        have hs := setObj_run (P := X.P) (o' := .mapIter (some b) clk ⟨seen ++ [(e0 :: rem)[i].2.2]⟩ clk) hc' hne
        refine ⟨_, _, L', ?_, hwp.upd hu (Chg.setObj w' _ (by simp)) (setObj_at hc'), hr⟩
        have hpush : (Array.mk seen).push (f (e0 :: rem)[i]).born = ⟨seen ++ [(e0 :: rem)[i].2.2]⟩ := by simp [f]
        simp only [hpush, Sem.run_bind, hs, Result.andThen_ok, Sem.run_pure]
        rfl
      by_cases hfo : (Question.mapNext (rem.length + 1)).forced = true
      · simp only [hfo, if_true, Result.andThen_ok]
        obtain ⟨v, w'', L', h1, h2, h3⟩ := key 0 (by omega) w (.inl rfl)
        refine ⟨v, w'', L', ?_, h2, h3⟩
        erw [h1]; rfl
      · simp only [hfo, if_false, Result.andThen_ok, Bool.false_eq_true]
        obtain ⟨v, w'', L', h1, h2, h3⟩ := key ((Question.mapNext (rem.length + 1)).cut (w.tape w.drawn (.mapNext (rem.length + 1)))) (by simp only [Question.cut]; exact Nat.mod_lt _ (by omega)) w.drew (.inr rfl)
        refine ⟨v, w'', L', ?_, h2, h3⟩
        erw [h1]; rfl
end
end Go.Proofs.Ytligpachgcmkcaa
/- Slices: reslicing, append to a slice of one's own, make, copy. -/
set_option linter.unusedSimpArgs false
set_option linter.unusedVariables false
set_option linter.unusedSectionVars false
namespace Go.Proofs.Ytligpachgcmkcaa
open Go.RowKit Go.Shelf

/-- L without block b, which held o. -/
inductive Del : Lst → Nat → Obj → Lst → Prop where
  | head {b o r} : Del ((b, o) :: r) b o r
  | tail {x r b o r'} : Del r b o r' → Del (x :: r) b o (x :: r')
theorem Del.mem {L L' : Lst} {b : Nat} {o : Obj} (h : Del L b o L') : (b, o) ∈ L := by
  induction h with
  | head => exact List.mem_cons_self
  | tail _ ih => exact List.mem_cons_of_mem _ ih
theorem Del.perm {L L' : Lst} {b : Nat} {o : Obj} (h : Del L b o L') : ((b, o) :: L').Perm L := by
  induction h with
  | head => exact .refl _
  | tail _ ih => exact (List.Perm.swap _ _ _).trans (ih.cons _)

/-- A slice value of n elements of a slice of one's own: none yet, or (block, spare elements, the spare cells). -/
abbrev Ov := Option (Nat × Nat × List Value)
def slV (ov : Ov) (n : Nat) : Value := match ov with
  | none => .slice none 0 0
  | some (b, j, _) => .slice (some ⟨b, 0, none⟩) n (n + j)
def blkL (e : Nat) (ov : Ov) (xs : List Value) : Lst := match ov with
  | none => []
  | some (b, _, junk) => [(b, .cells ⟨xs ++ junk⟩ e (0, 0))]

section
variable {P : Program} {w : World}

/-- The k cells that a slice value's first m elements hold, in this world. -/
def Holds (w : World) (v : Value) (news : List Value) : Prop := match v with
  | .slice (some ⟨b, o, none⟩) _ _ => ∀ i, i < news.length → w.cell? ⟨b, o + i, none⟩ = news[i]?
  | .slice none _ _ => news = []
  | _ => False

theorem first_run {size m : Nat} {v : Value} {news : List Value} (h : Holds w v news) (hl : news.length = m * size) : (Builtin.firstCells size m v).run P w = .ok ⟨news⟩ w := by
  unfold Holds at h
  split at h
  · rename_i b o _ _
    have h2 := run_cells P w ⟨b, o, none⟩ rfl news (m * size) 0 #[] (fun j hj => by rw [Nat.zero_add]; exact h j (by omega)) (by omega)
    have e : (#[] : Array Value) ++ (⟨news.drop 0⟩ : Array Value) = ⟨news⟩ := by apply Array.toList_inj.1; simp
    rw [e] at h2
    simpa [Builtin.firstCells, loadCells] using h2
  · subst h
    simp [Builtin.firstCells]
  · exact h.elim

theorem growBy_le (newLen : Nat) : ∀ r c, c ≤ newLen → Builtin.growBy newLen r c ≤ 2 * newLen + 768
  | 0, c, h => by simp [Builtin.growBy]; omega
  | r + 1, c, h => by
    simp only [Builtin.growBy]
    split
    · omega
    · have hc : c < newLen := by omega
      by_cases hc2 : c + (c + 768) / 4 ≤ newLen
      · exact growBy_le newLen r _ hc2
      · cases r with
        | zero => simp only [Builtin.growBy]; omega
        | succ r => simp only [Builtin.growBy]; rw [if_pos (by omega)]; omega
theorem nextcap_le (need oldCap : Nat) (h : oldCap ≤ need) : Builtin.nextslicecap need oldCap ≤ 2 * need + 768 := by
  unfold Builtin.nextslicecap
  split
  · omega
  · split
    · omega
    · exact growBy_le need 4 oldCap h

def zeroCellsOf (re : TRow) : Array Value := re.zero.cells
theorem zeroCells_size (z : Array Value) (n : Nat) : (Builtin.zeroCells z n).size = n * z.size := by simp [Builtin.zeroCells]
end

section
variable {X : Cx} {σ : Env} {L L' L1 : Lst} {dd b : Nat} {ty ty2 : TypeId} {pos : String} {af : Array Edge} {d : Option Nat} {g : Option (Nat × Bool)} {x y z : Operand} {t t2 e : TypeId} {r r2 re : TRow}
variable {all : Array Oper} {rest : List Oper} {K : Env → Lst → Prop}

/-- Where a slice of one's own lies in what is known: its block is taken out. -/
inductive OwnAt (e sz : Nat) : Lst → Value → Nat → List Value → Lst → Prop where
  | nil (L : Lst) : OwnAt e sz L (.slice none 0 0) 0 [] L
  | blk {L L1 : Lst} {b n j : Nat} {old junk : List Value} : Del L b (.cells ⟨old ++ junk⟩ e (0, 0)) L1 → old.length = n * sz → junk.length = j * sz → OwnAt e sz L (.slice (some ⟨b, 0, none⟩) n (n + j)) n old L1

theorem setE_mid (old : List Value) : ∀ {vs junk : List Value}, vs.length ≤ junk.length → setE (old ++ junk) old.length vs = some (old ++ vs ++ junk.drop vs.length) := by
  induction old with
  | nil =>
    intro vs
    induction vs with
    | nil => intro junk _; simp [setE]
    | cons v vs ih =>
      intro junk h
      cases junk with
      | nil => simp at h
      | cons c cs =>
        have := ih (junk := cs) (by simpa using h)
        simp only [List.nil_append, List.length_nil] at this ⊢
        simp [setE, this]
  | cons c old ih =>
    intro vs junk h
    cases vs with
    | nil => simp [setE]
    | cons v vs =>
      have := ih h
      simp only [List.cons_append, List.length_cons, setE, this]

theorem append_run {P : Program} (tb : Tb P) (ht : tb.row t = some r) (hk : r.k = .slice e) (he : tb.row e = some re) {zc : List Value} (hz : cellsE re.zero = some zc) (hzl : zc.length = re.size) (ht2 : tb.row t2 = some r2) {e2 : Nat} (hk2 : r2.k = .slice e2)
    {w0 w : World} {S : List Nat} {s s2 : Value} {n m : Nat} {old news : List Value} (hw : Hp w0 S L w) (ho : OwnAt e re.size L s n old L1) (hs2 : Builtin.lenOf s2 = Pure.pure m) (hn2 : Holds w s2 news) (hlen : news.length = m * re.size) (h1 : news.all Value.oneCell' = true) (hm : 1 ≤ m)
    (hbig : (2 * (n + m) + 768) * re.bytes ≤ 281474976710656) (hb1 : 1 ≤ re.bytes) :
    ∃ b' j' junk' w', junk'.length = j' * re.size ∧ (Builtin.append_ #[t, t2] ty #[s, s2]).run P w = .ok (.slice (some ⟨b', 0, none⟩) (n + m) (n + m + j')) w' ∧ Hp w0 S ((b', .cells ⟨old ++ news ++ junk'⟩ e (0, 0)) :: L1) w' := by
  have hu : P.underlying t = some (.slice e) := by have := (tb.get ht).is; rw [hk] at this; exact this
  have hu2 : P.underlying t2 = some (.slice e2) := by have := (tb.get ht2).is; rw [hk2] at this; exact this
  have hbytes : ∃ i, P.info? e = some i ∧ i.bytes = re.bytes := by
    have := (tb.get he).bytes
    cases h : P.info? e with
    | none => rw [h] at this; cases this
    | some i => rw [h] at this; exact ⟨i, rfl, by simpa using this⟩
  obtain ⟨i, hi, hib⟩ := hbytes
  have hti : ∀ w, (typeInfo e).run P w = .ok i w := fun w => by simp [typeInfo, hi]
  have hzc := cellsE_eq hz
  -- growing: a new row
  have hgrow : ∀ (base : Option Addr) (cap : Nat), s = .slice base n cap → cap < n + m → Holds w s old → old.length = n * re.size → Hp w0 S L1 w → ∃ b' j' junk' w', junk'.length = j' * re.size ∧ (Builtin.append_ #[t, t2] ty #[s, s2]).run P w = .ok (.slice (some ⟨b', 0, none⟩) (n + m) (n + m + j')) w' ∧ Hp w0 S ((b', .cells ⟨old ++ news ++ junk'⟩ e (0, 0)) :: L1) w' := by
    intro base cap hs hc2 hold hlo hL1
    subst hs
    have hnx := nextcap_le (n + m) cap (by omega)
    have hnb : ¬ Builtin.nextslicecap (n + m) cap * re.bytes > 2 ^ 48 := by
      have := Nat.mul_le_mul_right re.bytes hnx
      have : (2 : Nat) ^ 48 = 281474976710656 := by decide
      omega
    have hold' : Holds w.drew (.slice base n cap) old := hold
    have hnew' : Holds w.drew s2 news := hn2
    obtain ⟨q, hq⟩ : ∃ q, (Question.appendCap (n + m) cap e).cut (w.tape w.drawn (.appendCap (n + m) cap e)) = n + m + q := ⟨_, rfl⟩
    refine ⟨w.heap.size, q, (Builtin.zeroCells (zeroCellsOf re) q).toList, w.drew.alloc (.cells ⟨old ++ news ++ (Builtin.zeroCells (zeroCellsOf re) q).toList⟩ e (0, 0)), ?_, ?_, ?_⟩
    · simp [zeroCells_size, zeroCellsOf, hzc, hzl]
    · have harr : (Array.mk old ++ Array.mk news ++ Builtin.zeroCells re.zero.cells (n + m + q - (n + m)) : Array Value) = ⟨old ++ news ++ (Builtin.zeroCells (zeroCellsOf re) q).toList⟩ := by
        apply Array.toList_inj.1
        simp [zeroCellsOf]
      have hf1 := first_run (P := P) hold' hlo
      have hf2 := first_run (P := P) hnew' hlen
      unfold Builtin.append_
      simp only [List.getElem?_toArray, List.getElem?_cons_zero, List.getElem?_cons_succ, Sem.run_bind, run_underlying hu, run_underlying hu2, Result.andThen_ok, (tb.get he).size, Sem.run_pure, Bool.false_eq_true, if_false, hs2, Bool.not_false, if_true,
        show ¬ n + m ≤ cap by omega, hti, hib, Sem.run_ite, show ¬ re.bytes = 0 by omega, or_false, and_false, false_or, hnb, run_choose, Question.forced, hq, run_askRoom, World.drew_eq, hf1, hf2, (tb.get he).zero, newRow, run_newObj, harr]
      rfl
    · exact (hL1.step (Chg.drew [] w)).alloc _
  cases ho with
  | nil => exact hgrow none 0 rfl (by omega) rfl (by simp) hw
  | @blk _ b _ j _ junk hd h2 h3 =>
    have hperm := hw.perm hd.perm
    have hb := hperm.get b _ List.mem_cons_self
    have hL1 : Hp w0 S L1 w := hperm.sub (List.sublist_cons_self _ _)
    have hold : Holds w (.slice (some ⟨b, 0, none⟩) n (n + j)) old := by
      intro i hi
      simp [World.cell?, hb, hi]
      exact List.getElem?_append_left hi |>.trans (List.getElem?_eq_getElem hi)
    by_cases hcap : m ≤ j
    · -- there is room
      have hset := setE_mid old (vs := news) (junk := junk) (by rw [hlen, h3]; exact Nat.mul_le_mul_right _ hcap)
      obtain ⟨w', g1, g2, g3⟩ := run_stores P ((⟨b, 0, none⟩ : Addr).add (n * re.size)) (by rw [Addr.add_none]) e news 0 w (old ++ junk) (old ++ news ++ junk.drop news.length) h1 (by rw [Addr.add_none]; exact hb) (by rw [Addr.add_none]; simpa [h2] using hset)
      rw [Addr.add_none] at g1 g2 g3
      refine ⟨b, j - m, junk.drop news.length, w', ?_, ?_, ?_⟩
      · simp [h3, hlen, Nat.sub_mul]
      · have hf2 := first_run (P := P) hn2 hlen
        unfold Builtin.append_
        simp only [List.getElem?_toArray, List.getElem?_cons_zero, List.getElem?_cons_succ, Sem.run_bind, run_underlying hu, run_underlying hu2, Result.andThen_ok, (tb.get he).size, Sem.run_pure, Bool.false_eq_true, if_false, hs2, Bool.not_false, if_true,
          show n + m ≤ n + j by omega, Sem.run_ite, hf2, Addr.add_none, g1]
        rw [show n + m + (j - m) = n + j by omega]
      · exact hperm.upd .head g3 g2
    · exact hgrow (some ⟨b, 0, none⟩) (n + j) rfl (by omega) hold h2 hL1

/-- append to a slice of one's own, of at least one element. -/
theorem R.append {s s2 : Value} {n m : Nat} {old news zc : List Value} {e2 : Nat} (hn : Nat.blt dd X.n = true) (ht : X.tb.row t = some r) (hk : r.k = .slice e) (he : X.tb.row e = some re) (hz : cellsE re.zero = some zc) (hzl : zc.length = re.size) (ht2 : X.tb.row t2 = some r2) (hk2 : r2.k = .slice e2) (hb1 : Nat.ble 1 re.bytes = true)
    (hx : ev σ x = some s) (hy : ev σ y = some s2) (hs2 : Builtin.lenOf s2 = Pure.pure m) (ho : OwnAt e re.size L s n old L1)
    (hn2 : ∀ w, Hp X.w0 X.S L w → Holds w s2 news) (hlen : news.length = m * re.size) (h1 : news.all Value.oneCell' = true) (hm : 1 ≤ m)
    (hbig : (2 * (n + m) + 768) * re.bytes ≤ 281474976710656)
    (h : ∀ b' j' junk', junk'.length = j' * re.size → R X all rest K ((dd, .slice (some ⟨b', 0, none⟩) (n + m) (n + m + j')) :: σ) ((b', .cells ⟨old ++ news ++ junk'⟩ e (0, 0)) :: L1)) :
    R X all (⟨some dd, .call { callee := .builtin .append, args := #[x, y], argTypes := #[t, t2] }, ty, pos, af, none⟩ :: rest) K σ L :=
  R.value rfl rfl hn fun a w ha hw => by
    obtain ⟨b', j', junk', w', g1, g2, g3⟩ := append_run X.tb (ty := ty) ht hk he hz hzl ht2 hk2 hw ho hs2 (hn2 w hw) hlen h1 hm hbig (Nat.le_of_ble_eq_true hb1)
    refine ⟨_, w', _, ?_, g3, h b' j' junk' g1⟩
    simp [execOp, resolve, ha.ev hx, ha.ev hy, invoke, builtin, g2]

theorem Ld.blk1 {v : Value} {b o : Nat} {cs : List Value} {te : TypeId} {fz : Nat × Nat} (ht : X.tb.row t = some r) (hk : r.k.agg = some false) (hb : X.w0.heap[b]? = some (.cells ⟨cs⟩ te fz)) (hs : b ∉ X.S) (hc : cs[o]? = some v) : Ld X L t ⟨b, o, none⟩ v :=
  .of1 ht hk fun w hw => by
    have := hw.chg.heap hb hs
    simp [World.cell?, this, hc]
theorem Ld.blkk {b o : Nat} {cs vs : List Value} {te : TypeId} {fz : Nat × Nat} (ht : X.tb.row t = some r) (hk : r.k.agg = some true) (hb : X.w0.heap[b]? = some (.cells ⟨cs⟩ te fz)) (hs : b ∉ X.S) (hc : subE cs o r.size = some vs) : Ld X L t ⟨b, o, none⟩ (.agg ⟨vs⟩) :=
  .ofk ht hk (subE_spec hc).1 fun w hw i hi => by
    have h1 := hw.chg.heap hb hs
    have h2 := (subE_spec hc).2 i hi
    simp [World.cell?, h1, h2]
/-- What an own block's slice holds. -/
theorem Holds.own {b n cap : Nat} {cs news : List Value} {te : TypeId} {fz : Nat × Nat} (hat : At L b (.cells ⟨cs⟩ te fz)) (hsub : subE cs 0 news.length = some news) {w0 w : World} {S : List Nat} (hw : Hp w0 S L w) : Holds w (.slice (some ⟨b, 0, none⟩) n cap) news := by
  intro i hi
  obtain ⟨h1, h2⟩ := subE_spec hsub
  have := hat.cell hw (0 + i)
  rw [this]
  exact h2 i hi
end
end Go.Proofs.Ytligpachgcmkcaa
/- Small operations: min, max, nil tests, shifts, a string's bytes, reslicing; calls that write blocks they know (CallM); a slice of one's own that grows. -/
set_option linter.unusedSimpArgs false
set_option linter.unusedVariables false
set_option linter.unusedSectionVars false
namespace Go.Proofs.Ytligpachgcmkcaa
open Go.RowKit Go.Shelf

section
variable {X : Cx} {σ : Env} {L L' L1 : Lst} {dd b : Nat} {ty ty2 : TypeId} {pos : String} {af : Array Edge} {d : Option Nat} {g : Option (Nat × Bool)} {x y z : Operand} {t e : TypeId} {r re : TRow} {v : Value}
variable {all : Array Oper} {rest : List Oper} {K : Env → Lst → Prop} {i j : Int} {k : IntKind} {ats : Array TypeId}

theorem Ok1.max2 (hx : ev σ x = some (.int k i)) (hy : ev σ y = some (.int k j)) : Ok1 X ⟨d, .call { callee := .builtin .max, args := #[x, y], argTypes := ats }, ty, pos, af, g⟩ σ L (.int k (max i j)) := .mk fun a w ha hw => by
  have : (if i < j then j else i) = max i j := by omega
  simp [execOp, resolve, ha.ev hx, ha.ev hy, invoke, builtin, Builtin.max_, Builtin.max2, this]
theorem Ok1.min2 (hx : ev σ x = some (.int k i)) (hy : ev σ y = some (.int k j)) : Ok1 X ⟨d, .call { callee := .builtin .min, args := #[x, y], argTypes := ats }, ty, pos, af, g⟩ σ L (.int k (min i j)) := .mk fun a w ha hw => by
  have : (if j < i then j else i) = min i j := by omega
  simp [execOp, resolve, ha.ev hx, ha.ev hy, invoke, builtin, Builtin.min_, Builtin.min2, this]

/-! nil tests -/
theorem ptr_is {X : Cx} (ht : X.tb.row t = some r) (hk : r.k = .ptr e) : X.P.underlying t = some (.pointer e) := by have := (X.tb.get ht).is; rw [hk] at this; exact this
theorem equal_run {P : Program} {w : World} {t : TypeId} {x y : Value} {b : Bool} (h : ∀ d, (Op.equalIn (d + 1) t x y).run P w = .ok b w) : (Op.equal t x y).run P w = .ok b w := h 9999
theorem eqlop_run {X : Cx} {w : World} {x y : Operand} {u v : Value} {b : Bool} {A : Act} (hx : A.eval x = u) (hy : A.eval y = v) (h1 : ∀ a, u ≠ .agg a) (h1' : u ≠ .nilIface) (h2 : binOp .eql t u v = (do pure (.bool (← Op.equal t u v)))) (h : ∀ d, (Op.equalIn (d + 1) t u v).run X.P w = .ok b w) :
    (execOp A.eval ⟨d, .binOp .eql t x y ty2, ty, pos, af, g⟩).run X.P w = .ok (.value (.bool b)) w := by
  have hg : eqGuard .eql t x y u v = pure () := by
    unfold eqGuard
    cases u <;> first | rfl | exact (h1 _ rfl).elim | exact (h1' rfl).elim
  have := equal_run h
  simp [execOp, hx, hy, hg, h2, this]
theorem neqop_run {X : Cx} {w : World} {x y : Operand} {u v : Value} {b : Bool} {A : Act} (hx : A.eval x = u) (hy : A.eval y = v) (h1 : ∀ a, u ≠ .agg a) (h1' : u ≠ .nilIface) (h2 : binOp .neq t u v = (do pure (.bool (!(← Op.equal t u v))))) (h : ∀ d, (Op.equalIn (d + 1) t u v).run X.P w = .ok b w) :
    (execOp A.eval ⟨d, .binOp .neq t x y ty2, ty, pos, af, g⟩).run X.P w = .ok (.value (.bool !b)) w := by
  have hg : eqGuard .neq t x y u v = pure () := by
    unfold eqGuard
    cases u <;> first | rfl | exact (h1 _ rfl).elim | exact (h1' rfl).elim
  have := equal_run h
  simp [execOp, hx, hy, hg, h2, this]
theorem Ok1.eqlP {p : Option Addr} (ht : X.tb.row t = some r) (hk : r.k = .ptr e) (hx : ev σ x = some (.pointer p)) (hy : ev σ y = some (.pointer none)) (hv : v = .bool p.isNone) : Ok1 X ⟨d, .binOp .eql t x y ty2, ty, pos, af, g⟩ σ L v := .mk fun a w ha hw => by
  have h : X.P.underlying t = some (.pointer e) := by have := (X.tb.get ht).is; rw [hk] at this; exact this
  subst hv
  rw [eqlop_run (b := p.isNone) (ha.ev hx) (ha.ev hy) (fun _ e => by cases e) (fun e => by cases e) rfl fun d => by cases p <;> simp [Op.equalIn, run_underlying h]]
theorem Ok1.neqP {p : Option Addr} (ht : X.tb.row t = some r) (hk : r.k = .ptr e) (hx : ev σ x = some (.pointer p)) (hy : ev σ y = some (.pointer none)) (hv : v = .bool p.isSome) : Ok1 X ⟨d, .binOp .neq t x y ty2, ty, pos, af, g⟩ σ L v := .mk fun a w ha hw => by
  have h : X.P.underlying t = some (.pointer e) := by have := (X.tb.get ht).is; rw [hk] at this; exact this
  subst hv
  rw [neqop_run (b := p.isNone) (ha.ev hx) (ha.ev hy) (fun _ e => by cases e) (fun e => by cases e) rfl fun d => by cases p <;> simp [Op.equalIn, run_underlying h]]
  cases p <;> rfl
theorem Ok1.eqlM {p : Option Nat} {kt et : TypeId} (ht : X.tb.row t = some r) (hk : r.k = .map kt et) (hx : ev σ x = some (.map p)) (hy : ev σ y = some (.map none)) (hv : v = .bool p.isNone) : Ok1 X ⟨d, .binOp .eql t x y ty2, ty, pos, af, g⟩ σ L v := .mk fun a w ha hw => by
  have h : X.P.underlying t = some (.map kt et) := by have := (X.tb.get ht).is; rw [hk] at this; exact this
  subst hv
  rw [eqlop_run (b := p.isNone) (ha.ev hx) (ha.ev hy) (fun _ e => by cases e) (fun e => by cases e) rfl fun d => by cases p <;> simp [Op.equalIn, run_underlying h]]
theorem Ok1.neqM {p : Option Nat} {kt et : TypeId} (ht : X.tb.row t = some r) (hk : r.k = .map kt et) (hx : ev σ x = some (.map p)) (hy : ev σ y = some (.map none)) (hv : v = .bool p.isSome) : Ok1 X ⟨d, .binOp .neq t x y ty2, ty, pos, af, g⟩ σ L v := .mk fun a w ha hw => by
  have h : X.P.underlying t = some (.map kt et) := by have := (X.tb.get ht).is; rw [hk] at this; exact this
  subst hv
  rw [neqop_run (b := p.isNone) (ha.ev hx) (ha.ev hy) (fun _ e => by cases e) (fun e => by cases e) rfl fun d => by cases p <;> simp [Op.equalIn, run_underlying h]]
  cases p <;> rfl
theorem Ok1.eqlS {p : Option Addr} {n c : Nat} (ht : X.tb.row t = some r) (hk : r.k = .slice e) (hx : ev σ x = some (.slice p n c)) (hy : ev σ y = some (.slice none 0 0)) (hv : v = .bool p.isNone) : Ok1 X ⟨d, .binOp .eql t x y ty2, ty, pos, af, g⟩ σ L v := .mk fun a w ha hw => by
  have h : X.P.underlying t = some (.slice e) := by have := (X.tb.get ht).is; rw [hk] at this; exact this
  subst hv
  rw [eqlop_run (b := p.isNone) (ha.ev hx) (ha.ev hy) (fun _ e => by cases e) (fun e => by cases e) rfl fun d => by cases p <;> simp [Op.equalIn, run_underlying h]]
theorem Ok1.neqS {p : Option Addr} {n c : Nat} (ht : X.tb.row t = some r) (hk : r.k = .slice e) (hx : ev σ x = some (.slice p n c)) (hy : ev σ y = some (.slice none 0 0)) (hv : v = .bool p.isSome) : Ok1 X ⟨d, .binOp .neq t x y ty2, ty, pos, af, g⟩ σ L v := .mk fun a w ha hw => by
  have h : X.P.underlying t = some (.slice e) := by have := (X.tb.get ht).is; rw [hk] at this; exact this
  subst hv
  rw [neqop_run (b := p.isNone) (ha.ev hx) (ha.ev hy) (fun _ e => by cases e) (fun e => by cases e) rfl fun d => by cases p <;> simp [Op.equalIn, run_underlying h]]
  cases p <;> rfl

/-! shifts by a constant, a string's byte -/
def pw : Nat → Int
  | 0 => 1 | 1 => 2 | 2 => 4 | 3 => 8 | 4 => 16 | 5 => 32 | 6 => 64 | 7 => 128 | 8 => 256 | 16 => 65536 | 24 => 16777216 | 32 => 4294967296
  | n => 2 ^ n
theorem pw_eq (n : Nat) : pw n = 2 ^ n := by unfold pw; split <;> rfl
theorem Ok1.shr {k2 : IntKind} {m : Int} (hx : ev σ x = some (.int k i)) (hy : ev σ y = some (.int k2 j)) (h : 0 ≤ j) (h2 : j.toNat ≤ k.bits) (hm : pw j.toNat = m) : Ok1 X ⟨d, .binOp .shr t x y ty2, ty, pos, af, g⟩ σ L (.int k (i / m)) := .mk fun a w ha hw => by
  have hp : (0 : Int) ≤ 2 ^ j.toNat := Int.le_of_lt (Int.pow_pos (by decide))
  have : ¬ j < 0 := by omega
  rw [← hm, pw_eq]
  simp [execOp, ha.ev hx, ha.ev hy, eqGuard, binOp, Op.shift, this, Nat.min_eq_left h2, Int.fdiv_eq_ediv_of_nonneg _ hp]
theorem Ok1.indexStr {s : ByteArray} {c : UInt8} (ht : X.tb.row t = some r) (hk : r.k = .string) (hx : ev σ x = some (.string s)) (hy : ev σ y = some (.int k i)) (h0 : 0 ≤ i) (hc : s[i.toNat]? = some c) : Ok1 X ⟨d, .index t x y, ty, pos, af, g⟩ σ L (.int .u8 c.toNat) := .mk fun a w ha hw => by
  have h : X.P.underlying t = some .string := by have := (X.tb.get ht).is; rw [hk] at this; exact this
  simp [execOp, ha.ev hx, ha.ev hy, Instr.index, asIntOf, run_underlying h, h0, hc]

/-! reslicing -/
def bd (σ : Env) (o : Option Operand) (dflt : Int) : Option Int := match o with
  | none => some dflt
  | some o => match ev σ o with
    | some (.int _ i) => some i
    | _ => none
theorem bound_run {P : Program} {w : World} {n a : Nat} {A : Act} (σ : Env) (ha : Mod n A σ) {o : Operand} {dflt : Int} {i : Int} {code : BoundsCode} (h : bd σ (some o) dflt = some i) (h0 : 0 ≤ i) (h1 : i ≤ a) : (Instr.sliceBound (A.eval o) a code).run P w = .ok i.toNat w := by
  simp only [bd] at h
  cases hv : ev σ o with
  | none => rw [hv] at h; cases h
  | some u =>
    rw [hv] at h
    cases u <;> simp only [reduceCtorEq, Option.some.injEq] at h
    subst h
    simp [Instr.sliceBound, ha.ev hv, asIntOf, h0, h1]
theorem bounds_run {P : Program} {w : World} {n : Nat} {A : Act} {isS : Bool} {len cap : Nat} {lo hi mx : Option Operand} {l h m : Int} (ha : Mod n A σ) (hm : bd σ mx cap = some m) (hh : bd σ hi len = some h) (hl : bd σ lo 0 = some l) (h0 : 0 ≤ l) (h1 : l ≤ h) (h2 : h ≤ m) (h3 : m ≤ cap) (hx : mx = none ∨ hi ≠ none) :
    (Instr.sliceBounds isS len cap (lo.map A.eval) (hi.map A.eval) (mx.map A.eval)).run P w = .ok (l.toNat, h.toNat, m.toNat) w := by
  cases mx with
  | none =>
    simp only [bd, Option.some.injEq] at hm
    subst hm
    cases hi with
    | none =>
      simp only [bd, Option.some.injEq] at hh
      subst hh
      cases lo with
      | none => simp only [bd, Option.some.injEq] at hl; subst hl; simp [Instr.sliceBounds]
      | some o =>
        have hc := fun c => bound_run (P := P) (w := w) (a := len) (code := c) σ ha hl h0 (by omega)
        simp [Instr.sliceBounds, hc]
    | some o2 =>
      have hb := fun c => bound_run (P := P) (w := w) (a := cap) (code := c) σ ha hh (by omega) h2
      cases lo with
      | none => simp only [bd, Option.some.injEq] at hl; subst hl; simp [Instr.sliceBounds, hb]
      | some o => 
        have hc := fun c => bound_run (P := P) (w := w) (a := h.toNat) (code := c) σ ha hl h0 (by omega)
        simp [Instr.sliceBounds, hb, hc]
  | some o3 =>
    have hd := fun c => bound_run (P := P) (w := w) (a := cap) (code := c) σ ha hm (by omega) h3
    cases hi with
    | none => simp at hx
    | some o2 =>
      have hb := fun c => bound_run (P := P) (w := w) (a := m.toNat) (code := c) σ ha hh (by omega) (by omega)
      cases lo with
      | none => simp only [bd, Option.some.injEq] at hl; subst hl; simp [Instr.sliceBounds, hd, hb]
      | some o =>
        have hc := fun c => bound_run (P := P) (w := w) (a := h.toNat) (code := c) σ ha hl h0 (by omega)
        simp [Instr.sliceBounds, hd, hb, hc]
theorem slice_run {P : Program} {w : World} {n : Nat} {A : Act} {p : Option Addr} {len cap : Nat} {lo hi mx : Option Operand} {l h m : Int} (tb : Tb P) (ht : tb.row t = some r) (hk : r.k = .slice e) (he : tb.row e = some re) (ha : Mod n A σ) (hx : ev σ x = some (.slice p len cap)) (hm : bd σ mx cap = some m) (hh : bd σ hi len = some h) (hl : bd σ lo 0 = some l) (h0 : 0 ≤ l) (h1 : l ≤ h) (h2 : h ≤ m) (h3 : m ≤ cap) (hx2 : mx = none ∨ hi ≠ none) :
    (execOp A.eval ⟨d, .slice t x lo hi mx, ty, pos, af, g⟩).run P w = .ok (.value (.slice (if m.toNat = l.toNat then p else p.map (·.add (l.toNat * re.size))) (h.toNat - l.toNat) (m.toNat - l.toNat))) w := by
  have hu : P.underlying t = some (.slice e) := by have := (tb.get ht).is; rw [hk] at this; exact this
  have hb := bounds_run (P := P) (w := w) (isS := true) ha hm hh hl h0 h1 h2 h3 hx2
  simp [execOp, Instr.sliceAt, run_underlying hu, Instr.slice, ha.ev hx, hb, (tb.get he).size]
/-- of none -/
theorem Ok1.slice0 {lo hi mx : Option Operand} {l h m : Int} (ht : X.tb.row t = some r) (hk : r.k = .slice e) (he : X.tb.row e = some re) (hx : ev σ x = some (.slice none 0 0)) (hm : bd σ mx 0 = some m) (hh : bd σ hi 0 = some h) (hl : bd σ lo 0 = some l) (h0 : l = 0 ∧ h = 0 ∧ m = 0) (hx2 : mx = none ∨ hi ≠ none) :
    Ok1 X ⟨d, .slice t x lo hi mx, ty, pos, af, g⟩ σ L (.slice none 0 0) := .mk fun a w ha hw => by
  obtain ⟨rfl, rfl, rfl⟩ := h0
  rw [slice_run X.tb ht hk he ha hx hm hh hl (by omega) (by omega) (by omega) (by omega) hx2]
  simp
/-- its first ones -/
theorem Ok1.sliceTo {b o len cap : Nat} {hi mx : Option Operand} {h m : Int} (ht : X.tb.row t = some r) (hk : r.k = .slice e) (he : X.tb.row e = some re) (hx : ev σ x = some (.slice (some ⟨b, o, none⟩) len cap)) (hm : bd σ mx cap = some m) (hh : bd σ hi len = some h) (h1 : 0 ≤ h) (h2 : h ≤ m) (h3 : m ≤ cap) (hx2 : mx = none ∨ hi ≠ none) :
    Ok1 X ⟨d, .slice t x none hi mx, ty, pos, af, g⟩ σ L (.slice (some ⟨b, o, none⟩) h.toNat m.toNat) := .mk fun a w ha hw => by
  rw [slice_run (l := 0) X.tb ht hk he ha hx hm hh rfl (by omega) (by omega) (by omega) (by omega) hx2]
  simp [Addr.add_none]
/-- from one on, where room is left -/
theorem Ok1.sliceFrom {b o len cap : Nat} {lo : Operand} {hi mx : Option Operand} {l h m : Int} (ht : X.tb.row t = some r) (hk : r.k = .slice e) (he : X.tb.row e = some re) (hx : ev σ x = some (.slice (some ⟨b, o, none⟩) len cap)) (hl : bd σ (some lo) 0 = some l) (hm : bd σ mx cap = some m) (hh : bd σ hi len = some h) (h0 : 0 ≤ l) (h1 : l ≤ h) (h2 : h ≤ m) (h3 : m ≤ cap) (h4 : l < m) (hx2 : mx = none ∨ hi ≠ none) :
    Ok1 X ⟨d, .slice t x (some lo) hi mx, ty, pos, af, g⟩ σ L (.slice (some ⟨b, o + l.toNat * re.size, none⟩) (h.toNat - l.toNat) (m.toNat - l.toNat)) := .mk fun a w ha hw => by
  rw [slice_run X.tb ht hk he ha hx hm hh hl (by omega) (by omega) (by omega) (by omega) hx2]
  rw [if_neg (by omega)]
  simp [Addr.add_none]
end

/-! calls that write blocks they know -/
def blks (L : Lst) : List Nat := L.map (·.1)
/-- Called in world w, in which the blocks of L hold what L says, it returns a value; of what was there nothing but those blocks has changed; the value and what is known afterwards fit R. -/
structure CallM (P : Program) (f : FuncId) (vs : List Value) (L : Lst) (w : World) (R : Value → Lst → Prop) : Prop where
  run : Hp w (blks L) L w → Calls P f vs.toArray w fun e w' => ∃ v L', e = .returned v ∧ R v L' ∧ Hp w (blks L) L' w'

inductive Pull : Lst → Lst → Lst → Prop where
  | nil (L : Lst) : Pull L [] L
  | cons {L L1 Li Lr : Lst} {b : Nat} {o : Obj} : Del L b o L1 → Pull L1 Li Lr → Pull L ((b, o) :: Li) Lr
theorem Pull.perm {L Li Lr : Lst} (h : Pull L Li Lr) : (Li ++ Lr).Perm L := by
  induction h with
  | nil => exact .refl _
  | cons hd _ ih => exact (ih.cons _).trans hd.perm

theorem Hp.callM {w0 w w' : World} {S : List Nat} {Li Lo Lr : Lst} (h : Hp w0 S (Li ++ Lr) w) (h' : Hp w (blks Li) Lo w') : Hp w0 S (Lo ++ Lr) w' := by
  have hn := h.nod
  rw [List.map_append, List.nodup_append] at hn
  obtain ⟨hn1, hn2, hn3⟩ := hn
  have hin : ∀ b, b ∈ blks Li → w0.heap.size ≤ b ∨ b ∈ S := by
    intro b hb
    obtain ⟨⟨b', o⟩, hm, rfl⟩ := List.mem_map.1 hb
    exact h.own b' o (List.mem_append_left _ hm)
  have hsz := h.chg.size
  refine ⟨?_, ?_, ?_, ?_⟩
  · refine ⟨h'.chg.os.trans h.chg.os, h'.chg.tape.trans h.chg.tape, h'.chg.output.trans h.chg.output, Nat.le_trans h.chg.size h'.chg.size, Nat.le_trans h.chg.drawn h'.chg.drawn, fun k hk hks => ?_⟩
    refine (h'.chg.block k (by omega) fun hb => ?_).trans (h.chg.block k hk hks)
    rcases hin k hb with h1 | h1
    · omega
    · exact hks h1
  · intro b o hm
    rcases List.mem_append.1 hm with hm | hm
    · exact h'.get b o hm
    · refine h'.chg.heap (h.get b o (List.mem_append_right _ hm)) fun hb => ?_
      exact hn3 b hb b (List.mem_map.2 ⟨(b, o), hm, rfl⟩) rfl
  · rw [List.map_append, List.nodup_append]
    refine ⟨h'.nod, hn2, fun b hb c hc e => ?_⟩
    subst e
    obtain ⟨⟨b', o⟩, hm, rfl⟩ := List.mem_map.1 hb
    obtain ⟨⟨b2, o2⟩, hm2, e2⟩ := List.mem_map.1 hc
    have hlt := h.lt (List.mem_append_right Li hm2)
    try simp only at e2
    rcases h'.own b' o hm with h1 | h1
    · (try simp only at hlt e2); omega
    · exact hn3 b' h1 b' (List.mem_map.2 ⟨(b2, o2), hm2, e2⟩) rfl
  · intro b o hm
    rcases List.mem_append.1 hm with hm | hm
    · rcases h'.own b o hm with h1 | h1
      · exact .inl (by omega)
      · exact hin b h1
    · exact h.own b o (List.mem_append_right _ hm)

section
variable {X : Cx} {σ : Env} {L Li Lr : Lst} {dd : Nat} {ty : TypeId} {pos : String} {af : Array Edge} {f : FuncId} {ats : Array TypeId}
variable {all : Array Oper} {rest : List Oper} {K : Env → Lst → Prop} {xs : List Operand} {vs : List Value}

theorem R.callM {R1 : Value → Lst → Prop} (he : X.tb.fns.contains f = true) (hx : evs σ xs = some vs) (hn : Nat.blt dd X.n = true) (hp : Pull L Li Lr) (hc : ∀ w, Hp X.w0 X.S L w → CallM X.P f vs Li w R1) (h : ∀ v Lo, R1 v Lo → R X all rest K ((dd, v) :: σ) (Lo ++ Lr)) :
    R X all (⟨some dd, .call { callee := .value (.func f), args := xs.toArray, argTypes := ats }, ty, pos, af, none⟩ :: rest) K σ L :=
  R.call (α := Value × Lst) (v := fun v => v.1) (L' := fun v => v.2 ++ Lr) (I := fun v => R1 v.1 v.2) he hx hn (fun w hw => by
    have hw2 := hw.perm hp.perm
    have hin : Hp w (blks Li) Li w := ⟨.refl _ _, fun b o hm => hw2.get b o (List.mem_append_left _ hm), (List.nodup_append.1 (by have := hw2.nod; rwa [List.map_append] at this)).1, fun b o hm => .inr (List.mem_map.2 ⟨(b, o), hm, rfl⟩)⟩
    exact ((hc w hw).run hin).mono fun e w' ⟨v, Lo, h1, h2, h3⟩ => ⟨(v, Lo), h1, hw2.callM h3, h2⟩) fun v hv => h v.1 v.2 hv

theorem enterM {P : Program} (tb : Tb P) {f : FuncId} {fn : Func} {c : Code} {vs : List Value} {n : Nat} {R1 : Value → Lst → Prop} {w : World} {L : Lst}
    (hf : P.funcs[f]? = some fn) (hb : fn.body = some c) (hn : fn.ntmps = n) (hvn : Nat.ble vs.length n = true)
    (h : T ⟨P, tb, n, w, blks L⟩ c (retQ ⟨P, tb, n, w, blks L⟩ fn.results.toList R1) (number 0 vs) L) : CallM P f vs L w R1 :=
  ⟨fun hw => enter hf hb hn (Nat.le_of_ble_eq_true hvn) hw h⟩
end

/-! a slice of one's own that grows -/
def OvOk (sz : Nat) (ov : Ov) (n : Nat) (xs : List Value) : Prop := xs.length = n * sz ∧ match ov with
  | none => n = 0
  | some (_, j, junk) => junk.length = j * sz
theorem OvOk.start (sz : Nat) : OvOk sz none 0 [] := ⟨by simp, rfl⟩
theorem OwnAt.base {e sz n : Nat} {ov : Ov} {xs : List Value} (h : OvOk sz ov n xs) : OwnAt e sz (blkL e ov xs) (slV ov n) n xs [] := by
  obtain ⟨h1, h2⟩ := h
  cases ov with
  | none =>
    subst h2
    have : xs = [] := by cases xs; rfl; simp at h1
    subst this
    exact .nil []
  | some q => obtain ⟨b, j, junk⟩ := q; exact .blk .head h1 h2
theorem OwnAt.tail {e sz n : Nat} {L L1 : Lst} {v : Value} {xs : List Value} (y : Nat × Obj) (h : OwnAt e sz L v n xs L1) : OwnAt e sz (y :: L) v n xs (y :: L1) := by
  cases h with
  | nil => exact .nil _
  | blk h1 h2 h3 => exact .blk (.tail h1) h2 h3
theorem OvOk.some {sz n m b j : Nat} {ov : Ov} {xs ys junk : List Value} (h : OvOk sz ov n xs) (hy : ys.length = m * sz) (hj : junk.length = j * sz) : OvOk sz (some (b, j, junk)) (n + m) (xs ++ ys) :=
  ⟨by simp [h.1, hy, Nat.add_mul], hj⟩
end Go.Proofs.Ytligpachgcmkcaa
/- Numbers within range: conversions, quotients, remainders; the length of a number in bits. -/
set_option linter.unusedSimpArgs false
set_option linter.unusedVariables false
set_option linter.unusedSectionVars false
namespace Go.Proofs.Ytligpachgcmkcaa
open Go.RowKit Go.Shelf

section
variable {X : Cx} {σ : Env} {L : Lst} {ty ty2 t src dst : TypeId} {pos : String} {af : Array Edge} {d : Option Nat} {g : Option (Nat × Bool)} {x y : Operand} {rs rd : TRow} {i j : Int} {k : IntKind}
theorem Ok1.convI64 (hd : X.tb.row dst = some rd) (hk : rd.k = .int .i64) (hs : X.tb.row src = some rs) (hk2 : rs.k = .int k) (hx : ev σ x = some (.int k i)) (h1 : -9223372036854775808 ≤ i) (h2 : i ≤ 9223372036854775807) : Ok1 X ⟨d, .convert src dst x, ty, pos, af, g⟩ σ L (.int .i64 i) := by
  have := Ok1.conv (L := L) (ty := ty) (pos := pos) (af := af) (d := d) (g := g) hd hk hs hk2 hx
  rwa [IntWalk.i64_in i ⟨h1, h2⟩] at this
theorem Ok1.convU64 (hd : X.tb.row dst = some rd) (hk : rd.k = .int .u64) (hs : X.tb.row src = some rs) (hk2 : rs.k = .int k) (hx : ev σ x = some (.int k i)) (h1 : 0 ≤ i) (h2 : i ≤ 18446744073709551615) : Ok1 X ⟨d, .convert src dst x, ty, pos, af, g⟩ σ L (.int .u64 i) := by
  have := Ok1.conv (L := L) (ty := ty) (pos := pos) (af := af) (d := d) (g := g) hd hk hs hk2 hx
  rwa [IntWalk.u64_in i ⟨h1, h2⟩] at this
theorem Ok1.convU32 (hd : X.tb.row dst = some rd) (hk : rd.k = .int .u32) (hs : X.tb.row src = some rs) (hk2 : rs.k = .int k) (hx : ev σ x = some (.int k i)) (h1 : 0 ≤ i) (h2 : i ≤ 4294967295) : Ok1 X ⟨d, .convert src dst x, ty, pos, af, g⟩ σ L (.int .u32 i) := by
  have := Ok1.conv (L := L) (ty := ty) (pos := pos) (af := af) (d := d) (g := g) hd hk hs hk2 hx
  rwa [IntWalk.u32_in i ⟨h1, h2⟩] at this
theorem Ok1.convU8 (hd : X.tb.row dst = some rd) (hk : rd.k = .int .u8) (hs : X.tb.row src = some rs) (hk2 : rs.k = .int k) (hx : ev σ x = some (.int k i)) (h1 : 0 ≤ i) (h2 : i ≤ 255) : Ok1 X ⟨d, .convert src dst x, ty, pos, af, g⟩ σ L (.int .u8 i) := by
  have := Ok1.conv (L := L) (ty := ty) (pos := pos) (af := af) (d := d) (g := g) hd hk hs hk2 hx
  rwa [IntWalk.u8_in i ⟨h1, h2⟩] at this
theorem Ok1.quo64 (hx : ev σ x = some (.int .i64 i)) (hy : ev σ y = some (.int .i64 j)) (h0 : 0 ≤ i) (h1 : 0 < j) (h2 : i ≤ 9223372036854775807) : Ok1 X ⟨d, .binOp .quo t x y ty2, ty, pos, af, g⟩ σ L (.int .i64 (i / j)) := by
  have := Ok1.quo (X := X) (L := L) (ty := ty) (ty2 := ty2) (t := t) (pos := pos) (af := af) (d := d) (g := g) hx hy (by omega)
  rw [Int.tdiv_eq_ediv_of_nonneg h0] at this
  have h3 := Int.ediv_le_self j h0
  have h4 := Int.ediv_nonneg h0 (Int.le_of_lt h1)
  rwa [IntWalk.i64_in (i / j) ⟨by omega, by omega⟩] at this
theorem Ok1.remN (hx : ev σ x = some (.int k i)) (hy : ev σ y = some (.int k j)) (h0 : 0 ≤ i) (h1 : 0 < j) : Ok1 X ⟨d, .binOp .rem t x y ty2, ty, pos, af, g⟩ σ L (.int k (i % j)) := by
  have := Ok1.rem (X := X) (L := L) (ty := ty) (ty2 := ty2) (t := t) (pos := pos) (af := af) (d := d) (g := g) hx hy (by omega)
  rwa [Int.tmod_eq_emod_of_nonneg h0] at this
theorem pwE1 : pw (Int.toNat 1) = 2 := rfl
theorem pwE2 : pw (Int.toNat 2) = 4 := rfl
theorem pwE3 : pw (Int.toNat 3) = 8 := rfl
theorem pwE4 : pw (Int.toNat 4) = 16 := rfl
theorem pwE5 : pw (Int.toNat 5) = 32 := rfl
theorem pwE6 : pw (Int.toNat 6) = 64 := rfl
theorem pwE7 : pw (Int.toNat 7) = 128 := rfl
theorem pwE8 : pw (Int.toNat 8) = 256 := rfl
theorem pwE16 : pw (Int.toNat 16) = 65536 := rfl
theorem pwE24 : pw (Int.toNat 24) = 16777216 := rfl
theorem pwE32 : pw (Int.toNat 32) = 4294967296 := rfl
end

def blen (x : Nat) : Nat := if x = 0 then 0 else Nat.log2 x + 1
theorem blen_half {x : Nat} (h : x ≠ 0) : blen x = blen (x / 2) + 1 := by
  unfold blen
  rw [if_neg h, Nat.log2_def]
  by_cases h2 : 2 ≤ x
  · rw [if_pos h2, if_neg (by omega)]
  · rw [if_neg h2, if_pos (by omega)]
theorem blen_div (k : Nat) : ∀ {x : Nat}, 2 ^ k ≤ x → blen x = blen (x / 2 ^ k) + k := by
  induction k with
  | zero => intro x _; simp
  | succ k ih =>
    intro x h
    have h2 : 2 ^ k ≤ x / 2 := by rw [Nat.pow_succ] at h; omega
    have h3 : 0 < 2 ^ k := Nat.two_pow_pos k
    rw [blen_half (by omega), ih h2, Nat.div_div_eq_div_mul, Nat.pow_succ, Nat.mul_comm 2 (2 ^ k)]
    omega
theorem blen8 {x : Nat} (h : 256 ≤ x) : blen x = blen (x / 256) + 8 := blen_div 8 h
theorem blen16 {x : Nat} (h : 65536 ≤ x) : blen x = blen (x / 65536) + 16 := blen_div 16 h
theorem blen32 {x : Nat} (h : 4294967296 ≤ x) : blen x = blen (x / 4294967296) + 32 := blen_div 32 h
theorem blen_le {x : Nat} (k : Nat) (h : x < 2 ^ k) : blen x ≤ k := by
  unfold blen
  split
  · omega
  · rename_i h0
    have := (Nat.log2_lt h0).2 h
    omega
/-- The table of the lengths of all bytes. -/
def isLen8 (s : ByteArray) : Bool := (List.range 256).all fun n => s[n]? == some (UInt8.ofNat (blen n))
theorem len8 {s : ByteArray} (h : isLen8 s = true) {i : Int} (h0 : 0 ≤ i) (h1 : i ≤ 255) : s[i.toNat]? = some (UInt8.ofNat (blen i.toNat)) := by
  simp only [isLen8, List.all_eq_true, List.mem_range, beq_iff_eq] at h
  exact h _ (by omega)
theorem len8_val {i : Int} (h0 : 0 ≤ i) (h1 : i ≤ 255) : ((UInt8.ofNat (blen i.toNat)).toNat : Int) = blen i.toNat := by
  have : blen i.toNat ≤ 8 := blen_le 8 (by omega)
  simp
  omega
theorem Ok1.len8 {X : Cx} {σ : Env} {L : Lst} {ty t : TypeId} {pos : String} {af : Array Edge} {d : Option Nat} {g : Option (Nat × Bool)} {x y : Operand} {r : TRow} {i : Int} {k : IntKind} {s : ByteArray}
    (ht : X.tb.row t = some r) (hk : r.k = .string) (hx : ev σ x = some (.string s)) (hy : ev σ y = some (.int k i)) (h0 : 0 ≤ i) (h1 : i ≤ 255) (hs : isLen8 s = true) : Ok1 X ⟨d, .index t x y, ty, pos, af, g⟩ σ L (.int .u8 ((min (blen i.toNat) 8 : Nat) : Int)) := by
  have hb : blen i.toNat ≤ 8 := blen_le 8 (by omega)
  rw [Nat.min_eq_left hb]
  have := Ok1.indexStr (X := X) (L := L) (ty := ty) (pos := pos) (af := af) (d := d) (g := g) ht hk hx hy h0 (Ytligpachgcmkcaa.len8 hs h0 h1)
  rwa [len8_val h0 h1] at this
end Go.Proofs.Ytligpachgcmkcaa
/- Slices of rows that are only read; a slice of one's own with rows of one kind. -/
set_option linter.unusedSimpArgs false
set_option linter.unusedVariables false
set_option linter.unusedSectionVars false
namespace Go.Proofs.Ytligpachgcmkcaa
open Go.RowKit Go.Shelf

def fl {α : Type} (v : α → List Value) (rs : List α) : List Value := (rs.map v).flatten
section
variable {α : Type} {v : α → List Value} {sz : Nat} {rs : List α}
theorem fl_len (hv : ∀ a, (v a).length = sz) (rs : List α) : (fl v rs).length = rs.length * sz := by
  induction rs with
  | nil => simp [fl]
  | cons a rs ih => simp only [fl, List.map_cons, List.flatten_cons, List.length_append, List.length_cons] at ih ⊢; rw [hv, ih, Nat.add_mul]; omega
theorem fl_get (hv : ∀ a, (v a).length = sz) : ∀ {rs : List α} {i : Nat} {a : α} {k : Nat}, rs[i]? = some a → k < sz → (fl v rs)[i * sz + k]? = (v a)[k]?
  | [], i, a, k, h, _ => by simp at h
  | b :: rs, 0, a, k, h, hk => by
    simp only [List.getElem?_cons_zero, Option.some.injEq] at h
    subst h
    simp only [fl, List.map_cons, List.flatten_cons, Nat.zero_mul, Nat.zero_add]
    exact List.getElem?_append_left (by rw [hv]; exact hk)
  | b :: rs, i + 1, a, k, h, hk => by
    simp only [List.getElem?_cons_succ] at h
    have := fl_get hv h hk
    simp only [fl, List.map_cons, List.flatten_cons] at this ⊢
    rw [List.getElem?_append_right (by rw [hv, Nat.add_mul]; omega), hv, ← this]
    congr 1
    rw [Nat.add_mul]; omega
theorem fl_snoc (a : α) : fl v (rs ++ [a]) = fl v rs ++ v a := by simp [fl]
theorem fl_take {i : Nat} {a : α} (h : rs[i]? = some a) : fl v (rs.take (i + 1)) = fl v (rs.take i) ++ v a := by
  rw [List.take_add_one, h, Option.toList_some, fl_snoc]
theorem fl_take0 : fl v (rs.take 0) = [] := by simp [fl]
theorem fl_append (l m : List α) : fl v (l ++ m) = fl v l ++ fl v m := by simp [fl]
end

/-- In world w the slice with this base holds the rows rs (one of none has any base). -/
def RdSl {α : Type} (w : World) (p : Option Addr) (v : α → List Value) (rs : List α) : Prop :=
  rs = [] ∨ ∃ b o, p = some ⟨b, o, none⟩ ∧ ∀ k, k < (fl v rs).length → w.cell? ⟨b, o + k, none⟩ = (fl v rs)[k]?
/-- Its block is none of these. -/
def Off (p : Option Addr) (S : List Nat) : Prop := ∀ a, p = some a → a.block ∉ S
theorem RdSl.at {α : Type} {w : World} {p : Option Addr} {v : α → List Value} {rs : List α} (h : RdSl w p v rs) {i : Nat} {a : α} (hi : rs[i]? = some a) :
    ∃ b o, p = some ⟨b, o, none⟩ ∧ ∀ sz, (∀ a, (v a).length = sz) → ∀ k, k < sz → w.cell? ⟨b, o + (i * sz + k), none⟩ = (v a)[k]? := by
  rcases h with rfl | ⟨b, o, hp, h⟩
  · simp at hi
  · refine ⟨b, o, hp, fun sz hv k hk => ?_⟩
    rw [h _ (by
      rw [fl_len hv]
      have := (List.getElem?_eq_some_iff.1 hi).1
      have := Nat.mul_le_mul_right sz this
      rw [Nat.succ_mul] at this
      omega), fl_get hv hi hk]

section
variable {X : Cx} {σ : Env} {L : Lst} {ty t e : TypeId} {pos : String} {af : Array Edge} {d : Option Nat} {g : Option (Nat × Bool)} {x y : Operand} {r re : TRow} {i : Int} {k : IntKind}
/-- An element's address, of a slice whose base is known by name. -/
theorem Ok1.indexAddrP {p : Option Addr} {b o n cap : Nat} (ht : X.tb.row t = some r) (hk : r.k = .slice e) (he : X.tb.row e = some re) (hx : ev σ x = some (.slice p n cap)) (hp : p = some ⟨b, o, none⟩) (hy : ev σ y = some (.int k i)) (h0 : 0 ≤ i) (h1 : i < n) :
    Ok1 X ⟨d, .indexAddr t x y, ty, pos, af, g⟩ σ L (.pointer (some ⟨b, o + i.toNat * re.size, none⟩)) := by
  subst hp; exact Ok1.indexAddr ht hk he hx hy h0 h1
/-- A row's one part, and a row (or a part of many cells). H: what the cells of the row hold. -/
theorem Ld.row1 {b o j sz f n : Nat} {vs : List Value} {v : Value} (H : ∀ k, k < n → X.w0.cell? ⟨b, o + (j * sz + k), none⟩ = vs[k]?) (hl : vs.length = n) (hS : b ∉ X.S) (ht : X.tb.row t = some r) (hk : r.k.agg = some false) (hf : vs[f]? = some v) : Ld X L t ⟨b, o + j * sz + f, none⟩ v :=
  .old1 ht hk (by rw [Nat.add_assoc, H f (hl ▸ (List.getElem?_eq_some_iff.1 hf).1)]; exact hf) hS
theorem Ld.row0 {b o j sz n : Nat} {vs : List Value} {v : Value} (H : ∀ k, k < n → X.w0.cell? ⟨b, o + (j * sz + k), none⟩ = vs[k]?) (hl : vs.length = n) (hS : b ∉ X.S) (ht : X.tb.row t = some r) (hk : r.k.agg = some false) (hf : vs[0]? = some v) : Ld X L t ⟨b, o + j * sz, none⟩ v :=
  .row1 (f := 0) H hl hS ht hk hf
theorem Ld.rowk {b o j sz f n : Nat} {vs us : List Value} (H : ∀ k, k < n → X.w0.cell? ⟨b, o + (j * sz + k), none⟩ = vs[k]?) (hl : vs.length = n) (hS : b ∉ X.S) (ht : X.tb.row t = some r) (hk : r.k.agg = some true) (hf : subE vs f r.size = some us) : Ld X L t ⟨b, o + j * sz + f, none⟩ (.agg ⟨us⟩) := by
  obtain ⟨h1, h2⟩ := subE_spec hf
  refine .oldk ht hk h1 (fun i hi => ?_) hS
  have h3 := h2 i hi
  have hlt : f + i < n := by
    rcases Nat.lt_or_ge (f + i) vs.length with h | h
    · omega
    · rw [List.getElem?_eq_none h, List.getElem?_eq_getElem (by omega)] at h3; cases h3
  rw [show o + j * sz + f + i = o + (j * sz + (f + i)) by omega, H _ hlt, h3]
theorem Ld.rowk0 {b o j sz n : Nat} {vs us : List Value} (H : ∀ k, k < n → X.w0.cell? ⟨b, o + (j * sz + k), none⟩ = vs[k]?) (hl : vs.length = n) (hS : b ∉ X.S) (ht : X.tb.row t = some r) (hk : r.k.agg = some true) (hf : subE vs 0 r.size = some us) : Ld X L t ⟨b, o + j * sz, none⟩ (.agg ⟨us⟩) :=
  .rowk (f := 0) H hl hS ht hk hf
end
/-- append of the first elements of an own block to an own slice. -/
theorem R.append1 {X : Cx} {σ : Env} {L L1 : Lst} {dd b2 m cap2 n : Nat} {ty t t2 e e2 : TypeId} {pos : String} {af : Array Edge} {x y : Operand} {r r2 re : TRow} {all : Array Oper} {rest : List Oper} {K : Env → Lst → Prop} {s : Value} {old news zc cs : List Value} {te : TypeId} {fz : Nat × Nat}
    (hn : Nat.blt dd X.n = true) (ht : X.tb.row t = some r) (hk : r.k = .slice e) (he : X.tb.row e = some re) (hz : cellsE re.zero = some zc) (hzl : zc.length = re.size) (ht2 : X.tb.row t2 = some r2) (hk2 : r2.k = .slice e2) (hb1 : Nat.ble 1 re.bytes = true) (hb2 : Nat.ble re.bytes 65536 = true)
    (hx : ev σ x = some s) (hy : ev σ y = some (.slice (some ⟨b2, 0, none⟩) m cap2)) (ho : OwnAt e re.size L s n old L1) (hat : At L b2 (.cells ⟨cs⟩ te fz)) (hsub : subE cs 0 (m * re.size) = some news)
    (h1 : news.all Value.oneCell' = true) (hm : 1 ≤ m) (hbig : n + m ≤ 1073741824)
    (h : ∀ b' j' junk', junk'.length = j' * re.size → R X all rest K ((dd, .slice (some ⟨b', 0, none⟩) (n + m) (n + m + j')) :: σ) ((b', .cells ⟨old ++ news ++ junk'⟩ e (0, 0)) :: L1)) :
    R X all (⟨some dd, .call { callee := .builtin .append, args := #[x, y], argTypes := #[t, t2] }, ty, pos, af, none⟩ :: rest) K σ L := by
  have hl := (subE_spec hsub).1
  refine R.append hn ht hk he hz hzl ht2 hk2 hb1 hx hy rfl ho (fun w hw => Holds.own hat (hl ▸ hsub) hw) hl h1 hm ?_ h
  have h3 := Nat.le_of_ble_eq_true hb2
  have := Nat.mul_le_mul (show 2 * (n + m) + 768 ≤ 2147484416 by omega) h3
  omega
/-- An own slice's rows, seen by one who is called. -/
theorem RdSl.own {α : Type} {v : α → List Value} {e sz : Nat} {ov : Ov} {rs : List α} {w0 w : World} {S : List Nat} {L : Lst} (hw : Hp w0 S L w) (hb : ∀ x ∈ blkL e ov (fl v rs), x ∈ L) (hok : OvOk sz ov rs.length (fl v rs)) (hv : ∀ a, (v a).length = sz) :
    RdSl w (match ov with | none => none | some (b, _, _) => some ⟨b, 0, none⟩) v rs := by
  cases ov with
  | none =>
    left
    have := hok.2
    simpa using this
  | some q =>
    obtain ⟨b, j, junk⟩ := q
    right
    refine ⟨b, 0, rfl, fun k hk => ?_⟩
    have := hw.get b (.cells ⟨fl v rs ++ junk⟩ e (0, 0)) (hb _ (by simp [blkL]))
    simp only [World.cell?, this]
    simp [hk, List.getElem?_append_left]
section
variable {X : Cx} {σ : Env} {L C : Lst} {all : Array Oper} {rest : List Oper} {K : Env → Lst → Prop} {op : Op} {type : TypeId} {pos : String} {after : Array Edge} {j dj : Nat} {want : Bool}
theorem Mod.unyielded {n : Nat} {a : Act} (ha : Mod n a σ) (hj : (all[j]?).bind (·.dst) = some dj) (hb : look σ dj = some undef) : Go.yielded all a.tmps j = none := by
  have := ha.ok dj undef hb
  simp only [Array.getD] at this
  by_cases hlt : dj < a.tmps.size
  · rw [dif_pos hlt] at this
    have h2 : a.tmps[dj]? = some undef := by rw [Array.getElem?_eq_getElem hlt]; exact congrArg some this
    simp [Go.yielded, hj, h2, undef]
  · have h2 : a.tmps[dj]? = none := Array.getElem?_eq_none (by omega)
    simp [Go.yielded, hj, h2]
/-- An operation whose guard was itself passed by. -/
theorem R.guard_un {dst : Nat} (hj : (all[j]?).bind (·.dst) = some dj) (hb : look σ dj = some undef) (hn : Nat.blt dst X.n = true) (h1 : R X all rest K ((dst, undef) :: σ) L) :
    R X all ({ dst := some dst, op := op, type := type, pos := pos, after := after, guard := some (j, want) } :: rest) K σ L :=
  ⟨fun a w ha hw => by
    have hy := ha.unyielded hj hb
    unfold wpList
    have hw' : Region.wanted { dst := some dst, op := op, type := type, pos := pos, after := after, guard := some (j, want) } (yielded all a.tmps) = false := by simp only [Region.wanted, hy]; rfl
    rw [hw']
    exact h1.run _ _ (ha.put (blt_lt hn) undef) hw⟩
theorem R.guard_un0 (hj : (all[j]?).bind (·.dst) = some dj) (hb : look σ dj = some undef) (h1 : R X all rest K σ L) :
    R X all ({ dst := none, op := op, type := type, pos := pos, after := after, guard := some (j, want) } :: rest) K σ L :=
  ⟨fun a w ha hw => by
    have hy := ha.unyielded hj hb
    unfold wpList
    have hw' : Region.wanted { dst := none, op := op, type := type, pos := pos, after := after, guard := some (j, want) } (yielded all a.tmps) = false := by simp only [Region.wanted, hy]; rfl
    rw [hw']
    exact h1.run _ _ ha hw⟩
theorem A.skipU (i : Nat) {d fuel : Nat} {listed : Array Bool} (hi : all[i]? = some ⟨some d, op, type, pos, after, some (j, want)⟩) (hn : Nat.blt d X.n = true) (hs : Region.noSelect all = true) (hf : Region.free .any all listed i = true) (hr : (Region.ready .any all listed).contains i = true)
    (hj : (all[j]?).bind (·.dst) = some dj) (hb : look σ dj = some undef)
    (h : A X all C fuel (listed.setIfInBounds i true) K ((d, undef) :: σ) L) : A X all C (fuel + 1) listed K σ L :=
  ⟨fun a w ha hw hC => wpAnyC_take (v := undef) hi hs hf hr (fun c a w => Cx.liftK_panic c _ _ w) (.inr ⟨by simp only [Region.wanted, ha.unyielded hj hb]; rfl, rfl⟩) hC (h.run _ _ (ha.put (blt_lt hn) undef) hw hC)⟩
end
end Go.Proofs.Ytligpachgcmkcaa
/- Lists of known blocks with parts that are not spelt out: where a block or a part lies in them, what is kept, loops and calls over them. -/
set_option linter.unusedSimpArgs false
set_option linter.unusedVariables false
set_option linter.unusedSectionVars false
namespace Go.Proofs.Ytligpachgcmkcaa
open Go.RowKit Go.Shelf

theorem At.right {A B : Lst} {b : Nat} {o : Obj} (h : At B b o) : At (A ++ B) b o := by
  induction A with
  | nil => exact h
  | cons x A ih => exact .tail ih
theorem At.left {A B : Lst} {b : Nat} {o : Obj} (h : At A b o) : At (A ++ B) b o := by
  induction h with
  | head => exact .head
  | tail _ ih => exact .tail ih
theorem Upd.right {A B B' : Lst} {b : Nat} {o o' : Obj} (h : Upd B b o o' B') : Upd (A ++ B) b o o' (A ++ B') := by
  induction A with
  | nil => exact h
  | cons x A ih => exact .tail ih
theorem Del.right {A B B' : Lst} {b : Nat} {o : Obj} (h : Del B b o B') : Del (A ++ B) b o (A ++ B') := by
  induction A with
  | nil => exact h
  | cons x A ih => exact .tail ih
theorem OwnAt.right {e sz n : Nat} {A L L1 : Lst} {v : Value} {xs : List Value} (h : OwnAt e sz L v n xs L1) : OwnAt e sz (A ++ L) v n xs (A ++ L1) := by
  cases h with
  | nil => exact .nil _
  | blk h1 h2 h3 => exact .blk h1.right h2 h3
theorem OwnAt.mid {e sz n : Nat} {ov : Ov} {xs : List Value} {B : Lst} (h : OvOk sz ov n xs) : OwnAt e sz (blkL e ov xs ++ B) (slV ov n) n xs B := by
  obtain ⟨h1, h2⟩ := h
  cases ov with
  | none =>
    subst h2
    have : xs = [] := by cases xs; rfl; simp at h1
    subst this
    exact .nil B
  | some q => obtain ⟨b, j, junk⟩ := q; exact .blk .head h1 h2

theorem Ok1.lenMm {X : Cx} {σ : Env} {L : Lst} {t kt et : TypeId} {r : TRow} {κ α : Type} {kv : κ → Value} {vv : α → Value} {ms : Ms κ α} {clk b : Nat} {x : Operand} {ty : TypeId} {pos : String} {af : Array Edge} {d : Option Nat} {g : Option (Nat × Bool)}
    (hkt : X.tb.row t = some r) (hk : r.k = .map kt et) (hx : ev σ x = some (.map (some b))) (hat : At L b (mobj kv vv ms clk)) : Ok1 X ⟨d, .call { callee := .builtin .len, args := #[x], argTypes := #[t] }, ty, pos, af, g⟩ σ L (.int .i64 ms.length) := by
  classical exact Ok1.lenM hkt hk hx hat
/-- The part seg lies in L; the rest is L1. -/
inductive Ext : Lst → Lst → Lst → Prop where
  | none (L : Lst) : Ext L [] L
  | all (L : Lst) : Ext L L []
  | here (A B : Lst) : Ext (A ++ B) A B
  | one (x : Nat × Obj) (L : Lst) : Ext (x :: L) [x] L
  | cons (x : Nat × Obj) {L s L1 : Lst} : Ext L s L1 → Ext (x :: L) s (x :: L1)
  | app (A : Lst) {L s L1 : Lst} : Ext L s L1 → Ext (A ++ L) s (A ++ L1)
  | two (x : Nat × Obj) {L L1 s L2 : Lst} : Ext L [x] L1 → Ext L1 s L2 → Ext L (x :: s) L2
theorem Ext.perm {L s L1 : Lst} (h : Ext L s L1) : (s ++ L1).Perm L := by
  induction h with
  | none L => exact .refl _
  | all L => simp
  | here A B => exact .refl _
  | one x L => exact .refl _
  | cons x _ ih => exact List.perm_middle.trans (ih.cons x)
  | @app A L s L1 _ ih =>
    have h1 : (s ++ (A ++ L1)).Perm (A ++ (s ++ L1)) := by
      rw [← List.append_assoc, ← List.append_assoc]
      exact List.perm_append_comm.append_right L1
    exact h1.trans (ih.append_left A)
  | two x _ _ ih1 ih2 => exact (ih2.cons x).trans ih1
/-- Of L, L' is kept. -/
inductive Keep : Lst → Lst → Prop where
  | nil (L : Lst) : Keep L []
  | last {L s L1 : Lst} : Ext L s L1 → Keep L s
  | cons {x : Nat × Obj} {L L1 R : Lst} : Ext L [x] L1 → Keep L1 R → Keep L (x :: R)
  | app {L s L1 R : Lst} : Ext L s L1 → Keep L1 R → Keep L (s ++ R)
theorem Keep.perm {L L' : Lst} (h : Keep L L') : ∃ r, (L' ++ r).Perm L := by
  induction h with
  | nil L => exact ⟨L, .refl _⟩
  | last h => exact ⟨_, h.perm⟩
  | cons h _ ih => obtain ⟨r, hr⟩ := ih; exact ⟨r, (hr.cons _).trans h.perm⟩
  | app h _ ih => obtain ⟨r, hr⟩ := ih; exact ⟨r, by rw [List.append_assoc]; exact (hr.append_left _).trans h.perm⟩
theorem Hp.keep {w0 w : World} {S : List Nat} {L L' : Lst} (h : Hp w0 S L w) (hk : Keep L L') : Hp w0 S L' w := by
  obtain ⟨r, hr⟩ := hk.perm
  exact (h.perm hr).sub (List.sublist_append_left _ _)

section
variable {X : Cx} {σ : Env} {L Li Lr : Lst} {Q : Post} {c x y : Code}
theorem T.weakK {σ' : Env} {L' : Lst} (h : T X c Q σ' L') (hk : Keep L L') (hs : Sub σ' σ) : T X c Q σ L := ⟨fun a w ha hw => h.run a w (ha.sub hs) (hw.keep hk)⟩
theorem T.loopK {α : Type} (I : α → Prop) (σi : α → Env) (Li : α → Lst) (μ : α → Nat) (i0 : α) (h0 : I i0) (hs : Sub (σi i0) σ) (hL : Keep L (Li i0))
    (hr : ∀ i, I i → T X c (thenQ (fun σ L => ∃ j, I j ∧ μ j < μ i ∧ Sub (σi j) σ ∧ Keep L (Li j)) Q) (σi i) (Li i)) : T X (.loop c) Q σ L := by
  refine ⟨fun a w ha hw => ?_⟩
  have key : ∀ m i, I i → μ i < m → ∀ a w, Mod X.n a (σi i) → Hp X.w0 X.S (Li i) w → Code.rounds X.P c (X.lift Q) m a w := by
    intro m
    induction m with
    | zero => intro i _ h; omega
    | succ m ih =>
      intro i hi hm a w ha hw
      rw [rounds_succ]
      refine wp_mono ((hr i hi).run a w ha hw) fun e a w ⟨σ, L, h1, h2, h3⟩ => ?_
      cases e with
      | normal =>
        obtain ⟨j, h4, h5, h6, h7⟩ := h3
        exact ih j h4 (by omega) a w (h1.sub h6) (h2.keep h7)
      | _ => exact ⟨σ, L, h1, h2, h3⟩
  exact wp_loop_rounds (μ i0 + 1) (key _ i0 h0 (by omega) a w (ha.sub hs) (hw.keep hL))
theorem T.meetK {α : Type} (I : α → Prop) (σi : α → Env) (Li : α → Lst)
    (h : T X x (thenQ (fun σ L => ∃ j, I j ∧ Sub (σi j) σ ∧ Keep L (Li j)) Q) σ L) (hk : ∀ i, I i → T X y Q (σi i) (Li i)) : T X (.seq x y) Q σ L :=
  T.seq (h.mono fun e σ L hq => by
    cases e with
    | normal =>
      obtain ⟨j, h1, h2, h3⟩ := hq
      exact T.weakK (hk j h1) h3 h2
    | _ => exact hq)
end
section
variable {X : Cx} {σ : Env} {L Li Lr : Lst} {dd : Nat} {ty : TypeId} {pos : String} {af : Array Edge} {f : FuncId} {ats : Array TypeId}
variable {all : Array Oper} {rest : List Oper} {K : Env → Lst → Prop} {xs : List Operand} {vs : List Value}
theorem R.callE {R1 : Value → Lst → Prop} (he : X.tb.fns.contains f = true) (hx : evs σ xs = some vs) (hn : Nat.blt dd X.n = true) (hp : Ext L Li Lr) (hc : ∀ w, Hp X.w0 X.S L w → CallM X.P f vs Li w R1) (h : ∀ v Lo, R1 v Lo → R X all rest K ((dd, v) :: σ) (Lo ++ Lr)) :
    R X all (⟨some dd, .call { callee := .value (.func f), args := xs.toArray, argTypes := ats }, ty, pos, af, none⟩ :: rest) K σ L :=
  R.call (α := Value × Lst) (v := fun v => v.1) (L' := fun v => v.2 ++ Lr) (I := fun v => R1 v.1 v.2) he hx hn (fun w hw => by
    have hw2 := hw.perm hp.perm
    have hin : Hp w (blks Li) Li w := ⟨.refl _ _, fun b o hm => hw2.get b o (List.mem_append_left _ hm), (List.nodup_append.1 (by have := hw2.nod; rwa [List.map_append] at this)).1, fun b o hm => .inr (List.mem_map.2 ⟨(b, o), hm, rfl⟩)⟩
    exact ((hc w hw).run hin).mono fun e w' ⟨v, Lo, h1, h2, h3⟩ => ⟨(v, Lo), h1, hw2.callM h3, h2⟩) fun v hv => h v.1 v.2 hv
theorem Ext.mem {L s L1 : Lst} (h : Ext L s L1) : ∀ x ∈ s, x ∈ L := fun x hx => h.perm.subset (List.mem_append_left _ hx)
/-- What is read by one who is called lies in none of the blocks that he may write. -/
theorem RdSl.off {w0 w : World} {S : List Nat} {L Li Lr : Lst} (hw : Hp w0 S L w) (he : Ext L Li Lr) {b : Nat} {o : Obj} (hm : (b, o) ∈ Lr) : b ∉ blks Li := by
  have h2 := (hw.perm he.perm).nod
  rw [List.map_append, List.nodup_append] at h2
  intro hb
  exact h2.2.2 b hb b (List.mem_map.2 ⟨(b, o), hm, rfl⟩) rfl
theorem enterK {P : Program} (tb : Tb P) {f : FuncId} {fn : Func} {c : Code} {vs : List Value} {n : Nat} {R1 : Value → Lst → Prop} {w : World} {L : Lst}
    (hf : P.funcs[f]? = some fn) (hb : fn.body = some c) (hn : fn.ntmps = n) (hvn : Nat.ble vs.length n = true)
    (h : T ⟨P, tb, n, w, blks L⟩ c (retQ ⟨P, tb, n, w, blks L⟩ fn.results.toList fun v Lo => ∃ L', Keep Lo L' ∧ R1 v L') (number 0 vs) L) : CallM P f vs L w R1 :=
  ⟨fun hw => (enter hf hb hn (Nat.le_of_ble_eq_true hvn) hw h).mono fun e w' ⟨v, Lo, h1, ⟨L', h2, h3⟩, h4⟩ => ⟨v, L', h1, h3, h4.keep h2⟩⟩
end
end Go.Proofs.Ytligpachgcmkcaa
