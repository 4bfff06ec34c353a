/- Maps: the operations, over a list of entries (key, value, birth). -/
import Derived.Test.YtligpachgcmkcaaEng8
set_option linter.unusedSimpArgs false
set_option linter.unusedVariables false
set_option linter.unusedSectionVars false
namespace Go.Proofs.Ytligpachgcmkcaa
open Go.RowKit Go.Shelf

section
variable {κ α : Type} [DecidableEq κ]
abbrev Ms (κ α : Type) := List (κ × α × Nat)
def mget (k : κ) : Ms κ α → Option α
  | [] => none
  | x :: r => if x.1 = k then some x.2.1 else mget k r
def mset (k : κ) (a : α) : Ms κ α → Ms κ α
  | [] => []
  | x :: r => if x.1 = k then (x.1, a, x.2.2) :: r else x :: mset k a r
def mdel (k : κ) : Ms κ α → Ms κ α
  | [] => []
  | x :: r => if x.1 = k then r else x :: mdel k r
def mobj (kv : κ → Value) (vv : α → Value) (ms : Ms κ α) (clk : Nat) : Obj := .map ⟨ms.map fun x => ⟨kv x.1, vv x.2.1, x.2.2⟩⟩ clk
def mfind (k : κ) : Ms κ α → Nat → Option (Nat × α)
  | [], _ => none
  | x :: r, i => if x.1 = k then some (i, x.2.1) else mfind k r (i + 1)
theorem mfind_mget (k : κ) : ∀ (ms : Ms κ α) (i : Nat), (mfind k ms i).map (·.2) = mget k ms
  | [], _ => rfl
  | x :: r, i => by
    by_cases h : x.1 = k
    · simp [mfind, mget, h]
    · simp [mfind, mget, h, mfind_mget k r (i + 1)]

theorem findKey_run {P : Program} {t : Nat} {kv : κ → Value} (hk : KeyT P t kv) (vv : α → Value) (k : κ) (ms : Ms κ α) (w : World) :
    (Instr.findKey t (kv k) (ms.map fun x => (⟨kv x.1, vv x.2.1, x.2.2⟩ : MapEntry))).run P w = .ok ((mfind k ms 0).map fun p => (p.1, vv p.2)) w := by
  obtain ⟨dsc, h1, h2⟩ := hk.now
  have hask : ∀ (ms : Ms κ α) (i : Nat), (Instr.findAsking t (kv k) (ms.map fun x => (⟨kv x.1, vv x.2.1, x.2.2⟩ : MapEntry)) i).run P w = .ok ((mfind k ms i).map fun p => (p.1, vv p.2)) w := by
    intro ms
    induction ms with
    | nil => intro i; simp [Instr.findAsking, mfind]
    | cons x r ih =>
      intro i
      obtain ⟨b, r1, r2⟩ := hk.eq w k x.1
      simp only [List.map_cons, Instr.findAsking, Sem.run_bind, r1, Result.andThen_ok]
      by_cases h : x.1 = k
      · have : b = true := r2.2 h.symm
        subst this
        simp [mfind, h]
      · have : b = false := by cases b with | false => rfl | true => exact (h (r2.1 rfl).symm).elim
        subst this
        simp only [Bool.false_eq_true, if_false, mfind, if_neg h]
        exact ih (i + 1)
  have hnow : (∀ a b, ∃ r, Instr.sameNow dsc (kv a) (kv b) = some r ∧ (r = true ↔ a = b)) → ∀ (ms : Ms κ α) (i : Nat), Instr.findNow dsc (kv k) (ms.map fun x => (⟨kv x.1, vv x.2.1, x.2.2⟩ : MapEntry)) i = some ((mfind k ms i).map fun p => (p.1, vv p.2)) := by
    intro hs ms
    induction ms with
    | nil => intro i; rfl
    | cons x r ih =>
      intro i
      obtain ⟨b, r1, r2⟩ := hs k x.1
      simp only [List.map_cons, Instr.findNow, r1]
      by_cases h : x.1 = k
      · have : b = true := r2.2 h.symm
        subst this
        simp [mfind, h]
      · have : b = false := by cases b with | false => rfl | true => exact (h (r2.1 rfl).symm).elim
        subst this
        simp only [mfind, if_neg h]
        exact ih (i + 1)
  unfold Instr.findKey
  rw [Sem.run_bind, run_underlying h1]
  simp only [Result.andThen_ok]
  rcases h2 with h2 | h2
  · cases ms with
    | nil => simp [Instr.findNow, mfind]
    | cons x r =>
      have : Instr.findNow dsc (kv k) ((x :: r).map fun x => (⟨kv x.1, vv x.2.1, x.2.2⟩ : MapEntry)) 0 = none := by
        simp only [List.map_cons, Instr.findNow, h2]
      rw [this]
      exact hask (x :: r) 0
  · rw [hnow h2 ms 0]
    rfl

theorem mset_modify (kv : κ → Value) (vv : α → Value) (k : κ) (a : α) : ∀ (ms : Ms κ α) (i j : Nat) (o : α), mfind k ms j = some (i + j, o) →
    (ms.map fun x => (⟨kv x.1, vv x.2.1, x.2.2⟩ : MapEntry)).modify i (fun e => { e with key := kv k, val := vv a }) = (mset k a ms).map fun x => ⟨kv x.1, vv x.2.1, x.2.2⟩
  | [], i, j, o, h => by cases h
  | x :: r, i, j, o, h => by
    simp only [mfind] at h
    by_cases hx : x.1 = k
    · rw [if_pos hx] at h
      simp only [Option.some.injEq, Prod.mk.injEq] at h
      have : i = 0 := by omega
      subst this
      simp [mset, hx]
    · rw [if_neg hx] at h
      have hge : ∀ (ms : Ms κ α) (j : Nat) (p : Nat × α), mfind k ms j = some p → j ≤ p.1 := by
        intro ms
        induction ms with
        | nil => intro j p h; cases h
        | cons x r ih =>
          intro j p h
          simp only [mfind] at h
          by_cases hx : x.1 = k
          · rw [if_pos hx] at h; cases h; exact Nat.le_refl _
          · rw [if_neg hx] at h; have := ih _ _ h; omega
      have := hge _ _ _ h
      obtain ⟨i, rfl⟩ : ∃ i', i = i' + 1 := ⟨i - 1, by simp at this; omega⟩
      simp only [List.map_cons, List.modify_succ_cons, mset, if_neg hx, List.cons.injEq, true_and]
      exact mset_modify kv vv k a r i (j + 1) o (by rw [h]; congr 2; omega)
theorem mdel_erase (f : κ × α × Nat → MapEntry) (k : κ) : ∀ (ms : Ms κ α) (i j : Nat) (o : α), mfind k ms j = some (i + j, o) →
    (ms.map f).eraseIdx i = (mdel k ms).map f
  | [], i, j, o, h => by cases h
  | x :: r, i, j, o, h => by
    simp only [mfind] at h
    by_cases hx : x.1 = k
    · rw [if_pos hx] at h
      simp only [Option.some.injEq, Prod.mk.injEq] at h
      have : i = 0 := by omega
      subst this
      simp [mdel, hx]
    · rw [if_neg hx] at h
      have hge : ∀ (ms : Ms κ α) (j : Nat) (p : Nat × α), mfind k ms j = some p → j ≤ p.1 := by
        intro ms
        induction ms with
        | nil => intro j p h; cases h
        | cons x r ih =>
          intro j p h
          simp only [mfind] at h
          by_cases hx : x.1 = k
          · rw [if_pos hx] at h; cases h; exact Nat.le_refl _
          · rw [if_neg hx] at h; have := ih _ _ h; omega
      have := hge _ _ _ h
      obtain ⟨i, rfl⟩ : ∃ i', i = i' + 1 := ⟨i - 1, by simp at this; omega⟩
      simp only [List.map_cons, List.eraseIdx_cons_succ, mdel, if_neg hx, List.cons.injEq, true_and]
      exact mdel_erase f k r i (j + 1) o (by rw [h]; congr 2; omega)
theorem mdel_none (k : κ) : ∀ (ms : Ms κ α), mget k ms = none → mdel k ms = ms
  | [], _ => rfl
  | x :: r, h => by
    simp only [mget] at h
    by_cases hx : x.1 = k
    · rw [if_pos hx] at h; cases h
    · rw [if_neg hx] at h; simp [mdel, hx, mdel_none k r h]
end

section
variable {X : Cx} {σ : Env} {L L' : Lst} {dd b : Nat} {ty ty2 : TypeId} {pos : String} {af : Array Edge} {d : Option Nat} {g : Option (Nat × Bool)} {x y z : Operand} {t kt et : TypeId} {r : TRow}
variable {all : Array Oper} {rest : List Oper} {K : Env → Lst → Prop}
variable {κ α : Type} [DecidableEq κ] {kv : κ → Value} {vv : α → Value} {ms : Ms κ α} {clk : Nat} {vk va : Value}

theorem TB.map {P : Program} (tb : Tb P) (ht : tb.row t = some r) (hk : r.k = .map kt et) : P.underlying t = some (.map kt et) := by
  have := (tb.get ht).is
  rw [hk] at this
  exact this

/-- A look-up: the general form ('ok' too). -/
theorem lookup_run {P : Program} {w : World} (hkt : KeyT P kt kv) (hu : P.underlying t = some (.map kt et)) {zr : Value} (hz : ∀ w, (zeroValue et).run P w = .ok zr w) (hb : w.heap[b]? = some (mobj kv vv ms clk)) (k : κ) (ok : Bool) :
    (Instr.lookup t (.map (some b)) (kv k) ok).run P w = .ok (match mget k ms with
      | some a => if ok then .tuple #[vv a, .bool true] else vv a
      | none => if ok then .tuple #[zr, .bool false] else zr) w := by
  have hget : (getObj b).run P w = .ok (mobj kv vv ms clk) w := by
    simp only [getObj, Sem.run, hb]
    rfl
  have hf := findKey_run hkt vv k ms w
  have hm := mfind_mget k ms 0
  unfold Instr.lookup
  simp only [Sem.run_bind, run_underlying hu, Result.andThen_ok, hget, mobj, Sem.run_pure, hkt.chk, hf]
  cases h : mfind k ms 0 with
  | none =>
    rw [h] at hm
    simp only [Option.map_none] at hm
    rw [← hm]
    simp [hz]
  | some p =>
    rw [h] at hm
    simp only [Option.map_some] at hm
    rw [← hm]
    simp
theorem lookup_nil0 {P : Program} {w : World} (hkt : KeyT P kt kv) (hu : P.underlying t = some (.map kt et)) {zr : Value} (hz : ∀ w, (zeroValue et).run P w = .ok zr w) (k : κ) (ok : Bool) :
    (Instr.lookup t (.map none) (kv k) ok).run P w = .ok (if ok then .tuple #[zr, .bool false] else zr) w := by
  have hf := findKey_run hkt (vv := fun a : Unit => .bool true) k [] w
  unfold Instr.lookup
  simp only [List.map_nil, mfind, Option.map_none] at hf
  simp only [Sem.run_bind, run_underlying hu, Result.andThen_ok, Sem.run_pure, hkt.chk, hf, hz]

theorem Ok1.lookup_some {ok : Bool} {a : α} {u : Value} {re : TRow} (k : κ) (hkt : KeyT X.P kt kv) (ht : X.tb.row t = some r) (hk : r.k = .map kt et) (he : X.tb.row et = some re) (hx : ev σ x = some (.map (some b))) (hy : ev σ y = some vk) (hv : vk = kv k) (hat : At L b (mobj kv vv ms clk)) (hm : mget k ms = some a) (hu : u = if ok then .tuple ⟨[vv a, .bool true]⟩ else vv a) :
    Ok1 X ⟨d, .lookup t x y ok, ty, pos, af, g⟩ σ L u := .mk fun a' w ha hw => by
  have := lookup_run hkt (TB.map X.tb ht hk) (X.tb.get he).zero (hw.get _ _ hat.mem) k ok
  rw [hm] at this
  simp [execOp, ha.ev hx, ha.ev hy, hv, this, hu]
theorem Ok1.lookup_none {ok : Bool} {u : Value} {re : TRow} (k : κ) (hkt : KeyT X.P kt kv) (ht : X.tb.row t = some r) (hk : r.k = .map kt et) (he : X.tb.row et = some re) (hx : ev σ x = some (.map (some b))) (hy : ev σ y = some vk) (hv : vk = kv k) (hat : At L b (mobj kv vv ms clk)) (hm : mget k ms = none) (hu : u = if ok then .tuple ⟨[re.zero, .bool false]⟩ else re.zero) :
    Ok1 X ⟨d, .lookup t x y ok, ty, pos, af, g⟩ σ L u := .mk fun a' w ha hw => by
  have := lookup_run hkt (TB.map X.tb ht hk) (X.tb.get he).zero (hw.get _ _ hat.mem) k ok
  rw [hm] at this
  simp [execOp, ha.ev hx, ha.ev hy, hv, this, hu]

theorem Ok1.lookup_nil {ok : Bool} {u : Value} {re : TRow} (k : κ) (hkt : KeyT X.P kt kv) (ht : X.tb.row t = some r) (hk : r.k = .map kt et) (he : X.tb.row et = some re) (hx : ev σ x = some (.map none)) (hy : ev σ y = some vk) (hv : vk = kv k) (hu : u = if ok then .tuple ⟨[re.zero, .bool false]⟩ else re.zero) :
    Ok1 X ⟨d, .lookup t x y ok, ty, pos, af, g⟩ σ L u := .mk fun a' w ha hw => by
  have h9 := lookup_nil0 (w := w) hkt (TB.map X.tb ht hk) (X.tb.get he).zero k ok
  simp [execOp, ha.ev hx, ha.ev hy, hv, h9, hu]

theorem setObj_run {P : Program} {w : World} {o o' : Obj} (hb : w.heap[b]? = some o) (hc : ∀ c t f, o ≠ .cells c t f) : (setObj b o').run P w = .ok () { w with heap := w.heap.setIfInBounds b o' } := by
  simp only [setObj, Sem.run, hb]
theorem setObj_at {w : World} {o o' : Obj} (hb : w.heap[b]? = some o) : ({ w with heap := w.heap.setIfInBounds b o' } : World).heap[b]? = some o' := by
  have h9 := (Array.getElem?_eq_some_iff.1 hb).1
  simp [h9]

theorem update_run {P : Program} {w : World} (hkt : KeyT P kt kv) (hu : P.underlying t = some (.map kt et)) (hb : w.heap[b]? = some (mobj kv vv ms clk)) (k : κ) (a : α) :
    ∃ w', (Instr.mapUpdate t (.map (some b)) (kv k) (vv a)).run P w = .ok () w' ∧ Chg [b] w w' ∧
      w'.heap[b]? = some (match mget k ms with | some _ => mobj kv vv (mset k a ms) clk | none => mobj kv vv (ms ++ [(k, a, clk)]) (clk + 1)) := by
  have hget : (getObj b).run P w = .ok (mobj kv vv ms clk) w := by
    simp only [getObj, Sem.run, hb]
    rfl
  have hf := findKey_run hkt vv k ms w
  have hm := mfind_mget k ms 0
  have hne : ∀ c t f, mobj kv vv ms clk ≠ .cells c t f := fun _ _ _ e => by cases e
  unfold Instr.mapUpdate
  simp only [Sem.run_bind, run_underlying hu, Result.andThen_ok, hget, mobj, hkt.chk, hf]
  cases h : mfind k ms 0 with
  | none =>
    rw [h] at hm
    simp only [Option.map_none] at hm
    rw [← hm]
    have hs := fun o' => setObj_run (P := P) (o' := o') hb hne
    refine ⟨_, by simp only [Option.map_none, hs]; rfl, Chg.setObj w _ (by simp), ?_⟩
    rw [setObj_at hb]
    simp
  | some p =>
    rw [h] at hm
    simp only [Option.map_some] at hm
    rw [← hm]
    have hs := fun o' => setObj_run (P := P) (o' := o') hb hne
    obtain ⟨i, o⟩ := p
    have hkey : ((((ms.map fun x => (⟨kv x.1, vv x.2.1, x.2.2⟩ : MapEntry))[i]?).map (·.key)).getD (kv k)) = kv k := by
      have : ∀ (ms : Ms κ α) (i j : Nat) (o : α), mfind k ms j = some (i + j, o) → (((ms.map fun x => (⟨kv x.1, vv x.2.1, x.2.2⟩ : MapEntry))[i]?).map (·.key)) = some (kv k) := by
        intro ms
        induction ms with
        | nil => intro i j o h; cases h
        | cons x r ih =>
          intro i j o h
          simp only [mfind] at h
          by_cases hx : x.1 = k
          · rw [if_pos hx] at h
            simp only [Option.some.injEq, Prod.mk.injEq] at h
            have : i = 0 := by omega
            subst this
            simp [hx]
          · rw [if_neg hx] at h
            have hge : ∀ (ms : Ms κ α) (j : Nat) (p : Nat × α), mfind k ms j = some p → j ≤ p.1 := by
              intro ms
              induction ms with
              | nil => intro j p h; cases h
              | cons x r ih =>
                intro j p h
                simp only [mfind] at h
                by_cases hx : x.1 = k
                · rw [if_pos hx] at h; cases h; exact Nat.le_refl _
                · rw [if_neg hx] at h; have := ih _ _ h; omega
            have := hge _ _ _ h
            obtain ⟨i, rfl⟩ : ∃ i', i = i' + 1 := ⟨i - 1, by simp at this; omega⟩
            simpa using ih i (j + 1) o (by rw [h]; congr 2; omega)
      rw [this ms i 0 o (by simpa using h)]
      rfl
    have hstay : (Instr.keyThatStays ((((ms.map fun x => (⟨kv x.1, vv x.2.1, x.2.2⟩ : MapEntry))[i]?).map (·.key)).getD (kv k)) (kv k)).run P w = .ok (kv k) w := by
      rw [hkey]
      simp [Instr.keyThatStays, hkt.bits]
    have hmod := mset_modify kv vv k a ms i 0 o (by simpa using h)
    refine ⟨_, ?_, Chg.setObj w _ (by simp), setObj_at hb⟩
    · simp only [Option.map_some, Sem.run_bind]
      have h2 : (Array.mk (ms.map fun x => (⟨kv x.1, vv x.2.1, x.2.2⟩ : MapEntry)))[i]? = (ms.map fun x => (⟨kv x.1, vv x.2.1, x.2.2⟩ : MapEntry))[i]? := by simp
      rw [h2, hstay]
      simp only [Result.andThen_ok, hs]
      congr 3
      rw [← hmod]
      simp [mobj]

theorem R.mapSet_old {o a : α} (k : κ) (hkt : KeyT X.P kt kv) (ht : X.tb.row t = some r) (hk : r.k = .map kt et) (hx : ev σ x = some (.map (some b))) (hy : ev σ y = some vk) (hv : vk = kv k) (hz : ev σ z = some va) (hva : va = vv a)
    (hu : Upd L b (mobj kv vv ms clk) (mobj kv vv (mset k a ms) clk) L') (hm : mget k ms = some o) (h : R X all rest K σ L') : R X all (⟨none, .mapUpdate t x y z, ty, pos, af, none⟩ :: rest) K σ L :=
  R.skip rfl rfl fun a' w ha hw => by
    obtain ⟨w', h1, h2, h3⟩ := update_run hkt (TB.map X.tb ht hk) (hw.get _ _ hu.mem) k a
    rw [hm] at h3
    exact ⟨w', L', by simp [execOp, ha.ev hx, ha.ev hy, ha.ev hz, hv, hva, h1], hw.upd hu h2 h3, h⟩
theorem R.mapSet_new {a : α} (k : κ) (hkt : KeyT X.P kt kv) (ht : X.tb.row t = some r) (hk : r.k = .map kt et) (hx : ev σ x = some (.map (some b))) (hy : ev σ y = some vk) (hv : vk = kv k) (hz : ev σ z = some va) (hva : va = vv a)
    (hu : Upd L b (mobj kv vv ms clk) (mobj kv vv (ms ++ [(k, a, clk)]) (clk + 1)) L') (hm : mget k ms = none) (h : R X all rest K σ L') : R X all (⟨none, .mapUpdate t x y z, ty, pos, af, none⟩ :: rest) K σ L :=
  R.skip rfl rfl fun a' w ha hw => by
    obtain ⟨w', h1, h2, h3⟩ := update_run hkt (TB.map X.tb ht hk) (hw.get _ _ hu.mem) k a
    rw [hm] at h3
    exact ⟨w', L', by simp [execOp, ha.ev hx, ha.ev hy, ha.ev hz, hv, hva, h1], hw.upd hu h2 h3, h⟩

theorem R.makeMap (kv : κ → Value) (vv : α → Value) (hn : Nat.blt dd X.n = true) (h : ∀ b, R X all rest K ((dd, .map (some b)) :: σ) ((b, mobj kv vv ([] : Ms κ α) 0) :: L)) : R X all (⟨some dd, .makeMap t none, ty, pos, af, none⟩ :: rest) K σ L :=
  R.value rfl rfl hn fun a w ha hw => by
    refine ⟨.map (some w.heap.size), w.alloc (mobj kv vv ([] : Ms κ α) 0), _, ?_, hw.alloc _, h _⟩
    simp [execOp, Instr.makeMap, mobj]

theorem Ok1.lenM (hkt : X.tb.row t = some r) (hk : r.k = .map kt et) (hx : ev σ x = some (.map (some b))) (hat : At L b (mobj kv vv ms clk)) : Ok1 X ⟨d, .call { callee := .builtin .len, args := #[x], argTypes := #[t] }, ty, pos, af, g⟩ σ L (.int .i64 ms.length) := .mk fun a w ha hw => by
  have hb := hw.get _ _ hat.mem
  have hget : (getObj b).run X.P w = .ok (mobj kv vv ms clk) w := by
    simp only [getObj, Sem.run, hb]; rfl
  simp [execOp, resolve, ha.ev hx, invoke, builtin, Builtin.len_, run_underlying (TB.map X.tb hkt hk), goInt, hget, mobj]
theorem Ok1.lenM_nil (hkt : X.tb.row t = some r) (hk : r.k = .map kt et) (hx : ev σ x = some (.map none)) : Ok1 X ⟨d, .call { callee := .builtin .len, args := #[x], argTypes := #[t] }, ty, pos, af, g⟩ σ L (.int .i64 0) := .mk fun a w ha hw => by
  simp [execOp, resolve, ha.ev hx, invoke, builtin, Builtin.len_, run_underlying (TB.map X.tb hkt hk), goInt]
end

/-! ### delete, ranging -/
section
variable {X : Cx} {σ : Env} {L L' : Lst} {dd b : Nat} {ty ty2 : TypeId} {pos : String} {af : Array Edge} {d : Option Nat} {g : Option (Nat × Bool)} {x y z : Operand} {t t2 kt et : TypeId} {r : TRow}
variable {all : Array Oper} {rest : List Oper} {K : Env → Lst → Prop}
variable {κ α : Type} [DecidableEq κ] {kv : κ → Value} {vv : α → Value} {ms : Ms κ α} {clk : Nat} {vk va : Value}

theorem delete_run {P : Program} {w : World} (hkt : KeyT P kt kv) (hu : P.underlying t = some (.map kt et)) (hb : w.heap[b]? = some (mobj kv vv ms clk)) (k : κ) (ats : Array TypeId) (h0 : ats[0]? = some t) (ty : TypeId) :
    ∃ w', (Builtin.delete_ ats ty #[.map (some b), kv k]).run P w = .ok (.tuple #[]) w' ∧ Chg [b] w w' ∧ w'.heap[b]? = some (mobj kv vv (mdel k ms) clk) := by
  have hget : (getObj b).run P w = .ok (mobj kv vv ms clk) w := by
    simp only [getObj, Sem.run, hb]
    rfl
  have hf := findKey_run hkt vv k ms w
  have hm := mfind_mget k ms 0
  have hne : ∀ c t f, mobj kv vv ms clk ≠ .cells c t f := fun _ _ _ e => by cases e
  have hs := fun o' => setObj_run (P := P) (o' := o') hb hne
  unfold Builtin.delete_
  simp only [h0, Array.getElem?_toList, List.getElem?_toArray, List.getElem?_cons_zero, List.getElem?_cons_succ, Sem.run_bind, run_underlying hu, Result.andThen_ok, hget, mobj, hkt.chk, hf]
  cases h : mfind k ms 0 with
  | none =>
    rw [h] at hm
    simp only [Option.map_none] at hm
    refine ⟨_, by simp only [Option.map_none, Sem.run_bind, hs, Result.andThen_ok, Sem.run_pure]; rfl, Chg.setObj w _ (by simp), ?_⟩
    rw [mdel_none k ms hm.symm, setObj_at hb]
  | some p =>
    obtain ⟨i, o⟩ := p
    refine ⟨_, by simp only [Option.map_some, Sem.run_bind, hs, Result.andThen_ok, Sem.run_pure]; rfl, Chg.setObj w _ (by simp), ?_⟩
    rw [setObj_at hb]
    have := mdel_erase (fun x => (⟨kv x.1, vv x.2.1, x.2.2⟩ : MapEntry)) k ms i 0 o (by simpa using h)
    simp only [mobj, ← this]
    congr 2
    simp

theorem R.mapDel {vd : Option Nat} (k : κ) (hkt : KeyT X.P kt kv) (ht : X.tb.row t = some r) (hk : r.k = .map kt et) (hx : ev σ x = some (.map (some b))) (hy : ev σ y = some vk) (hv : vk = kv k)
    (hu : Upd L b (mobj kv vv ms clk) (mobj kv vv (mdel k ms) clk) L') (h : R X all rest K σ L') : R X all (⟨none, .call { callee := .builtin .delete, args := #[x, y], argTypes := #[t, t2] }, ty, pos, af, none⟩ :: rest) K σ L :=
  R.value0 rfl rfl fun a' w ha hw => by
    obtain ⟨w', h1, h2, h3⟩ := delete_run hkt (TB.map X.tb ht hk) (hw.get _ _ hu.mem) k #[t, t2] rfl ty
    refine ⟨.tuple #[], w', L', ?_, hw.upd hu h2 h3, h⟩
    simp [execOp, resolve, ha.ev hx, ha.ev hy, hv, invoke, builtin, h1]
theorem R.mapDelD (k : κ) (hn : Nat.blt dd X.n = true) (hkt : KeyT X.P kt kv) (ht : X.tb.row t = some r) (hk : r.k = .map kt et) (hx : ev σ x = some (.map (some b))) (hy : ev σ y = some vk) (hv : vk = kv k)
    (hu : Upd L b (mobj kv vv ms clk) (mobj kv vv (mdel k ms) clk) L') (h : R X all rest K ((dd, .tuple #[]) :: σ) L') : R X all (⟨some dd, .call { callee := .builtin .delete, args := #[x, y], argTypes := #[t, t2] }, ty, pos, af, none⟩ :: rest) K σ L :=
  R.value rfl rfl hn fun a' w ha hw => by
    obtain ⟨w', h1, h2, h3⟩ := delete_run hkt (TB.map X.tb ht hk) (hw.get _ _ hu.mem) k #[t, t2] rfl ty
    refine ⟨_, w', L', ?_, hw.upd hu h2 h3, h⟩
    simp [execOp, resolve, ha.ev hx, ha.ev hy, hv, invoke, builtin, h1]

/-- A ranging over a map begins. -/
theorem R.range {kt et : TypeId} (hn : Nat.blt dd X.n = true) (ht : X.tb.row t = some r) (hk : r.k = .map kt et) (hx : ev σ x = some (.map (some b))) (hat : At L b (mobj kv vv ms clk))
    (h : ∀ c, R X all rest K ((dd, .pointer (some ⟨c, 0, none⟩)) :: σ) ((c, .mapIter (some b) clk ⟨[]⟩ clk) :: L)) : R X all (⟨some dd, .range t x, ty, pos, af, none⟩ :: rest) K σ L :=
  R.value rfl rfl hn fun a w ha hw => by
    refine ⟨.pointer (some ⟨w.heap.size, 0, none⟩), w.alloc (.mapIter (some b) clk ⟨[]⟩ clk), _, ?_, hw.alloc _, h _⟩
    have hb := hw.get _ _ hat.mem
    have hget : (getObj b).run X.P w = .ok (mobj kv vv ms clk) w := by
      simp only [getObj, Sem.run, hb]; rfl
    simp [execOp, ha.ev hx, Instr.range, run_underlying (TB.map X.tb ht hk), hget, mobj]

/-- One step of a ranging over a map that is not written meanwhile. -/
theorem R.next {c : Nat} {seen : List Nat} (hn : Nat.blt dd X.n = true) (hx : ev σ x = some (.pointer (some ⟨c, 0, none⟩))) (hat : At L b (mobj kv vv ms clk)) (hit : At L c (.mapIter (some b) clk ⟨seen⟩ clk))
    (hclk : ∀ e ∈ ms, e.2.2 < clk)
    (hover : (∀ e ∈ ms, e.2.2 ∈ seen) → R X all rest K ((dd, .tuple ⟨[.bool false]⟩) :: σ) L)
    (hstep : ∀ e ∈ ms, e.2.2 ∉ seen → ∃ L', Upd L c (.mapIter (some b) clk ⟨seen⟩ clk) (.mapIter (some b) clk ⟨seen ++ [e.2.2]⟩ clk) L' ∧ R X all rest K ((dd, .tuple ⟨[.bool true, kv e.1, vv e.2.1]⟩) :: σ) L') :
    R X all (⟨some dd, .next x false, ty, pos, af, none⟩ :: rest) K σ L :=
  R.value rfl rfl hn fun a w ha hw => by
    have hb := hw.get _ _ hat.mem
    have hc := hw.get _ _ hit.mem
    have hget : ∀ w' : World, w'.heap = w.heap → (getObj b).run X.P w' = .ok (mobj kv vv ms clk) w' := by
      intro w' e
      simp only [getObj, Sem.run, e, hb]; rfl
    have hgetc : (getObj c).run X.P w = .ok (.mapIter (some b) clk ⟨seen⟩ clk) w := by
      simp only [getObj, Sem.run, hc]
    have hne : ∀ c' t f, (Obj.mapIter (some b) clk ⟨seen⟩ clk) ≠ .cells c' t f := fun _ _ _ e => by cases e
    let f : κ × α × Nat → MapEntry := fun x => ⟨kv x.1, vv x.2.1, x.2.2⟩
    have hguard : (!(Array.mk seen).isEmpty && !(Array.mk (ms.map f)).isEmpty && (Array.mk (ms.map f)).all (fun e => decide (e.born ≥ clk))) = false := by
      cases ms with
      | nil => simp
      | cons e r =>
        have := hclk e List.mem_cons_self
        simp [f]
        intro _ h
        omega
    have hold : (Array.mk (ms.map f)).filter (fun e => !(Array.mk seen).contains e.born) = ⟨(ms.filter fun e => !seen.contains e.2.2).map f⟩ := by
      apply Array.toList_inj.1
      simp [List.filter_map, f]
      rfl
    have hlt : ∀ e ∈ (ms.filter fun e => !seen.contains e.2.2).map f, e.born < clk := by
      intro e he
      obtain ⟨x, hx, rfl⟩ := List.mem_map.1 he
      exact hclk x (List.mem_filter.1 hx).1
    have hf1 : (Array.mk ((ms.filter fun e => !seen.contains e.2.2).map f)).filter (fun e => decide (e.born < clk)) = ⟨(ms.filter fun e => !seen.contains e.2.2).map f⟩ := by
      apply Array.toList_inj.1
      simp only [Array.toList_filter]
      rw [List.filter_eq_self.2]
      intro e he
      simpa using hlt e he
    have hf2 : (Array.mk ((ms.filter fun e => !seen.contains e.2.2).map f)).filter (fun e => decide (e.born ≥ clk)) = #[] := by
      apply Array.toList_inj.1
      simp only [Array.toList_filter]
      rw [List.filter_eq_nil_iff.2]
      intro e he
      have := hlt e he
      simp; omega
    generalize hrem : (ms.filter fun e => !seen.contains e.2.2) = rem at *
    have hmem : ∀ e ∈ rem, e ∈ ms ∧ e.2.2 ∉ seen := by
      intro e he
      rw [← hrem] at he
      simpa using List.mem_filter.1 he
    have hrun : ∀ (q : Sem Value), (execOp a.eval ⟨some dd, .next x false, ty, pos, af, none⟩).run X.P w = ((Instr.next (.pointer (some ⟨c, 0, none⟩)) false ty).run X.P w).andThen fun v w' => .ok (.value v) w' := by
      intro q
      simp [execOp, ha.ev hx]
    rw [hrun (Pure.pure undef)]
    unfold Instr.next
    simp only [Sem.run_bind, hgetc, Result.andThen_ok, hget w rfl, mobj]
    rw [show (ms.map fun x => (⟨kv x.1, vv x.2.1, x.2.2⟩ : MapEntry)) = ms.map f from rfl, hguard]
    simp only [Bool.false_eq_true, if_false, Sem.run_pure, Result.andThen_ok, hold, hf1, hf2, Sem.run_bind, run_choose]
    cases rem with
    | nil =>
      have hall : ∀ e ∈ ms, e.2.2 ∈ seen := by
        intro e he
        rcases Classical.em (e.2.2 ∈ seen) with h | h
        · exact h
        · have : e ∈ (ms.filter fun e => !seen.contains e.2.2) := List.mem_filter.2 ⟨he, by simpa using h⟩
          rw [hrem] at this
          cases this
      refine ⟨.tuple ⟨[.bool false]⟩, w, L, ?_, hw, hover hall⟩
      simp [Question.forced]
    | cons e0 rem =>
      -- some candidate is chosen
      have hcand : (((if (Array.mk ((e0 :: rem).map f)).isEmpty then #[none] else #[]) ++ ((Array.mk ((e0 :: rem).map f)) ++ #[]).map some) : Array (Option MapEntry)) = ⟨((e0 :: rem).map f).map some⟩ := by
        apply Array.toList_inj.1
        simp
      rw [hcand]
      have hsz : (Array.mk (((e0 :: rem).map f).map some)).size = rem.length + 1 := by simp
      rw [hsz]
      have key : ∀ i, i < rem.length + 1 → ∀ w', (w' = w ∨ w' = w.drew) → ∃ v w'' L', (match (Array.mk (((e0 :: rem).map f).map some))[i]? with
          | some (some e) => (do setObj c (.mapIter (some b) clk ((Array.mk seen).push e.born) clk); Pure.pure (Value.tuple #[.bool true, e.key, e.val]) : Sem Value)
          | some none => Pure.pure (Value.tuple #[.bool false])
          | none => stuck "Next: no such candidate" : Sem Value).run X.P w' = .ok v w'' ∧ Hp X.w0 X.S L' w'' ∧ R X all rest K ((dd, v) :: σ) L' := by
        intro i hi w' hw'
        have hi' : i < (e0 :: rem).length := by simpa using hi
        have : (Array.mk (((e0 :: rem).map f).map some))[i]? = some (some (f (e0 :: rem)[i])) := by
          have h8 : (((e0 :: rem).map f).map some)[i]? = some (some (f (e0 :: rem)[i])) := by
            rw [List.getElem?_map, List.getElem?_map, List.getElem?_eq_getElem hi']; rfl
          simpa using h8
        rw [this]
        obtain ⟨h1, h2⟩ := hmem _ (List.getElem_mem hi')
        obtain ⟨L', hu, hr⟩ := hstep _ h1 h2
        have hwp : Hp X.w0 X.S L w' := by
          rcases hw' with rfl | rfl
          · exact hw
          · exact hw.step (Chg.drew [] w)
        have hc' := hwp.get _ _ hit.mem
        have hs := setObj_run (P := X.P) (o' := .mapIter (some b) clk ⟨seen ++ [(e0 :: rem)[i].2.2]⟩ clk) hc' hne
        refine ⟨_, _, L', ?_, hwp.upd hu (Chg.setObj w' _ (by simp)) (setObj_at hc'), hr⟩
        have hpush : (Array.mk seen).push (f (e0 :: rem)[i]).born = ⟨seen ++ [(e0 :: rem)[i].2.2]⟩ := by simp [f]
        simp only [hpush, Sem.run_bind, hs, Result.andThen_ok, Sem.run_pure]
        rfl
      by_cases hfo : (Question.mapNext (rem.length + 1)).forced = true
      · simp only [hfo, if_true, Result.andThen_ok]
        obtain ⟨v, w'', L', h1, h2, h3⟩ := key 0 (by omega) w (.inl rfl)
        refine ⟨v, w'', L', ?_, h2, h3⟩
        erw [h1]; rfl
      · simp only [hfo, if_false, Result.andThen_ok, Bool.false_eq_true]
        obtain ⟨v, w'', L', h1, h2, h3⟩ := key ((Question.mapNext (rem.length + 1)).cut (w.tape w.drawn (.mapNext (rem.length + 1)))) (by simp only [Question.cut]; exact Nat.mod_lt _ (by omega)) w.drew (.inr rfl)
        refine ⟨v, w'', L', ?_, h2, h3⟩
        erw [h1]; rfl
end
end Go.Proofs.Ytligpachgcmkcaa
