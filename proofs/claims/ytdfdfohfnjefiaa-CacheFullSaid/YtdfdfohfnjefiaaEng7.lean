/- Equality at types that are made of numbers, bools and strings alone; such values as a map's keys. -/
import Derived.Test.YtdfdfohfnjefiaaEng6
import Derived.Laws.StructEq
set_option linter.unusedSimpArgs false
set_option linter.unusedVariables false
namespace Go.Proofs.Ytdfdfohfnjefiaa
open Go.RowKit Go.Shelf

/-- The kinds of a plain type's cells, in order. -/
def flatFs (g : Nat → Option (List TK)) : List (Nat × Nat × Nat) → Nat → Option (List TK)
  | [], _ => some []
  | (t, off, sz) :: r, k => match Nat.beq off k with
    | false => none
    | true => match g t with
      | none => none
      | some ks => match Nat.beq ks.length sz with
        | false => none
        | true => match flatFs g r (k + sz) with
          | none => none
          | some rest => some (ks ++ rest)
def repK (ks : List TK) : Nat → List TK
  | 0 => []
  | n + 1 => ks ++ repK ks n
def flatE {P : Program} (tb : Tb P) : Nat → Nat → Option (List TK)
  | 0, _ => none
  | n + 1, t => match tb.row t with
    | none => none
    | some r => match r.k with
      | .int k => some [.int k]
      | .bool => some [.bool]
      | .string => some [.string]
      | .strct fs => flatFs (flatE tb n) fs 0
      | .arr m e => match tb.row e with
        | none => none
        | some re => match flatE tb n e with
          | none => none
          | some ks => match Nat.beq ks.length re.size with
            | false => none
            | true => some (repK ks m)
      | _ => none
def cellOk : TK → Value → Bool
  | .int k, .int k' _ => k == k'
  | .bool, .bool _ => true
  | .string, .string _ => true
  | _, _ => false
def allOk : List TK → List Value → Bool
  | [], [] => true
  | k :: ks, v :: vs => cellOk k v && allOk ks vs
  | _, _ => false
theorem allOk_len : ∀ {ks : List TK} {vs : List Value}, allOk ks vs = true → vs.length = ks.length
  | [], [], _ => rfl
  | [], _ :: _, h => by cases h
  | _ :: _, [], h => by cases h
  | k :: ks, v :: vs, h => by simp only [allOk, Bool.and_eq_true] at h; simp [allOk_len h.2]
theorem allOk_append : ∀ {ks ls : List TK} {vs : List Value}, allOk (ks ++ ls) vs = true → allOk ks (vs.take ks.length) = true ∧ allOk ls (vs.drop ks.length) = true
  | [], ls, vs, h => ⟨by simp [allOk], by simpa using h⟩
  | k :: ks, ls, [], h => by cases h
  | k :: ks, ls, v :: vs, h => by
    simp only [List.cons_append, allOk, Bool.and_eq_true] at h
    obtain ⟨h1, h2⟩ := allOk_append h.2
    exact ⟨by simp [allOk, h.1, h1], by simpa using h2⟩

def valOf (ag : Bool) (xs : List Value) : Value := if ag then .agg ⟨xs⟩ else xs.headD undef

/-- What '==' says at type t of values with cells of these kinds. -/
def EqT (P : Program) (t : Nat) (ag : Bool) (ks : List TK) (d : Nat) : Prop :=
  ∀ w xs ys, allOk ks xs = true → allOk ks ys = true → ∃ b, (Op.equalIn d t (valOf ag xs) (valOf ag ys)).run P w = .ok b w ∧ (b = true ↔ xs = ys)

theorem part_run {P : Program} {t : Nat} {ag : Bool} {sz : Nat} (ha : ∀ w, (isAgg t).run P w = .ok ag w) (hs : ∀ w, (Go.sizeOf t).run P w = .ok sz w) (h1 : ag = false → sz = 1) (xs : List Value) (off : Nat) (hl : off + sz ≤ xs.length) (w : World) :
    (part t ⟨xs⟩ off).run P w = .ok (valOf ag ((xs.drop off).take sz)) w := by
  unfold part
  rw [Sem.run_bind, ha]
  cases ag with
  | true =>
    simp only [Result.andThen_ok, if_true, Sem.run_bind, hs, Sem.run_pure, valOf]
    congr 2
    apply Array.toList_inj.1
    simp
  | false =>
    have := h1 rfl
    subst this
    have hlt : off < xs.length := by omega
    simp only [Result.andThen_ok, Bool.false_eq_true, if_false, valOf]
    have : (Array.mk xs)[off]? = some xs[off] := by simp [hlt]
    rw [this]
    show Result.ok xs[off] w = Result.ok (((xs.drop off).take 1).headD undef) w
    rw [List.drop_eq_getElem_cons hlt]
    rfl

theorem take_drop_ext {xs ys : List Value} {n : Nat} (h1 : xs.take n = ys.take n) (h2 : xs.drop n = ys.drop n) : xs = ys := by
  rw [← List.take_append_drop n xs, ← List.take_append_drop n ys, h1, h2]

theorem eqFields_flat {P : Program} {d : Nat} {g : Nat → Option (List TK)} (hg : ∀ t ks, g t = some ks → ∃ ag, (∀ w, (isAgg t).run P w = .ok ag w) ∧ (ag = false → ks.length = 1) ∧ EqT P t ag ks d) :
    ∀ (fields : List Field) (fs : List (Nat × Nat × Nat)) (k : Nat) (ks : List TK) (xs ys : List Value) (w : World), Flds P fields fs → flatFs g fs k = some ks → xs.length = k + ks.length → ys.length = k + ks.length → allOk ks (xs.drop k) = true → allOk ks (ys.drop k) = true →
    ∃ b, (Op.eqFields d ⟨xs⟩ ⟨ys⟩ fields).run P w = .ok b w ∧ (b = true ↔ xs.drop k = ys.drop k)
  | [], [], k, ks, xs, ys, w, _, h, hx, hy, h1, h2 => by
    simp only [flatFs, Option.some.injEq] at h
    subst h
    refine ⟨true, by simp [Op.eqFields], ?_⟩
    simp at hx hy
    simp [List.drop_eq_nil_of_le (show xs.length ≤ k by omega), List.drop_eq_nil_of_le (show ys.length ≤ k by omega)]
  | [], _ :: _, _, _, _, _, _, h, _, _, _, _, _ => h.elim
  | _ :: _, [], _, _, _, _, _, h, _, _, _, _, _ => h.elim
  | f :: fields, (t, off, sz) :: fs, k, ks, xs, ys, w, hF, h, hx, hy, h1, h2 => by
    obtain ⟨e1, e2, e3, e4, e5⟩ := hF
    simp only [flatFs] at h
    split at h
    · cases h
    · rename_i hb
      have hb' := Nat.eq_of_beq_eq_true hb
      subst hb'
      split at h
      · cases h
      · rename_i ks1 hk1
        split at h
        · cases h
        · rename_i hb2
          have hb2' := Nat.eq_of_beq_eq_true hb2
          subst hb2'
          split at h
          · cases h
          · rename_i ks2 hk2
            simp only [Option.some.injEq] at h
            subst h
            obtain ⟨ag, ha, hag, hE⟩ := hg _ _ hk1
            simp only [List.length_append] at hx hy
            obtain ⟨a1, a2⟩ := allOk_append h1
            obtain ⟨b1, b2⟩ := allOk_append h2
            rw [List.drop_drop] at a2 b2
            have p1 := part_run ha e3 hag xs off (by omega) w
            have p2 := part_run ha e3 hag ys off (by omega) w
            obtain ⟨b, r1, r2⟩ := hE w _ _ a1 b1
            obtain ⟨b', r3, r4⟩ := eqFields_flat hg fields fs (off + ks1.length) ks2 xs ys w e5 hk2 (by omega) (by omega) a2 b2
            have hne : f.name ≠ "_" := by simpa using e4
            simp only [Op.eqFields, if_pos hne, Sem.run_bind, e1, e2, p1, p2, Result.andThen_ok, r1]
            cases b with
            | false =>
              refine ⟨false, by simp, ?_⟩
              simp only [Bool.false_eq_true, false_iff] at r2 ⊢
              intro e
              exact r2 (by rw [e])
            | true =>
              refine ⟨b', by simpa using r3, ?_⟩
              rw [r4]
              have r2' := r2.1 rfl
              constructor
              · intro e
                refine take_drop_ext (n := ks1.length) r2' ?_
                rw [List.drop_drop, List.drop_drop]; exact e
              · intro e
                have := congrArg (List.drop ks1.length) e
                rwa [List.drop_drop, List.drop_drop] at this

theorem repK_len {ks : List TK} : ∀ {m : Nat}, (repK ks m).length = m * ks.length
  | 0 => by simp [repK]
  | m + 1 => by simp [repK, repK_len (m := m), Nat.add_mul]; omega

theorem eqArr_flat {P : Program} {d e sz : Nat} {ag : Bool} {ks : List TK} (ha : ∀ w, (isAgg e).run P w = .ok ag w) (hs : ∀ w, (Go.sizeOf e).run P w = .ok sz w) (hsz : ks.length = sz) (hag : ag = false → sz = 1) (hE : EqT P e ag ks d) :
    ∀ (m k : Nat) (xs ys : List Value) (w : World), xs.length = (k + m) * sz → ys.length = (k + m) * sz → allOk (repK ks m) (xs.drop (k * sz)) = true → allOk (repK ks m) (ys.drop (k * sz)) = true →
    ∃ b, ((do
      for i in List.range' k m do
        if !(← Op.equalIn d e (← part e ⟨xs⟩ (i * sz)) (← part e ⟨ys⟩ (i * sz))) then return false
      return true) : Sem Bool).run P w = .ok b w ∧ (b = true ↔ xs.drop (k * sz) = ys.drop (k * sz))
  | 0, k, xs, ys, w, hx, hy, h1, h2 => by
    refine ⟨true, by simp, ?_⟩
    simp [List.drop_eq_nil_of_le (show xs.length ≤ k * sz by simp at hx; omega), List.drop_eq_nil_of_le (show ys.length ≤ k * sz by simp at hy; omega)]
  | m + 1, k, xs, ys, w, hx, hy, h1, h2 => by
    have hm : k * sz + sz ≤ (k + (m + 1)) * sz := by
      have := Nat.mul_le_mul_right sz (show k + 1 ≤ k + (m + 1) by omega)
      rw [Nat.add_mul, Nat.one_mul] at this
      exact this
    have hk1 : (k + 1) * sz = k * sz + sz := by rw [Nat.add_mul, Nat.one_mul]
    rw [repK] at h1 h2
    obtain ⟨a1, a2⟩ := allOk_append h1
    obtain ⟨b1, b2⟩ := allOk_append h2
    rw [List.drop_drop, hsz, ← hk1] at a2 b2
    rw [hsz] at a1 b1
    have p1 := part_run ha hs hag xs (k * sz) (by omega) w
    have p2 := part_run ha hs hag ys (k * sz) (by omega) w
    obtain ⟨b, r1, r2⟩ := hE w _ _ a1 b1
    obtain ⟨b', r3, r4⟩ := eqArr_flat ha hs hsz hag hE m (k + 1) xs ys w (by rw [hx]; congr 1; omega) (by rw [hy]; congr 1; omega) a2 b2
    rw [List.range'_succ]
    simp only [List.forIn_cons, Sem.run_bind, p1, p2, Result.andThen_ok, r1]
    cases b with
    | false =>
      refine ⟨false, by simp, ?_⟩
      simp only [Bool.false_eq_true, false_iff] at r2 ⊢
      intro e
      exact r2 (by rw [e])
    | true =>
      refine ⟨b', by simpa using r3, ?_⟩
      rw [r4, hk1]
      have r2' := r2.1 rfl
      constructor
      · intro e
        refine take_drop_ext (n := sz) r2' ?_
        rw [List.drop_drop, List.drop_drop]; exact e
      · intro e
        have := congrArg (List.drop sz) e
        rwa [List.drop_drop, List.drop_drop] at this

theorem allOk_one {k : TK} {xs : List Value} (h : allOk [k] xs = true) : ∃ v, xs = [v] ∧ cellOk k v = true := by
  match xs, h with
  | [v], h => exact ⟨v, rfl, by simpa [allOk] using h⟩
  | v :: _ :: _, h => simp [allOk] at h
theorem bytes_beq (a b : ByteArray) : (a == b) = true ↔ a = b := by
  rw [beq_toListBytes, ByteArray.toList_eq, ByteArray.toList_eq]
  obtain ⟨⟨x⟩⟩ := a
  obtain ⟨⟨y⟩⟩ := b
  simp

theorem flat_eq {P : Program} (tb : Tb P) : ∀ (n t : Nat) (ks : List TK), flatE tb n t = some ks → ∃ ag, (∀ w, (isAgg t).run P w = .ok ag w) ∧ (ag = false → ks.length = 1) ∧ ∀ d, n ≤ d → EqT P t ag ks d
  | 0, t, ks, h => by cases h
  | n + 1, t, ks, h => by
    simp only [flatE] at h
    split at h
    · cases h
    · rename_i r hr
      have hg := tb.get hr
      have his := hg.is
      split at h <;> rename_i hk
      · simp only [Option.some.injEq] at h; subst h
        rw [hk] at his
        refine ⟨false, hg.agg (by rw [hk]; rfl), fun _ => rfl, fun d hd w xs ys h1 h2 => ?_⟩
        obtain ⟨d, rfl⟩ : ∃ d', d = d' + 1 := ⟨d - 1, by omega⟩
        obtain ⟨v, rfl, k1⟩ := allOk_one h1
        obtain ⟨u, rfl, k2⟩ := allOk_one h2
        cases v <;> first | exact Bool.noConfusion (show false = true from k1) | skip
        rename_i a
        cases u <;> first | exact Bool.noConfusion (show false = true from k2) | skip
        rename_i b
        have h1' := eq_of_beq (show (_ == _) = true from k1)
        have h2' := eq_of_beq (show (_ == _) = true from k2)
        subst h1'; subst h2'
        exact ⟨a == b, by simpa [valOf] using run_equalIn_int w d t _ _ a b his, by simp⟩
      · simp only [Option.some.injEq] at h; subst h
        rw [hk] at his
        refine ⟨false, hg.agg (by rw [hk]; rfl), fun _ => rfl, fun d hd w xs ys h1 h2 => ?_⟩
        obtain ⟨d, rfl⟩ : ∃ d', d = d' + 1 := ⟨d - 1, by omega⟩
        obtain ⟨v, rfl, k1⟩ := allOk_one h1
        obtain ⟨u, rfl, k2⟩ := allOk_one h2
        cases v <;> first | exact Bool.noConfusion (show false = true from k1) | skip
        rename_i a
        cases u <;> first | exact Bool.noConfusion (show false = true from k2) | skip
        rename_i b
        exact ⟨a == b, by simpa [valOf] using run_equalIn_bool w d t a b his, by simp⟩
      · simp only [Option.some.injEq] at h; subst h
        rw [hk] at his
        refine ⟨false, hg.agg (by rw [hk]; rfl), fun _ => rfl, fun d hd w xs ys h1 h2 => ?_⟩
        obtain ⟨d, rfl⟩ : ∃ d', d = d' + 1 := ⟨d - 1, by omega⟩
        obtain ⟨v, rfl, k1⟩ := allOk_one h1
        obtain ⟨u, rfl, k2⟩ := allOk_one h2
        cases v <;> first | exact Bool.noConfusion (show false = true from k1) | skip
        rename_i a
        cases u <;> first | exact Bool.noConfusion (show false = true from k2) | skip
        rename_i b
        refine ⟨a == b, by simp [valOf, Op.equalIn, run_underlying his], by simpa using bytes_beq a b⟩
      · rename_i fs
        have hp := hg.plain
        rw [hk] at his hp
        obtain ⟨fields, h1, h2⟩ := his
        refine ⟨true, hg.agg (by rw [hk]; rfl), by simp, fun d hd w xs ys hx hy => ?_⟩
        obtain ⟨d, rfl⟩ : ∃ d', d = d' + 1 := ⟨d - 1, by omega⟩
        have hfo : P.fieldsOf t = fields := by simp [Program.fieldsOf, h1]
        have hrun := run_equalIn_struct w d t ⟨xs⟩ ⟨ys⟩ (by rw [hfo]; exact h1) hp
        rw [hfo] at hrun
        have hlx := allOk_len hx
        have hly := allOk_len hy
        obtain ⟨b, r1, r2⟩ := eqFields_flat (g := flatE tb n) (d := d) (fun t ks hks => by
          obtain ⟨ag, a1, a2, a3⟩ := flat_eq tb n t ks hks
          exact ⟨ag, a1, a2, a3 d (by omega)⟩) fields.toList fs 0 ks xs ys w h2 h (by omega) (by omega) (by simpa using hx) (by simpa using hy)
        refine ⟨b, ?_, by simpa using r2⟩
        simp only [valOf, if_true]
        rw [hrun]
        exact r1
      · rename_i m e
        rw [hk] at his
        split at h
        · cases h
        · rename_i re hre
          have hge := tb.get hre
          split at h
          · cases h
          · rename_i ks1 hks1
            split at h
            · cases h
            · rename_i hb
              have hb' := Nat.eq_of_beq_eq_true hb
              simp only [Option.some.injEq] at h; subst h
              refine ⟨true, hg.agg (by rw [hk]; rfl), by simp, fun d hd w xs ys hx hy => ?_⟩
              obtain ⟨d, rfl⟩ : ∃ d', d = d' + 1 := ⟨d - 1, by omega⟩
              obtain ⟨ag, a1, a2, a3⟩ := flat_eq tb n e ks1 hks1
              have hlx := allOk_len hx
              have hly := allOk_len hy
              rw [repK_len] at hlx hly
              obtain ⟨b, r1, r2⟩ := eqArr_flat (d := d) a1 hge.size hb' (fun h => by rw [← hb']; exact a2 h) (a3 d (by omega)) m 0 xs ys w (by rw [hlx, hb']; simp) (by rw [hly, hb']; simp) (by simpa using hx) (by simpa using hy)
              refine ⟨b, ?_, by simpa using r2⟩
              simp only [TK.is] at his
              simp only [valOf, if_true, Op.equalIn, Sem.run_bind, run_underlying his, Result.andThen_ok, hge.size]
              simp only [Std.Legacy.Range.forIn_eq_forIn_range', Std.Legacy.Range.size] at r1 ⊢
              simpa using r1
      · cases h

/-! ### the operations -/
section
variable {X : Cx} {σ : Env} {L : Lst} {dd : Nat} {ty ty2 : TypeId} {pos : String} {af : Array Edge} {d : Option Nat} {g : Option (Nat × Bool)} {x y : Operand} {t : TypeId} {r : TRow} {ks : List TK} {xs ys : List Value}
variable {all : Array Oper} {rest : List Oper} {K : Env → Lst → Prop}

theorem eqGuardFlat {P : Program} (tb : Tb P) : ∀ (n : Nat) (t : Nat) (ks : List TK) (dp : Nat), flatE tb n t = some ks → n ≤ dp → P.eqGuardType dp t = false
  | 0, _, _, _, h, _ => by cases h
  | n + 1, t, ks, dp, h, hd => by
    obtain ⟨dp, rfl⟩ : ∃ d', dp = d' + 1 := ⟨dp - 1, by omega⟩
    simp only [flatE] at h
    split at h
    · cases h
    · rename_i r hr
      have his := (tb.get hr).is
      split at h <;> rename_i hk <;> (try rw [hk] at his) <;> simp only [TK.is] at his
      · simp [Program.eqGuardType, his]
      · simp [Program.eqGuardType, his]
      · simp [Program.eqGuardType, his]
      · rename_i fs
        obtain ⟨fields, h1, h2⟩ := his
        simp only [Program.eqGuardType, h1]
        rw [← Array.any_toList]
        have key : ∀ (fields : List Field) (fs : List (Nat × Nat × Nat)) (k : Nat) (ks : List TK), Flds P fields fs → flatFs (flatE tb n) fs k = some ks → fields.any (fun f => f.name != "_" && P.eqGuardType dp f.type) = false := by
          intro fields
          induction fields with
          | nil => intros; rfl
          | cons f fields ih =>
            intro fs k ks hF h
            match fs, hF with
            | (t, off, sz) :: fs, hF =>
              obtain ⟨e1, e2, e3, e4, e5⟩ := hF
              simp only [flatFs] at h
              split at h
              · cases h
              · split at h
                · cases h
                · rename_i ks1 hk1
                  split at h
                  · cases h
                  · split at h
                    · cases h
                    · rename_i ks2 hk2
                      simp only [List.any_cons, e1, eqGuardFlat tb n _ _ dp hk1 (by omega), Bool.and_false, Bool.false_or]
                      exact ih _ _ _ e5 hk2
        exact key _ _ _ _ h2 h
      · rename_i m e
        split at h
        · cases h
        · split at h
          · cases h
          · rename_i ks1 hks1
            simp only [Program.eqGuardType, his]
            exact eqGuardFlat tb n _ _ dp hks1 (by omega)
      · cases h
end
end Go.Proofs.Ytdfdfohfnjefiaa
