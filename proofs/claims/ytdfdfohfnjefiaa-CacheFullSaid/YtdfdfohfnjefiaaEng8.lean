/- Equality of flat values as an operation; maps whose keys are flat: look-ups, stores, deletions, ranging. -/
import Derived.Test.YtdfdfohfnjefiaaEng7
set_option linter.unusedSimpArgs false
set_option linter.unusedVariables false
namespace Go.Proofs.Ytdfdfohfnjefiaa
open Go.RowKit Go.Shelf

section
variable {X : Cx} {σ : Env} {L L' : Lst} {dd : Nat} {ty ty2 : TypeId} {pos : String} {af : Array Edge} {d : Option Nat} {g : Option (Nat × Bool)} {x y : Operand} {t : TypeId} {r : TRow} {ks : List TK} {xs ys : List Value}
variable {all : Array Oper} {rest : List Oper} {K : Env → Lst → Prop}

theorem Op_equal_flat {P : Program} (tb : Tb P) {t : Nat} {r : TRow} {ks : List TK} (ht : tb.row t = some r) (hk : r.k.agg = some true) (hf : flatE tb 8 t = some ks) (h1 : allOk ks xs = true) (h2 : allOk ks ys = true) (w : World) :
    ∃ b, (Op.equal t (.agg ⟨xs⟩) (.agg ⟨ys⟩)).run P w = .ok b w ∧ (b = true ↔ xs = ys) := by
  obtain ⟨ag, a1, a2, a3⟩ := flat_eq tb 8 t ks hf
  have : ag = true := by
    have e1 := a1 w
    rw [(tb.get ht).agg hk w] at e1
    injection e1 with e1 _
    exact e1.symm
  subst this
  obtain ⟨b, r1, r2⟩ := a3 10000 (by omega) w xs ys h1 h2
  exact ⟨b, by simpa [valOf, Op.equal, Op.maxDepth] using r1, r2⟩

open Classical in
theorem Ok1.eqlF (hx : ev σ x = some (.agg ⟨xs⟩)) (hy : ev σ y = some (.agg ⟨ys⟩)) (ht : X.tb.row t = some r) (hk : r.k.agg = some true) (hf : flatE X.tb 8 t = some ks) (h1 : allOk ks xs = true) (h2 : allOk ks ys = true) :
    Ok1 X ⟨d, .binOp .eql t x y ty2, ty, pos, af, g⟩ σ L (.bool (decide (xs = ys))) := .mk fun a w ha hw => by
  obtain ⟨b, r1, r2⟩ := Op_equal_flat X.tb ht hk hf h1 h2 w
  have hb : b = decide (xs = ys) := by cases b <;> simp_all
  have hgd := eqGuardFlat X.tb 8 t ks X.P.depth hf X.tb.deep
  simp [execOp, ha.ev hx, ha.ev hy, eqGuard, binOp, hgd, r1, hb]
open Classical in
theorem Ok1.neqF (hx : ev σ x = some (.agg ⟨xs⟩)) (hy : ev σ y = some (.agg ⟨ys⟩)) (ht : X.tb.row t = some r) (hk : r.k.agg = some true) (hf : flatE X.tb 8 t = some ks) (h1 : allOk ks xs = true) (h2 : allOk ks ys = true) :
    Ok1 X ⟨d, .binOp .neq t x y ty2, ty, pos, af, g⟩ σ L (.bool (decide (xs ≠ ys))) := .mk fun a w ha hw => by
  obtain ⟨b, r1, r2⟩ := Op_equal_flat X.tb ht hk hf h1 h2 w
  have hb : (!b) = decide (xs ≠ ys) := by cases b <;> simp_all
  have hgd := eqGuardFlat X.tb 8 t ks X.P.depth hf X.tb.deep
  simp [execOp, ha.ev hx, ha.ev hy, eqGuard, binOp, hgd, r1]
  simpa using hb
open Classical in
theorem R.eqlF (hn : Nat.blt dd X.n = true) (hx : ev σ x = some (.agg ⟨xs⟩)) (hy : ev σ y = some (.agg ⟨ys⟩)) (ht : X.tb.row t = some r) (hk : r.k.agg = some true) (hf : flatE X.tb 8 t = some ks) (h1 : allOk ks xs = true) (h2 : allOk ks ys = true)
    (ht : xs = ys → R X all rest K ((dd, .bool true) :: σ) L) (hf : xs ≠ ys → R X all rest K ((dd, .bool false) :: σ) L) : R X all (⟨some dd, .binOp .eql t x y ty2, ty, pos, af, none⟩ :: rest) K σ L := by
  rename_i htr hff
  have ho := Ok1.eqlF (X := X) (L := L) (ty2 := ty2) (d := some dd) (ty := ty) (pos := pos) (af := af) (g := none) hx hy htr hk hff h1 h2
  by_cases h : xs = ys
  · rw [decide_eq_true h] at ho; exact R.pure hn ho (ht h)
  · rw [decide_eq_false h] at ho; exact R.pure hn ho (hf h)
open Classical in
theorem R.neqF (hn : Nat.blt dd X.n = true) (hx : ev σ x = some (.agg ⟨xs⟩)) (hy : ev σ y = some (.agg ⟨ys⟩)) (ht : X.tb.row t = some r) (hk : r.k.agg = some true) (hf : flatE X.tb 8 t = some ks) (h1 : allOk ks xs = true) (h2 : allOk ks ys = true)
    (ht : xs ≠ ys → R X all rest K ((dd, .bool true) :: σ) L) (hf : xs = ys → R X all rest K ((dd, .bool false) :: σ) L) : R X all (⟨some dd, .binOp .neq t x y ty2, ty, pos, af, none⟩ :: rest) K σ L := by
  rename_i htr hff
  have ho := Ok1.neqF (X := X) (L := L) (ty2 := ty2) (d := some dd) (ty := ty) (pos := pos) (af := af) (g := none) hx hy htr hk hff h1 h2
  by_cases h : xs = ys
  · rw [decide_eq_false (by simpa using h)] at ho; exact R.pure hn ho (hf h)
  · rw [decide_eq_true h] at ho; exact R.pure hn ho (ht h)
end

/-! ### keys -/
structure KeyT (P : Program) (t : Nat) {κ : Type} (kv : κ → Value) : Prop where
  eq : ∀ w a b, ∃ r, (Op.equal t (kv a) (kv b)).run P w = .ok r w ∧ (r = true ↔ a = b)
  chk : ∀ w e a, (Instr.checkKey e 10000 t (kv a)).run P w = .ok () w
  bits : ∀ a, Instr.sameBits 10000 (kv a) (kv a) = true
  now : ∃ dsc, P.underlying t = some dsc ∧ ((∀ a b, Instr.sameNow dsc (kv a) (kv b) = none) ∨ (∀ a b, ∃ r, Instr.sameNow dsc (kv a) (kv b) = some r ∧ (r = true ↔ a = b)))

theorem chkFlat {P : Program} (tb : Tb P) (e : Bool) : ∀ (n t : Nat) (ks : List TK), flatE tb n t = some ks → ∃ ag, (∀ w, (isAgg t).run P w = .ok ag w) ∧ (ag = false → ks.length = 1) ∧ ∀ d, n ≤ d → ∀ w xs, allOk ks xs = true → (Instr.checkKey e d t (valOf ag xs)).run P w = .ok () w
  | 0, t, ks, h => by cases h
  | n + 1, t, ks, h => by
    obtain ⟨ag, a1, a2, _⟩ := flat_eq tb (n + 1) t ks h
    refine ⟨ag, a1, a2, fun d hd w xs hx => ?_⟩
    obtain ⟨d, rfl⟩ : ∃ d', d = d' + 1 := ⟨d - 1, by omega⟩
    simp only [flatE] at h
    split at h
    · cases h
    · rename_i r hr
      have hg := tb.get hr
      have his := hg.is
      have hag : ∀ b, r.k.agg = some b → ag = b := fun b hb => by
        have e1 := a1 w
        rw [hg.agg hb w] at e1
        injection e1 with e1 _
        exact e1.symm
      split at h <;> rename_i hk
      · have := hag false (by rw [hk]; rfl)
        subst this
        rw [hk] at his; simp only [TK.is] at his
        simp only [Option.some.injEq] at h; subst h
        obtain ⟨v, rfl, k1⟩ := allOk_one hx
        cases v <;> first | exact Bool.noConfusion (show false = true from k1) | skip
        simp [Instr.checkKey, valOf, run_underlying his]
      · have := hag false (by rw [hk]; rfl)
        subst this
        rw [hk] at his; simp only [TK.is] at his
        simp only [Option.some.injEq] at h; subst h
        obtain ⟨v, rfl, k1⟩ := allOk_one hx
        cases v <;> first | exact Bool.noConfusion (show false = true from k1) | skip
        simp [Instr.checkKey, valOf, run_underlying his]
      · have := hag false (by rw [hk]; rfl)
        subst this
        rw [hk] at his; simp only [TK.is] at his
        simp only [Option.some.injEq] at h; subst h
        obtain ⟨v, rfl, k1⟩ := allOk_one hx
        cases v <;> first | exact Bool.noConfusion (show false = true from k1) | skip
        simp [Instr.checkKey, valOf, run_underlying his]
      · rename_i fs
        have := hag true (by rw [hk]; rfl)
        subst this
        rw [hk] at his; simp only [TK.is] at his
        obtain ⟨fields, h1, h2⟩ := his
        have key : ∀ (fields : List Field) (fs : List (Nat × Nat × Nat)) (k : Nat) (ks : List TK) (xs : List Value), Flds P fields fs → flatFs (flatE tb n) fs k = some ks → xs.length = k + ks.length → allOk ks (xs.drop k) = true →
            ((do for f in fields do if f.name ≠ "_" then Instr.checkKey e d f.type (← part f.type ⟨xs⟩ f.offset)) : Sem Unit).run P w = .ok () w := by
          intro fields
          induction fields with
          | nil => intros; simp
          | cons f fields ih =>
            intro fs k ks xs hF h hl hx
            match fs, hF with
            | (t, off, sz) :: fs, hF =>
              obtain ⟨e1, e2, e3, e4, e5⟩ := hF
              simp only [flatFs] at h
              split at h
              · cases h
              · rename_i hb
                have hb' := Nat.eq_of_beq_eq_true hb
                subst hb'
                split at h
                · cases h
                · rename_i ks1 hk1
                  split at h
                  · cases h
                  · rename_i hb2
                    have hb2' := Nat.eq_of_beq_eq_true hb2
                    subst hb2'
                    split at h
                    · cases h
                    · rename_i ks2 hk2
                      simp only [Option.some.injEq] at h
                      subst h
                      simp only [List.length_append] at hl
                      obtain ⟨c1, c2⟩ := allOk_append hx
                      rw [List.drop_drop] at c2
                      obtain ⟨ag, b1, b2, b3⟩ := chkFlat tb e n _ _ hk1
                      have p1 := part_run b1 e3 b2 xs off (by omega) w
                      have r1 := b3 d (by omega) w _ c1
                      have hne : f.name ≠ "_" := by simpa using e4
                      have ih' := ih fs (off + ks1.length) ks2 xs e5 hk2 (by omega) c2
                      simp only [List.forIn_cons, if_pos hne, Sem.run_bind, e1, e2, p1, Result.andThen_ok, r1, Sem.run_pure]
                      simp at ih' ⊢
                      rw [ih']; rfl
        have := key fields.toList fs 0 ks xs h2 h (by simpa using allOk_len hx) (by simpa using hx)
        simp only [Instr.checkKey, valOf, if_true, Sem.run_bind, run_underlying h1, Result.andThen_ok]
        rw [← Array.forIn_toList]
        simp at this ⊢
        rw [this]; rfl
      · rename_i m ee
        have := hag true (by rw [hk]; rfl)
        subst this
        rw [hk] at his; simp only [TK.is] at his
        split at h
        · cases h
        · rename_i re hre
          have hge := tb.get hre
          split at h
          · cases h
          · rename_i ks1 hks1
            split at h
            · cases h
            · rename_i hb
              have hb' := Nat.eq_of_beq_eq_true hb
              simp only [Option.some.injEq] at h; subst h
              obtain ⟨ag, b1, b2, b3⟩ := chkFlat tb e n _ _ hks1
              have key : ∀ (m k : Nat) (xs : List Value), xs.length = (k + m) * re.size → allOk (repK ks1 m) (xs.drop (k * re.size)) = true →
                  ((do for i in List.range' k m do Instr.checkKey e d ee (← part ee ⟨xs⟩ (i * (← Go.sizeOf ee)))) : Sem Unit).run P w = .ok () w := by
                intro m
                induction m with
                | zero => intros; simp
                | succ m ih =>
                  intro k xs hl hx
                  have hm : k * re.size + re.size ≤ (k + (m + 1)) * re.size := by
                    have := Nat.mul_le_mul_right re.size (show k + 1 ≤ k + (m + 1) by omega)
                    rw [Nat.add_mul, Nat.one_mul] at this
                    exact this
                  have hk1 : (k + 1) * re.size = k * re.size + re.size := by rw [Nat.add_mul, Nat.one_mul]
                  rw [repK] at hx
                  obtain ⟨c1, c2⟩ := allOk_append hx
                  rw [List.drop_drop, hb', ← hk1] at c2
                  rw [hb'] at c1
                  have p1 := part_run b1 hge.size (fun h => by rw [← hb']; exact b2 h) xs (k * re.size) (by omega) w
                  have r1 := b3 d (by omega) w _ c1
                  have ih' := ih (k + 1) xs (by rw [hl]; congr 1; omega) c2
                  rw [List.range'_succ]
                  simp only [List.forIn_cons, Sem.run_bind, hge.size, p1, Result.andThen_ok, r1, Sem.run_pure]
                  simp at ih' ⊢
                  rw [ih']; rfl
              have hl := allOk_len hx
              rw [repK_len, hb'] at hl
              have := key m 0 xs (by simpa using hl) (by simpa using hx)
              simp only [Instr.checkKey, valOf, if_true, Sem.run_bind, run_underlying his, Result.andThen_ok]
              simp only [Std.Legacy.Range.forIn_eq_forIn_range', Std.Legacy.Range.size]
              simp at this ⊢
              rw [this]; rfl
      · cases h

theorem sameBits_flat : ∀ {ks : List TK} {xs : List Value}, allOk ks xs = true → (xs.zip xs).all (fun p => Instr.sameBits 9999 p.1 p.2) = true
  | [], [], _ => rfl
  | [], _ :: _, h => by cases h
  | _ :: _, [], h => by cases h
  | k :: ks, v :: vs, h => by
    simp only [allOk, Bool.and_eq_true] at h
    simp only [List.zip_cons_cons, List.all_cons, sameBits_flat h.2, Bool.and_true]
    have h1 := h.1
    cases k <;> cases v <;> first | exact Bool.noConfusion (show false = true from h1) | simp [Instr.sameBits]
    rename_i s
    exact (bytes_beq s s).2 rfl

/-- A flat aggregate as a key: 'enc k' are its cells. -/
theorem KeyT.flat {P : Program} (tb : Tb P) {t : Nat} {r : TRow} {ks : List TK} {κ : Type} (enc : κ → List Value) (ht : tb.row t = some r) {fs : List (Nat × Nat × Nat)} (hk : r.k = .strct fs) (hf : flatE tb 8 t = some ks) (ho : ∀ k, allOk ks (enc k) = true) (hi : ∀ a b, enc a = enc b → a = b) :
    KeyT P t (fun k => .agg ⟨enc k⟩) := by
  refine ⟨fun w a b => ?_, fun w e a => ?_, fun a => ?_, ?_⟩
  · obtain ⟨b', r1, r2⟩ := Op_equal_flat tb ht (by rw [hk]; rfl) hf (ho a) (ho b) w
    exact ⟨b', r1, r2.trans ⟨hi a b, fun e => by rw [e]⟩⟩
  · obtain ⟨ag, a1, a2, a3⟩ := chkFlat tb e 8 t ks hf
    have : ag = true := by
      have e1 := a1 w
      rw [(tb.get ht).agg (b := true) (by rw [hk]; rfl) w] at e1
      injection e1 with e1 _
      exact e1.symm
    subst this
    simpa [valOf] using a3 10000 (by omega) w _ (ho a)
  · have h := sameBits_flat (ho a)
    show (((Array.mk (enc a)).size == (Array.mk (enc a)).size) && ((Array.mk (enc a)).toList.zip (Array.mk (enc a)).toList).all fun (x, y) => Instr.sameBits 9999 x y) = true
    simp only [beq_self_eq_true, Bool.true_and]
    exact h
  · have his := (tb.get ht).is
    rw [hk] at his
    obtain ⟨fields, h1, _⟩ := his
    exact ⟨_, h1, .inl fun a b => rfl⟩
end Go.Proofs.Ytdfdfohfnjefiaa
