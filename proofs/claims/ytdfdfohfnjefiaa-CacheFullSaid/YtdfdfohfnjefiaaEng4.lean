/- Rules: struct, array and slice literals; append to a slice of one's own; make; reslicing; equality of structs of numbers. -/
import Derived.Test.YtdfdfohfnjefiaaEng3
set_option linter.unusedSimpArgs false
set_option linter.unusedVariables false
namespace Go.Proofs.Ytdfdfohfnjefiaa
open Go.RowKit Go.Shelf

theorem setE_cons {v : Value} {vs : List Value} : ∀ {cs : List Value} {o : Nat} {cs' : List Value}, setE cs o (v :: vs) = some cs' → o < cs.length ∧ setE (cs.set o v) (o + 1) vs = some cs' := by
  intro cs
  induction cs with
  | nil => intro o cs' h; simp [setE] at h
  | cons c cs ih =>
    intro o cs' h
    cases o with
    | zero =>
      simp only [setE] at h
      refine ⟨by simp, ?_⟩
      simp only [List.set_cons_zero]
      cases vs with
      | nil => simp [setE] at h ⊢; exact h
      | cons u us => simpa [setE] using h
    | succ o =>
      simp only [setE] at h
      cases e : setE cs o (v :: vs) with
      | none => rw [e] at h; cases h
      | some r' =>
        rw [e] at h; cases h
        obtain ⟨h2, h3⟩ := ih e
        refine ⟨by simp; omega, ?_⟩
        simp only [List.set_cons_succ]
        cases vs with
        | nil => simp [setE] at h3 ⊢; exact h3
        | cons u us => simp [setE, h3]
theorem setE_foldl (off : Nat) : ∀ {vs : List Value} {k : Nat} {z z' : List Value}, setE z (off + k) vs = some z' →
    (vs.zipIdx k).foldl (fun (cs : Array Value) (p : Value × Nat) => cs.setIfInBounds (off + p.2) p.1) ⟨z⟩ = ⟨z'⟩
  | [], k, z, z', h => by simp [setE] at h; subst h; rfl
  | v :: vs, k, z, z', h => by
    obtain ⟨h1, h2⟩ := setE_cons h
    simp only [List.zipIdx_cons, List.foldl_cons]
    have : (⟨z⟩ : Array Value).setIfInBounds (off + k) v = ⟨z.set (off + k) v⟩ := by
      apply Array.toList_inj.1; simp
    rw [this]
    exact setE_foldl off (by rw [← Nat.add_assoc]; exact h2)

def evp (σ : Env) : List (Nat × Operand) → Option (List (Nat × Value))
  | [] => some []
  | (i, x) :: r => match ev σ x with
    | none => none
    | some v => match evp σ r with
      | none => none
      | some vs => some ((i, v) :: vs)
theorem evp_eq {n : Nat} {a : Act} {σ : Env} (ha : Mod n a σ) : ∀ {ps : List (Nat × Operand)} {vs : List (Nat × Value)}, evp σ ps = some vs → ps.map (fun (i, x) => (i, a.eval x)) = vs
  | [], vs, h => by simp [evp] at h; simp [h]
  | (i, x) :: r, vs, h => by
    simp only [evp] at h
    cases h1 : ev σ x with
    | none => simp [h1] at h
    | some u =>
      cases h2 : evp σ r with
      | none => simp [h1, h2] at h
      | some us => simp [h1, h2] at h; subst h; simp [ha.ev h1, evp_eq ha h2]
def fillE (pl : Nat → Option (Nat × Nat)) : List Value → List (Nat × Value) → Option (List Value)
  | z, [] => copyE z
  | z, (i, v) :: ps => match pl i with
    | none => none
    | some (off, sz) => match cellsE v with
      | none => none
      | some vs => match Nat.beq vs.length sz with
        | false => none
        | true => match Nat.beq sz 0 with
          | true => none
          | false => match setE z off vs with
            | none => none
            | some z' => fillE pl z' ps
theorem fillE_fill {pl : Nat → Option (Nat × Nat)} : ∀ {ps : List (Nat × Value)} {z cs : List Value}, fillE pl z ps = some cs → Instr.fill pl ⟨z⟩ ps = some ⟨cs⟩
  | [], z, cs, h => by simp only [fillE] at h; rw [copyE_eq h]; rfl
  | (i, v) :: ps, z, cs, h => by
    simp only [fillE] at h
    split at h
    · cases h
    · rename_i off sz hpl
      split at h
      · cases h
      · rename_i vs hv
        split at h
        · cases h
        · rename_i hb
          split at h
          · cases h
          · rename_i hz
            split at h
            · cases h
            · rename_i z' hs
              have hb' := Nat.eq_of_beq_eq_true hb
              have hz' : sz ≠ 0 := fun e => by subst e; cases hz
              have hc := cellsE_eq hv
              obtain ⟨h1, h2, _⟩ := setE_spec hs
              have h2' : off + vs.length ≤ z.length := by
                rcases h2 with h2 | h2
                · subst h2; simp at hb'; omega
                · exact h2
              have hf := setE_foldl off (k := 0) (by simpa using hs)
              rw [Instr.fill, hpl]
              simp only [hc]
              rw [if_neg (by simp; omega)]
              have : (Array.mk vs).zipIdx.foldl (fun (cs : Array Value) (x : Value × Nat) => cs.setIfInBounds (off + x.2) x.1) (⟨z⟩ : Array Value) = (⟨z'⟩ : Array Value) := by
                rw [← hf, ← Array.foldl_toList]; simp
              rw [this]
              exact fillE_fill h

def fldPl (fs : List (Nat × Nat × Nat)) (i : Nat) : Option (Nat × Nat) := match fldE fs i with | some (_, off, sz) => some (off, sz) | none => none
theorem Flds.places {P : Program} : ∀ {fs : List Field} {s : List (Nat × Nat × Nat)}, Flds P fs s → ∀ w, (fs.mapM (m := Sem) fun f => do pure (f.offset, ← Go.sizeOf f.type)).run P w = .ok (s.map fun x => (x.2.1, x.2.2)) w
  | [], [], _, w => by simp
  | [], _ :: _, h, _ => h.elim
  | _ :: _, [], h, _ => h.elim
  | f :: fs, (t, o, z) :: s, h, w => by
    obtain ⟨h1, h2, h3, _, h5⟩ := h
    have ih := Flds.places h5 w
    simp only [bind_pure_comp] at ih
    simp [h1, h2, h3, ih]
theorem fldPl_eq : ∀ (fs : List (Nat × Nat × Nat)) (i : Nat), fldPl fs i = (fs.map fun x => (x.2.1, x.2.2))[i]?
  | [], i => by simp [fldPl, fldE]
  | (t, o, z) :: r, 0 => by simp [fldPl, fldE]
  | (t, o, z) :: r, i + 1 => by
    have := fldPl_eq r i
    simp only [fldPl, fldE] at this ⊢
    simpa using this

section
variable {X : Cx} {σ : Env} {L L' : Lst} {d : Option Nat} {ty : TypeId} {pos : String} {af : Array Edge} {g : Option (Nat × Bool)} {x y c : Operand} {v vx vy : Value} {t : TypeId}
variable {all : Array Oper} {rest : List Oper} {K : Env → Lst → Prop} {r : TRow} {dd : Nat}

theorem Ok1.build {fs : List (Nat × Nat × Nat)} {z cs : List Value} {ps : List (Nat × Operand)} {vs : List (Nat × Value)} (ht : X.tb.row t = some r) (hk : r.k = .strct fs) (hz : cellsE r.zero = some z) (hp : evp σ ps = some vs) (hf : fillE (fldPl fs) z vs = some cs) :
    Ok1 X ⟨d, .build t ps.toArray, ty, pos, af, g⟩ σ L (.agg ⟨cs⟩) := .mk fun a w ha hw => by
  have h1 := (X.tb.get ht).is
  rw [hk] at h1
  obtain ⟨fields, h2, h3⟩ := h1
  have hz' := cellsE_eq hz
  have hfl := fillE_fill hf
  have hpl : (fldPl fs) = fun i => (fs.map fun x => (x.2.1, x.2.2))[i]? := funext (fldPl_eq fs)
  rw [hpl] at hfl
  have hm : (fields.mapM (m := Sem) fun f => do pure (f.offset, ← Go.sizeOf f.type)).run X.P w = .ok (fs.map fun x => (x.2.1, x.2.2)).toArray w := by
    rw [← Array.toArray_toList (xs := fields), List.mapM_toArray]
    simp only [Sem.run_map]
    erw [h3.places w]
    rfl
  have he := evp_eq ha hp
  simp only [execOp, Instr.build, Sem.run_bind, (X.tb.get ht).zero, Result.andThen_ok, run_underlying h2, hz', List.map_toArray, he]
  erw [hm]
  simp only [Result.andThen_ok, List.getElem?_toArray]
  rw [hfl]
  rfl
theorem Ok1.buildA {n e : Nat} {z cs : List Value} {ps : List (Nat × Operand)} {vs : List (Nat × Value)} {re : TRow} (ht : X.tb.row t = some r) (hk : r.k = .arr n e) (he : X.tb.row e = some re) (hz : cellsE r.zero = some z) (hp : evp σ ps = some vs) (hf : fillE (fun i => some (i * re.size, re.size)) z vs = some cs) :
    Ok1 X ⟨d, .build t ps.toArray, ty, pos, af, g⟩ σ L (.agg ⟨cs⟩) := .mk fun a w ha hw => by
  have h2 := (X.tb.get ht).is
  rw [hk] at h2
  simp only [TK.is] at h2
  have hz' := cellsE_eq hz
  have hfl := fillE_fill hf
  have hev := evp_eq ha hp
  simp only [execOp, Instr.build, Sem.run_bind, (X.tb.get ht).zero, Result.andThen_ok, run_underlying h2, hz', List.map_toArray, hev, (X.tb.get he).size]
  rw [hfl]
  rfl

def repE (z : List Value) : Nat → Option (List Value)
  | 0 => some []
  | n + 1 => match repE z n with | some r => copyE (z ++ r) | none => none
theorem repE_spec {z : List Value} : ∀ {n : Nat} {r : List Value}, repE z n = some r → r.length = n * z.length ∧ ∀ i, i < n * z.length → r[i]? = z[i % z.length]?
  | 0, r, h => by simp [repE] at h; subst h; simp
  | n + 1, r, h => by
    simp only [repE] at h
    cases e : repE z n with
    | none => rw [e] at h; cases h
    | some s =>
      rw [e] at h
      obtain ⟨h1, h2⟩ := repE_spec e
      rw [copyE_eq h]
      refine ⟨by simp [h1, Nat.add_mul]; omega, fun i hi => ?_⟩
      rw [List.getElem?_append]
      by_cases hl : i < z.length
      · rw [if_pos hl, Nat.mod_eq_of_lt hl]
      · rw [if_neg hl, h2 _ (by rw [Nat.add_mul] at hi; omega)]
        congr 1
        conv => rhs; rw [show i = i - z.length + z.length by omega]
        rw [Nat.add_mod_right]
theorem repE_arr {z r : List Value} {n : Nat} (hz : z.length ≠ 0) (h : repE z n = some r) : (Array.range (n * z.length)).map (fun i => (Array.mk z)[i % (Array.mk z).size]!) = ⟨r⟩ := by
  obtain ⟨h1, h2⟩ := repE_spec h
  apply Array.ext_getElem?
  intro i
  by_cases hi : i < n * z.length
  · have hm : i % z.length < z.length := Nat.mod_lt _ (by omega)
    have := h2 i hi
    simp [Array.getElem?_map, Array.getElem?_range, hi, this]
    rw [List.getElem?_eq_getElem hm]
    simp [hm]
  · simp [Array.getElem?_map, Array.getElem?_range, hi]
    omega

theorem R.buildSlice {e n : Nat} {z z0 cs : List Value} {ps : List (Nat × Operand)} {vs : List (Nat × Value)} {re : TRow} (hn : Nat.blt dd X.n = true) (ht : X.tb.row t = some r) (hk : r.k = .slice e) (he : X.tb.row e = some re) (hz : cellsE re.zero = some z) (hzl : z.length = re.size) (hz0 : Nat.blt 0 re.size = true) (hn0 : Nat.blt 0 n = true) (hbig : Nat.ble (n * re.size) 1000 = true)
    (hr : repE z n = some z0) (hp : evp σ ps = some vs) (hf : fillE (fun i => some (i * re.size, re.size)) z0 vs = some cs)
    (h : ∀ b, R X all rest K ((dd, .slice (some ⟨b, 0, none⟩) n n) :: σ) ((b, .cells ⟨cs⟩ e (0, 0)) :: L)) : R X all (⟨some dd, .buildSlice t n ps.toArray, ty, pos, af, none⟩ :: rest) K σ L :=
  R.value rfl rfl hn fun a w ha hw => by
    refine ⟨.slice (some ⟨w.heap.size, 0, none⟩) n n, w.alloc (.cells ⟨cs⟩ e (0, 0)), _, ?_, hw.alloc _, h _⟩
    have h2 := (X.tb.get ht).is
    rw [hk] at h2
    simp only [TK.is] at h2
    have hz' := cellsE_eq hz
    have hfl := fillE_fill hf
    have hev := evp_eq ha hp
    have h0 : 0 < re.size := blt_lt hz0
    have h0' : 0 < n := blt_lt hn0
    have hb : n * re.size ≤ 1000 := Nat.le_of_ble_eq_true hbig
    have hne : n * re.size ≠ 0 := Nat.mul_ne_zero (by omega) (by omega)
    have hrep := repE_arr (n := n) (by omega) hr
    rw [hzl] at hrep
    simp only [execOp, Instr.buildSlice, Sem.run_bind, run_underlying h2, Result.andThen_ok, (X.tb.get he).size, List.map_toArray, hev]
    rw [if_neg (by omega)]
    simp only [Sem.run_pure, Result.andThen_ok, if_neg hne, Sem.run_bind, (X.tb.get he).zero, hz', hrep, hfl, newRow, run_newObj]
    rfl
end
end Go.Proofs.Ytdfdfohfnjefiaa
