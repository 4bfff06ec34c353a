/- A struct of plain cells that came in. -/
import Derived.Test.YtligpachgcmkcaaEng15
set_option linter.unusedSimpArgs false
set_option linter.unusedVariables false
namespace Go.Proofs.Ytligpachgcmkcaa
open Go.ChangeShapes Go.WideShapes Go.ChangeAt Go.RowKit

theorem open_flat {α : Type} {P : Program} {H : Type} {enc : TypeId × Value → H} {w : World} {base : Nat} {spare : Nat → Bool} {held : Bool} (f : α → List Value) (tb : Tb P) {t : TypeId} {r : TRow} {fs : List (Nat × Nat × Nat)} {ks : List TK} {v : Value} {d : DataW H} {p : List MemPlace} (ht : tb.row t = some r) (hk : r.k = .strct fs) (hf : flatE tb 8 t = some ks) (hl : Nat.beq ks.length r.size = true)
    (dec : ∀ cs, allW ks cs → ∃ a, f a = cs) {rc : Reach} {b0 : Nat} (hv : Value.okWide P w rc b0 t v) (h : DataW.Trod enc P w base spare held t v d p) : ∃ a, v = .agg ⟨f a⟩ ∧ allW ks (f a) := by
  have his := (tb.get ht).is
  rw [hk] at his
  obtain ⟨fields, h1, _⟩ := his
  obtain ⟨cs, rfl, _⟩ := okWide_struct h1 hv
  obtain ⟨fuel, hfu⟩ := h
  have hce : P.cellsOf t = ks.length := by rw [cells_of w (tb.get ht).size, Nat.eq_of_beq_eq_true hl]
  have h3 := trod_flat tb 8 t ks hf hce _ _ _ hfu
  obtain ⟨a, ha⟩ := dec _ h3
  refine ⟨a, ?_, by rw [ha]; exact h3⟩
  rw [ha]
  cases cs
  rfl

set_option linter.unusedSectionVars false
open Go.Shelf Go.Deep

section
variable {H : Type} {enc : TypeId × Value → H} {P : Program} {w : World} {base : Nat} {spare : Nat → Bool} {held : Bool}
/-- What a type's cells may be, once they have been trodden. -/
def Opens (enc : TypeId × Value → H) (P : Program) (w : World) (base : Nat) (spare : Nat → Bool) (held : Bool) (t : TypeId) (Q : List Value → Prop) : Prop := ∀ fuel cs x, DataW.trod enc P w base spare held fuel t cs = some x → Q cs
theorem Opens.flat (tb : Tb P) {t : TypeId} {r : TRow} {ks : List TK} (ht : tb.row t = some r) (hf : flatE tb 8 t = some ks) (hl : Nat.beq ks.length r.size = true) : Opens enc P w base spare held t (allW ks) :=
  fun fuel cs x h => trod_flat tb 8 t ks hf (by rw [cells_of w (tb.get ht).size, Nat.eq_of_beq_eq_true hl]) fuel cs x h
/-- One field of a struct. -/
theorem Opens.field (tb : Tb P) {t ft off sz : Nat} {r : TRow} {fs : List (Nat × Nat × Nat)} {Q : List Value → Prop} (ht : tb.row t = some r) (hk : r.k = .strct fs) (i : Nat) (hi : fldE fs i = some (ft, off, sz)) (hQ : Opens enc P w base spare held ft Q) :
    Opens enc P w base spare held t fun cs => cs.length = r.size ∧ Q ((cs.drop off).take sz) := by
  intro fuel cs x hx
  have his := (tb.get ht).is
  rw [hk] at his
  obtain ⟨fields, h1, h2⟩ := his
  obtain ⟨xs, m, rfl, _, hcl, hxl, hf⟩ := DataW.trod_struct h1 hx
  obtain ⟨f, g1, g2, g3, g4, _⟩ := Flds.get h2 hi
  have g1' : fields[i]? = some f := by rw [← g1]; simp
  have h4 := hf i f g1'
  have hlt : i < xs.length := by rw [hxl]; exact (Array.getElem?_eq_some_iff.1 g1').1
  rw [List.getElem?_eq_getElem hlt, g2, g3, cells_of w g4] at h4
  exact ⟨by rw [hcl, cells_of w (tb.get ht).size], hQ _ _ _ h4⟩
theorem Opens.and {t : TypeId} {Q R : List Value → Prop} (h : Opens enc P w base spare held t Q) (h2 : Opens enc P w base spare held t R) : Opens enc P w base spare held t fun cs => Q cs ∧ R cs := fun f cs x hx => ⟨h f cs x hx, h2 f cs x hx⟩
theorem Opens.mono {t : TypeId} {Q R : List Value → Prop} (h : Opens enc P w base spare held t Q) (h2 : ∀ cs, Q cs → R cs) : Opens enc P w base spare held t R := fun f cs x hx => h2 _ (h f cs x hx)
/-- A slice whose elements open. -/
theorem Opens.slice {α : Type} [Inhabited α] (f : α → List Value) (Q : α → Prop) (tb : Tb P) {t e : TypeId} {r re : TRow} (ht : tb.row t = some r) (hk : r.k = .slice e) (he : tb.row e = some re) (hpos : Nat.ble 1 re.size = true)
    (hlen : ∀ a, (f a).length = re.size) (hE : Opens enc P w base spare held e fun cs => ∃ a, f a = cs ∧ Q a) :
    Opens enc P w base spare held t fun cs => ∃ (a : Option Addr) (rs : List α) (cap : Nat), cs = [.slice a rs.length cap] ∧ RdSl w a f rs ∧ rs.length ≤ cap ∧ cap ≤ maxLen ∧ (∀ x ∈ rs, Q x) ∧ (a = none → cap = 0) := by
  intro fuel cs x hfu
  have hu : P.underlying t = some (.slice e) := by have := (tb.get ht).is; rw [hk] at this; exact this
  have hce : P.cellsOf e = re.size := cells_of w (tb.get he).size
  rcases open_slice hu hfu with ⟨h0, _⟩ | ⟨a, len, cap, m, n, D, Pl, hcs, hb, hlc, hm, hmm, hx, hi⟩
  · exact ⟨none, [], 0, h0, .inl rfl, by simp, by simp, by simp, fun _ => rfl⟩
  · have hle : len ≤ m := by rw [hmm]; split <;> omega
    obtain ⟨R, hR⟩ := choose_lt (α := α) (p := fun i x => w.cells? base (a.add (i * P.cellsOf e)) (P.cellsOf e) = some (f x) ∧ Q x) (n := len) (fun i hi' => by
      obtain ⟨cs', h1, h2⟩ := hi i (by omega)
      obtain ⟨x, hx, hq⟩ := hE _ _ _ h2
      exact ⟨x, by rw [hx]; exact h1, hq⟩)
    have hrl : ((List.range len).map R).length = len := by simp
    refine ⟨some a, (List.range len).map R, cap, by rw [hrl]; exact hcs, ?_, by rw [hrl]; exact hlc, hm, ?_, fun h => by cases h⟩
    · by_cases hz : len = 0
      · left; simp [hz]
      · right
        have hpos' := Nat.le_of_ble_eq_true hpos
        have hspot : a.spot = none := by
          obtain ⟨_, h2, h3⟩ := World.cells?_some (hR 0 (by omega)).1
          have h4 := h3 0 (by omega)
          rw [List.getElem?_eq_getElem (by omega)] at h4
          unfold World.cell? at h4
          cases a with | mk b o s =>
          cases s with
          | none => rfl
          | some s =>
            simp only [Addr.add] at h4
            split at h4
            · simp at h4
            · cases h4
        cases a with | mk b o s =>
        simp only at hspot
        subst hspot
        refine ⟨b, o, rfl, fun k hk' => ?_⟩
        rw [fl_len hlen, hrl] at hk'
        have hdm := Nat.div_add_mod k re.size
        have hml := Nat.mod_lt k (show 0 < re.size by omega)
        have hil : k / re.size < len := by rw [Nat.div_lt_iff_lt_mul (by omega)]; exact hk'
        have hgi : ((List.range len).map R)[k / re.size]? = some (R (k / re.size)) := by simp [hil]
        have h5 := fl_get hlen hgi hml
        rw [show k / re.size * re.size + k % re.size = k by rw [Nat.mul_comm]; exact hdm] at h5
        rw [h5]
        obtain ⟨_, h2, h3⟩ := World.cells?_some (hR _ hil).1
        have h4 := h3 (k % re.size) (by rw [hce]; exact hml)
        rw [Addr.add_none, Addr.add_none, hce] at h4
        rw [← h4, show o + k / re.size * re.size + k % re.size = o + k by rw [Nat.add_assoc, show k / re.size * re.size + k % re.size = k by rw [Nat.mul_comm]; exact hdm]]
    · intro x hx'
      obtain ⟨i, hi', rfl⟩ := List.mem_map.1 hx'
      exact (hR i (List.mem_range.1 hi')).2
/-- An argument that opens. -/
theorem Opens.arg {t : TypeId} {Q : List Value → Prop} (hE : Opens enc P w base spare held t Q) {v : Value} {d : DataW H} {p : List MemPlace} (h : DataW.Trod enc P w base spare held t v d p) : Q v.cells.toList := by
  obtain ⟨fuel, hfu⟩ := h
  exact hE _ _ _ hfu
/-- A slice that came in. -/
theorem Opens.argSl {α : Type} {R : Option Addr → List α → Nat → Prop} (tb : Tb P) {t e : TypeId} {r : TRow} (ht : tb.row t = some r) (hk : r.k = .slice e) {v : Value} {d : DataW H} {p : List MemPlace} {rc : Reach} {b0 : Nat} (hv : Value.okWide P w rc b0 t v)
    (hE : Opens enc P w base spare held t fun cs => ∃ (a : Option Addr) (rs : List α) (cap : Nat), cs = [.slice a rs.length cap] ∧ R a rs cap) (h : DataW.Trod enc P w base spare held t v d p) : ∃ (a : Option Addr) (rs : List α) (cap : Nat), v = .slice a rs.length cap ∧ R a rs cap := by
  have hu : P.underlying t = some (.slice e) := by have := (tb.get ht).is; rw [hk] at this; exact this
  obtain ⟨a0, len0, cap0, rfl⟩ := okWide_slice hu hv
  obtain ⟨a, rs, cap, h1, h2⟩ := hE.arg h
  simp only [Value.cells, List.cons.injEq, Value.slice.injEq, and_true] at h1
  obtain ⟨rfl, rfl, rfl⟩ := h1
  exact ⟨_, _, _, rfl, h2⟩
end
section
variable {H : Type} {enc : TypeId × Value → H} {P : Program} {w : World} {base : Nat} {spare : Nat → Bool} {held : Bool}
/-- An array that came in. -/
theorem Opens.argAr {t n e : Nat} {r : TRow} {Q : List Value → Prop} (tb : Tb P) (ht : tb.row t = some r) (hk : r.k = .arr n e) (hE : Opens enc P w base spare held t Q) {v : Value} {d : DataW H} {p : List MemPlace} {rc : Reach} {b0 : Nat} (hv : Value.okWide P w rc b0 t v) (h : DataW.Trod enc P w base spare held t v d p) : ∃ cs, v = .agg ⟨cs⟩ ∧ Q cs := by
  have his := (tb.get ht).is
  rw [hk] at his
  simp only [TK.is] at his
  simp only [Value.okWide, his] at hv
  obtain ⟨cs, rfl, _⟩ := hv
  exact ⟨cs.toList, rfl, hE.arg h⟩
end
end Go.Proofs.Ytligpachgcmkcaa
