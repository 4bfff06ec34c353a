/- What the statements about revocation share: the program's facts; integers, deltas out of cells. -/
import Derived.Test.YtligpachgcmkcaaRg1
import Derived.Test.YtligpachgcmkcaaEng22
set_option linter.unusedSimpArgs false
set_option linter.unusedVariables false
namespace Go.Proofs.Ytligpachgcmkcaa
open Go.ChangeShapes Go.WideShapes Go.ChangeAt Go.RowKit

theorem Try.own : ownKnob Try.prog.godebug = none := by kernel_rfl
theorem Try.laidOut : laidOutB Try.prog = true := by kernel_rfl
section
variable {H : Type} {enc : TypeId × Value → H} {P : Program} {w : World} {base : Nat} {spare : Nat → Bool} {held : Bool}
theorem Opens.arr (tb : Tb P) {t e n : Nat} {r re : TRow} {Q : List Value → Prop} (ht : tb.row t = some r) (hk : r.k = .arr n e) (he : tb.row e = some re) (hQ : Opens enc P w base spare held e Q) :
    Opens enc P w base spare held t fun cs => cs.length = r.size ∧ ∀ i, i < n → Q ((cs.drop (i * re.size)).take re.size) := by
  intro fuel cs x hx
  have his := (tb.get ht).is
  rw [hk] at his
  obtain ⟨xs, m, rfl, _, hcl, hxl, hf⟩ := DataW.trod_array his hx
  refine ⟨by rw [hcl, cells_of w (tb.get ht).size], fun i hi => ?_⟩
  have h4 := hf i hi
  rw [cells_of w (tb.get he).size, List.getElem?_eq_getElem (by omega)] at h4
  exact hQ _ _ _ h4
end
section
variable {H : Type} {enc : TypeId × Value → H} {w : World} {base : Nat} {spare : Nat → Bool} {held : Bool}
theorem i_dec : ∀ cs, allW [.int .i64] cs → ∃ x : Int, iV x = cs := by
  rintro cs h
  match cs, h with
  | [.int k1 a], h =>
    obtain ⟨⟨rfl, _⟩, _⟩ := h
    exact ⟨a, rfl⟩
/-- A slice of integers. -/
def SlOp (w : World) (cs : List Value) : Prop := ∃ z : Pi, cs = [z.w] ∧ RdSl w z.p iV z.xs ∧ z.xs.length ≤ z.cap
theorem sl_opens : Opens enc Try.prog w base spare held 25 (SlOp w) :=
  (Opens.slice iV (fun _ => True) tb rfl rfl rfl rfl (fun _ => rfl) ((Opens.flat (ks := [.int .i64]) tb rfl rfl rfl).mono fun cs h => by obtain ⟨r, hr⟩ := i_dec cs h; exact ⟨r, hr, trivial⟩)).mono fun cs ⟨a, rs, cap, h1, h2, h3, _⟩ => ⟨⟨a, cap, rs⟩, h1, h2, h3⟩
/-- A delta's cells. -/
def DOp (w : World) (cs : List Value) : Prop := ∃ f0 f1 f2 f3 l0 l1 l2 l3, cs = [.int .i64 f0, .int .i64 f1, .int .i64 f2, .int .i64 f3, Pi.w l0, Pi.w l1, Pi.w l2, Pi.w l3] ∧ ∀ z ∈ [l0, l1, l2, l3], RdSl w z.p iV z.xs ∧ z.xs.length ≤ z.cap
theorem i4_dec {c0 c1 c2 c3 : Value} (h : allW [.int .i64, .int .i64, .int .i64, .int .i64] [c0, c1, c2, c3]) : ∃ a b c d : Int, c0 = .int .i64 a ∧ c1 = .int .i64 b ∧ c2 = .int .i64 c ∧ c3 = .int .i64 d := by
  match c0, c1, c2, c3, h with
  | .int k1 a, .int k2 b, .int k3 c, .int k4 d, h =>
    obtain ⟨⟨rfl, _⟩, ⟨rfl, _⟩, ⟨rfl, _⟩, ⟨rfl, _⟩, _⟩ := h
    exact ⟨a, b, c, d, rfl, rfl, rfl, rfl⟩
theorem logs_opens : Opens enc Try.prog w base spare held 30 fun cs => ∃ l0 l1 l2 l3, cs = [Pi.w l0, Pi.w l1, Pi.w l2, Pi.w l3] ∧ ∀ z ∈ [l0, l1, l2, l3], RdSl w z.p iV z.xs ∧ z.xs.length ≤ z.cap := by
  refine (Opens.arr (enc := enc) (w := w) (base := base) (spare := spare) (held := held) tb (t := 30) rfl rfl rfl sl_opens).mono ?_
  rintro cs ⟨hl, h⟩
  match cs, hl with
  | [c0, c1, c2, c3], _ =>
    obtain ⟨z0, e0, r0, q0⟩ := h 0 (by decide)
    obtain ⟨z1, e1, r1, q1⟩ := h 1 (by decide)
    obtain ⟨z2, e2, r2, q2⟩ := h 2 (by decide)
    obtain ⟨z3, e3, r3, q3⟩ := h 3 (by decide)
    cases e0; cases e1; cases e2; cases e3
    refine ⟨z0, z1, z2, z3, rfl, ?_⟩
    intro z hz
    simp only [List.mem_cons, List.not_mem_nil, or_false] at hz
    rcases hz with rfl | rfl | rfl | rfl
    · exact ⟨r0, q0⟩
    · exact ⟨r1, q1⟩
    · exact ⟨r2, q2⟩
    · exact ⟨r3, q3⟩
theorem dl_opens : Opens enc Try.prog w base spare held 32 (DOp w) := by
  have h0 := Opens.field (enc := enc) (w := w) (base := base) (spare := spare) (held := held) tb (t := 32) rfl rfl 0 rfl (Opens.flat (ks := [.int .i64, .int .i64, .int .i64, .int .i64]) tb rfl rfl rfl)
  have h1 := Opens.field (enc := enc) (w := w) (base := base) (spare := spare) (held := held) tb (t := 32) rfl rfl 1 rfl logs_opens
  refine (h0.and h1).mono ?_
  rintro cs ⟨⟨hl, g0⟩, ⟨_, g1⟩⟩
  match cs, hl with
  | [c0, c1, c2, c3, c4, c5, c6, c7], _ =>
    simp only [List.drop_zero, List.drop_succ_cons, List.take_succ_cons, List.take_zero] at g0 g1
    obtain ⟨a, b, c, d, rfl, rfl, rfl, rfl⟩ := i4_dec g0
    obtain ⟨l0, l1, l2, l3, h2, h3⟩ := g1
    simp only [List.cons.injEq, and_true] at h2
    obtain ⟨rfl, rfl, rfl, rfl⟩ := h2
    exact ⟨a, b, c, d, l0, l1, l2, l3, rfl, h3⟩
theorem ract_opens : Opens enc Try.prog w base spare held 34 fun cs => ∃ a : RAct, a.v = cs ∧ a.ok w := by
  have h0 := Opens.field (enc := enc) (w := w) (base := base) (spare := spare) (held := held) tb (t := 34) rfl rfl 0 rfl (Opens.flat (ks := [.int .i64]) tb rfl rfl rfl)
  have h1 := Opens.field (enc := enc) (w := w) (base := base) (spare := spare) (held := held) tb (t := 34) rfl rfl 1 rfl (Opens.flat (ks := [.int .i64]) tb rfl rfl rfl)
  have h2 := Opens.field (enc := enc) (w := w) (base := base) (spare := spare) (held := held) tb (t := 34) rfl rfl 2 rfl sl_opens
  have h3 := Opens.field (enc := enc) (w := w) (base := base) (spare := spare) (held := held) tb (t := 34) rfl rfl 3 rfl dl_opens
  refine (((h0.and h1).and h2).and h3).mono ?_
  rintro cs ⟨⟨⟨⟨hl, g0⟩, ⟨_, g1⟩⟩, ⟨_, g2⟩⟩, ⟨_, g3⟩⟩
  match cs, hl with
  | [c0, c1, c2, c3, c4, c5, c6, c7, c8, c9, c10], _ =>
    simp only [List.drop_zero, List.drop_succ_cons, List.take_succ_cons, List.take_zero] at g0 g1 g2 g3
    obtain ⟨k, hk⟩ := i_dec _ g0
    obtain ⟨n, hn⟩ := i_dec _ g1
    obtain ⟨z, hz, hzr, hzc⟩ := g2
    obtain ⟨f0, f1, f2, f3, l0, l1, l2, l3, he, hall⟩ := g3
    simp only [List.cons.injEq, and_true] at he
    obtain ⟨rfl, rfl, rfl, rfl, rfl, rfl, rfl, rfl⟩ := he
    cases hk; cases hn; cases hz
    refine ⟨⟨k, n, z, f0, f1, f2, f3, l0, l1, l2, l3⟩, rfl, hzr, hzc, ?_, ?_⟩
    · intro x hx
      have : x.2 ∈ [l0, l1, l2, l3] := by simpa [RAct.d] using List.mem_map.2 ⟨x, hx, rfl⟩
      exact (hall _ this).1
    · intro x hx
      have : x.2 ∈ [l0, l1, l2, l3] := by simpa [RAct.d] using List.mem_map.2 ⟨x, hx, rfl⟩
      exact (hall _ this).2
end
open Go.ChangeShapes Go.WideShapes Go.ChangeAt Go.RowKit

section
variable {H : Type} {enc : TypeId × Value → H} {P : Program} {w : World} {base : Nat} {spare : Nat → Bool} {held : Bool}
theorem Opens.argSt {t : TypeId} {r : TRow} {fs : List (Nat × Nat × Nat)} {Q : List Value → Prop} (tb : Tb P) (ht : tb.row t = some r) (hk : r.k = .strct fs) (hE : Opens enc P w base spare held t Q) {v : Value} {d : DataW H} {p : List MemPlace} {rc : Reach} {b0 : Nat} (hv : Value.okWide P w rc b0 t v) (h : DataW.Trod enc P w base spare held t v d p) : ∃ cs, v = .agg ⟨cs⟩ ∧ Q cs := by
  have his := (tb.get ht).is
  rw [hk] at his
  obtain ⟨fields, h1, _⟩ := his
  obtain ⟨cs, rfl, _⟩ := okWide_struct h1 hv
  exact ⟨cs.toList, rfl, hE.arg h⟩
end
theorem v4_dec {cs : List Value} (h : allW [.int .i64, .int .i64, .int .i64, .int .i64] cs) : ∃ a b c d : Int, cs = [.int .i64 a, .int .i64 b, .int .i64 c, .int .i64 d] := by
  match cs, h with
  | [.int k1 a, .int k2 b, .int k3 c, .int k4 d], h =>
    obtain ⟨⟨rfl, _⟩, ⟨rfl, _⟩, ⟨rfl, _⟩, ⟨rfl, _⟩, _⟩ := h
    exact ⟨a, b, c, d, rfl⟩
def V4 (cs : List Value) : Prop := ∃ a b c d : Int, cs = [.int .i64 a, .int .i64 b, .int .i64 c, .int .i64 d]
theorem v4_opens {H : Type} {enc : TypeId × Value → H} {w : World} {base : Nat} {spare : Nat → Bool} {held : Bool} : Opens enc Try.prog w base spare held 27 V4 := (Opens.flat (ks := [.int .i64, .int .i64, .int .i64, .int .i64]) tb rfl rfl rfl).mono fun cs h => v4_dec h
end Go.Proofs.Ytligpachgcmkcaa
