/- Slices of integers: are all as they must be, is one among them, are two alike. -/
import Derived.Test.YtligpachgcmkcaaSl1
set_option linter.unusedSimpArgs false
set_option linter.unusedVariables false
namespace Go.Proofs.Ytligpachgcmkcaa
open Go.RowKit Go.Shelf
set_option maxRecDepth 100000

theorem idxF_ok (p : Option Addr) (n cap : Nat) (xs : List Int) (hn : n = xs.length) (hbig : n ≤ 1000000000) (g : Nat) (hgc : tb.fns.contains g = true) (bad : Int → Bool) (hg : ∀ x, CallP Try.prog g [.int .i64 x] (.bool (bad x))) (w : World) (hp : RdSl w p iV xs) :
    CallW Try.prog 112 [.slice p n cap, .func (.func g) #[] #[]] w fun v _ => ∃ r, v = .int .i64 r ∧ (0 ≤ r ↔ ∃ x ∈ xs, bad x = true) := by
  subst hn
  refine enterW (tb := tb) Try.func112 rfl Try.ntmps112 rfl ?_
  repeat' (first | (apply R.is1; first | (apply R.isCall; (apply R.pure; exact rfl; (apply Ok1.lenS; (iterate 3 exact rfl)))) | (apply R.pure; exact rfl; first | (apply Ok1.move; exact rfl) | (apply Ok1.assign; exact rfl))) | apply R.nil | (apply T.is; first | apply T.seq | apply T.region | apply T.block))
  apply T.loopK (α := Nat) (I := fun i => i ≤ xs.length ∧ ∀ x ∈ xs.take i, bad x = false) (σi := fun i => [(0, .slice p xs.length cap), (1, .func (.func g) #[] #[]), (7, .int .i64 xs.length), (8, .int .i64 i)]) (Li := fun _ => []) (μ := fun i => xs.length - i) (i0 := 0)
  · exact ⟨Nat.zero_le _, by simp⟩
  · exact ⟨rfl, rfl, rfl, rfl, trivial⟩
  · (focus ((repeat' (exact Keep.nil _)); done))
  · intro i ⟨hi, hall⟩
    rcases Nat.lt_or_ge i xs.length with hlt | hge
    · obtain ⟨x, hx⟩ : ∃ x, xs[i]? = some x := ⟨_, List.getElem?_eq_getElem (by omega)⟩
      obtain ⟨b, o, hpe, H⟩ := hp.at hx
      replace H := H 1 iV_len
      have hgx := hg x
      cases hb : bad x with
      | true =>
        rw [hb] at hgx
        repeat' (first | (apply R.is1; first | (apply R.isBin; (apply R.pure; exact rfl; (apply Ok1.lss_t; exact rfl; exact rfl; omega))) | (apply R.isCall; (apply R.callFP (fa := []) (cb := []); exact rfl; exact hgc; exact rfl; exact rfl; exact hgx)) | (apply R.pure; exact rfl; first | (apply Ok1.indexAddrP; (iterate 4 exact rfl); exact hpe; exact rfl; omega; omega) | (apply Ok1.load; exact rfl; apply Ld.row0 H; exact rfl; exact List.not_mem_nil; (iterate 3 exact rfl)) | (apply Ok1.move; exact rfl) | (apply Ok1.assign; exact rfl))) | apply R.nil | (apply T.is; first | apply T.seq | apply T.region | apply T.block | apply T.skip | apply T.ret | (apply T.cond_t; exact rfl)))
        (apply RetOk.t; exact rfl)
        exact ⟨_, rfl, ⟨fun _ => ⟨x, List.mem_of_getElem? hx, hb⟩, fun _ => by omega⟩⟩
      | false =>
        rw [hb] at hgx
        repeat' (first | (apply R.is1; first | (apply R.isBin; (apply R.pure; exact rfl; first | (apply Ok1.add64; exact rfl; exact rfl; omega; omega) | (apply Ok1.lss_t; exact rfl; exact rfl; omega))) | (apply R.isCall; (apply R.callFP (fa := []) (cb := []); exact rfl; exact hgc; exact rfl; exact rfl; exact hgx)) | (apply R.pure; exact rfl; first | (apply Ok1.indexAddrP; (iterate 4 exact rfl); exact hpe; exact rfl; omega; omega) | (apply Ok1.load; exact rfl; apply Ld.row0 H; exact rfl; exact List.not_mem_nil; (iterate 3 exact rfl)) | (apply Ok1.move; exact rfl) | (apply Ok1.assign; exact rfl))) | apply R.nil | (apply T.is; first | apply T.seq | apply T.region | apply T.block | apply T.skip | (apply T.cond_t; exact rfl) | (apply T.cond_f; exact rfl)))
        refine ⟨i + 1, ⟨by omega, ?_⟩, by omega, ⟨rfl, rfl, rfl, rfl, trivial⟩, by (focus ((repeat' (exact Keep.nil _)); done))⟩
        intro y hy
        rw [List.take_add_one, hx, List.mem_append] at hy
        rcases hy with hy | hy
        · exact hall y hy
        · simp only [Option.toList_some, List.mem_singleton] at hy
          rw [hy]; exact hb
    · have him : i = xs.length := by omega
      subst him
      rw [List.take_length] at hall
      repeat' (first | (apply R.is1; first | (apply R.isBin; (apply R.pure; exact rfl; (apply Ok1.lss_f; exact rfl; exact rfl; omega))) | (apply R.pure; exact rfl; (apply Ok1.assign; exact rfl))) | apply R.nil | (apply T.is; first | apply T.seq | apply T.region | apply T.exit | apply T.ret | (apply T.cond_f; exact rfl)))
      (apply RetOk.t; exact rfl)
      refine ⟨_, rfl, ⟨fun h => absurd h (by decide), ?_⟩⟩
      rintro ⟨x, hx, hb⟩
      rw [hall x hx] at hb
      cases hb
theorem conF_ok (p : Option Addr) (n cap : Nat) (xs : List Int) (hn : n = xs.length) (hbig : n ≤ 1000000000) (g : Nat) (hgc : tb.fns.contains g = true) (bad : Int → Bool) (hg : ∀ x, CallP Try.prog g [.int .i64 x] (.bool (bad x))) (w : World) (hp : RdSl w p iV xs) :
    CallW Try.prog 80 [.slice p n cap, .func (.func g) #[] #[]] w fun v _ => v = .bool (xs.any bad) := by
  have h := fun w1 (hc : Chg [] w w1) => idxF_ok p n cap xs hn hbig g hgc bad hg w1 (hp.chg' hc (fun _ => Off.nil _))
  refine enterW (tb := tb) Try.func80 rfl Try.ntmps80 rfl ?_
  repeat' (first | (apply R.is1; first | (apply R.isBin; (apply R.geq rfl rfl rfl <;> intro)) | (apply R.isCall; (apply R.callW (vs := [.slice p n cap, .func (.func g) #[] #[]]); (iterate 3 exact rfl); intro w1 hw1; exact h w1 hw1.chg; rintro v ⟨r, rfl, hr⟩)) | (apply R.pure; exact rfl; first | (apply Ok1.move; exact rfl) | (apply Ok1.assign; exact rfl))) | apply R.nil | (apply T.is; first | apply T.seq | apply T.region | apply T.ret))
  all_goals have hq : 0 ≤ r ↔ xs.any bad = true := hr.trans List.any_eq_true.symm
  all_goals (apply RetOk.t; exact rfl)
  all_goals cases hqq : xs.any bad with
    | true => first | rfl | (have := hq.2 hqq; omega)
    | false => first | rfl | (have h5 := hq.1 ‹0 ≤ r›; rw [hqq] at h5; cases h5)
/-- Serials are as they must be. -/
def SR (xs : List Int) : Prop := ∀ x ∈ xs, 1 ≤ x ∧ x ≤ 65535
instance (xs : List Int) : Decidable (SR xs) := by unfold SR; infer_instance
theorem serials1_ok (x : Int) : CallP Try.prog 81 [.int .i64 x] (.bool (decide (x < 1 ∨ 65535 < x))) := by
  refine enterP (tb := tb) Try.func81 rfl Try.ntmps81 rfl fun w => ?_
  by_cases h1 : x < 1
  · repeat' (first | (apply R.is1; first | (apply R.isBin; (apply R.pure; exact rfl; (apply Ok1.lss_t; exact rfl; exact rfl; omega))) | (apply R.pure; exact rfl; first | (apply Ok1.move; exact rfl) | (apply Ok1.assign; exact rfl) | (apply Ok1.pick_t; exact rfl; exact rfl))) | (apply R.isG; (apply R.guard_not; (iterate 3 exact rfl))) | apply R.nil | (apply T.is; first | apply T.seq | apply T.region | apply T.ret))
    (apply RetOk.t; exact rfl)
    rw [decide_eq_true (.inl h1)]
  · by_cases h2 : 65535 < x
    · repeat' (first | (apply R.is1; first | (apply R.isBin; (apply R.pure; exact rfl; first | (apply Ok1.lss_f; exact rfl; exact rfl; omega) | (apply Ok1.gtr_t; exact rfl; exact rfl; omega))) | (apply R.pure; exact rfl; first | (apply Ok1.move; exact rfl) | (apply Ok1.assign; exact rfl) | (apply Ok1.pick_f; exact rfl; exact rfl))) | (apply R.isG; (apply R.guard_run; exact rfl; exact rfl)) | apply R.nil | (apply T.is; first | apply T.seq | apply T.region | apply T.ret))
      (apply RetOk.t; exact rfl)
      rw [decide_eq_true (.inr h2)]
    · repeat' (first | (apply R.is1; first | (apply R.isBin; (apply R.pure; exact rfl; first | (apply Ok1.lss_f; exact rfl; exact rfl; omega) | (apply Ok1.gtr_f; exact rfl; exact rfl; omega))) | (apply R.pure; exact rfl; first | (apply Ok1.move; exact rfl) | (apply Ok1.assign; exact rfl) | (apply Ok1.pick_f; exact rfl; exact rfl))) | (apply R.isG; (apply R.guard_run; exact rfl; exact rfl)) | apply R.nil | (apply T.is; first | apply T.seq | apply T.region | apply T.ret))
      (apply RetOk.t; exact rfl)
      rw [decide_eq_false (by omega)]
theorem serials_ok (p : Option Addr) (n cap : Nat) (xs : List Int) (hn : n = xs.length) (hbig : n ≤ 1000000000) (w : World) (hp : RdSl w p iV xs) :
    CallW Try.prog 56 [.slice p n cap] w fun v _ => v = .bool (decide (SR xs)) := by
  have h := fun w1 (hc : Chg [] w w1) => conF_ok p n cap xs hn hbig 81 rfl _ serials1_ok w1 (hp.chg' hc (fun _ => Off.nil _))
  have he : (xs.any fun x => decide (x < 1 ∨ 65535 < x)) = !decide (SR xs) := by
    by_cases hs : SR xs
    · rw [decide_eq_true hs]
      cases h4 : xs.any fun x => decide (x < 1 ∨ 65535 < x) with
      | false => rfl
      | true =>
        obtain ⟨x, hx, hb⟩ := List.any_eq_true.1 h4
        have := hs x hx
        have := of_decide_eq_true hb
        omega
    · rw [decide_eq_false hs]
      cases h4 : xs.any fun x => decide (x < 1 ∨ 65535 < x) with
      | true => rfl
      | false =>
        refine absurd (fun x hx => ?_) hs
        have := List.any_eq_false.1 h4 x hx
        simp only [decide_eq_true_eq] at this
        omega
  rw [he] at h
  generalize decide (SR xs) = q at *
  refine enterW (tb := tb) Try.func56 rfl Try.ntmps56 rfl ?_
  cases q
  · repeat' (first | (apply R.is1; first | (apply R.isCall; (apply R.callV (vs := [.slice p n cap, .func (.func 81) #[] #[]]); (iterate 3 exact rfl); intro w1 hw1; exact h w1 hw1.chg)) | (apply R.pure; exact rfl; first | (apply Ok1.move; exact rfl) | (apply Ok1.assign; exact rfl) | (apply Ok1.not_t; exact rfl))) | apply R.nil | (apply T.is; first | apply T.seq | apply T.region | apply T.ret))
    (apply RetOk.t; exact rfl)
    rfl
  · repeat' (first | (apply R.is1; first | (apply R.isCall; (apply R.callV (vs := [.slice p n cap, .func (.func 81) #[] #[]]); (iterate 3 exact rfl); intro w1 hw1; exact h w1 hw1.chg)) | (apply R.pure; exact rfl; first | (apply Ok1.move; exact rfl) | (apply Ok1.assign; exact rfl) | (apply Ok1.not_f; exact rfl))) | apply R.nil | (apply T.is; first | apply T.seq | apply T.region | apply T.ret))
    (apply RetOk.t; exact rfl)
    rfl
end Go.Proofs.Ytligpachgcmkcaa
