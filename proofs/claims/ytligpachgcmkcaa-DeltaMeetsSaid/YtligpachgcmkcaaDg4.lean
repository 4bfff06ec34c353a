/- The digest: all whole blocks; the words' bytes; slices cloned, joined. -/
import Derived.Test.YtligpachgcmkcaaDg3
set_option linter.unusedSimpArgs false
set_option linter.unusedVariables false
namespace Go.Proofs.Ytligpachgcmkcaa
open Go.RowKit Go.Shelf
set_option maxRecDepth 100000

theorem u8s_app (a b : List Int) : u8s (a ++ b) = u8s a ++ u8s b := by simp [u8s]
theorem u8s_len (a : List Int) : (u8s a).length = a.length := by simp [u8s]
theorem u8s_one (a : List Int) : (u8s a).all Value.oneCell' = true := by rw [List.all_eq_true]; intro x hx; obtain ⟨y, _, rfl⟩ := List.mem_map.1 hx; rfl
theorem Byt.app {a b : List Int} (h1 : Byt a) (h2 : Byt b) : Byt (a ++ b) := fun x hx => by rcases List.mem_append.1 hx with h | h; exact h1 x h; exact h2 x h
theorem Byt.drop {a : List Int} (h : Byt a) (i : Nat) : Byt (a.drop i) := fun x hx => h x (List.mem_of_mem_drop hx)
theorem Byt.take {a : List Int} (h : Byt a) (i : Nat) : Byt (a.take i) := fun x hx => h x (List.mem_of_mem_take hx)
/-- p' reads as p does, from k on. -/
structure Sfx (p p' : Option Addr) (n k : Nat) : Prop where
  rd : ∀ (W : World) (xs : List Int), xs.length = n → RdSl W p u8V xs → RdSl W p' u8V (xs.drop k)
  off : ∀ S, Off p S → Off p' S
theorem Sfx.refl (p : Option Addr) (n : Nat) : Sfx p p n 0 := ⟨fun W xs _ h => h, fun _ h => h⟩
theorem Sfx.suf {p p' : Option Addr} {n k c i : Nat} (h : Sfx p p' n k) (h1 : k + i ≤ n) (h2 : n - k ≤ c) : Sfx p (sufP p' c i 1) n (k + i) :=
  ⟨fun W xs hl hp => by
    have := (h.rd W xs hl hp).suf u8V_len (cap := c) (i := i) (by rw [List.length_drop]; omega) (by rw [List.length_drop]; omega)
    rwa [List.drop_drop] at this, fun S ho => (h.off S ho).suf _ _ _⟩
theorem allI_step (b : List Int) (s : H8) {i : Nat} (h : 64 * i + 64 ≤ b.length) : allI kI (i + 1) b s = mixI kI ((b.drop (64 * i)).take 64) (allI kI i b s) := by
  induction i generalizing b s with
  | zero => rfl
  | succ i ih =>
    rw [allI, ih (b.drop 64) (mixI kI (b.take 64) s) (by rw [List.length_drop]; omega), List.drop_drop, show 64 + 64 * i = 64 * (i + 1) by omega]
    rfl
theorem all_ok (r : Nat) (s : H8) (rest : List Value) (e : TypeId) (p : Option Addr) (n cap : Nat) (b : List Int) (hn : n = b.length) (hcap : n ≤ cap) (hbig : n ≤ 1073741824) (hb : Byt b) (w : World) (hp : RdSl w p u8V b) (hoff : Off p [r]) :
    CallM Try.prog 88 [.pointer (some ⟨r, 0, none⟩), .slice p n cap] [(r, .cells ⟨s.v ++ rest⟩ e (0, 0))] w fun v L => ∃ p' cap', v = .slice p' (n - 64 * (n / 64)) cap' ∧ n - 64 * (n / 64) ≤ cap' ∧ Sfx p p' n (64 * (n / 64)) ∧ L = [(r, .cells ⟨(allI kI (n / 64) b s).v ++ rest⟩ e (0, 0))] := by
  refine enterK (tb := tb) Try.func88 rfl Try.ntmps88 rfl ?_
  repeat' (first | (apply R.is1; (apply R.pure; exact rfl; (apply Ok1.assign; exact rfl))) | apply R.nil | (apply T.is; first | apply T.seq | apply T.region | apply T.block))
  apply T.loopK (α := Nat × Option Addr × Nat) (I := fun x => 64 * x.1 ≤ n ∧ n - 64 * x.1 ≤ x.2.2 ∧ Sfx p x.2.1 n (64 * x.1)) (σi := fun x => [(0, .pointer (some ⟨r, 0, none⟩)), (1, .slice x.2.1 (n - 64 * x.1) x.2.2)]) (Li := fun x => [(r, .cells ⟨(allI kI x.1 b s).v ++ rest⟩ e (0, 0))]) (μ := fun x => n - 64 * x.1) (i0 := (0, p, cap))
  · exact ⟨by omega, by simpa using hcap, Sfx.refl p n⟩
  · exact ⟨rfl, rfl, trivial⟩
  · (focus ((repeat' (first | exact Keep.nil _ | exact Ext.one _ _ | apply Keep.cons)); done))
  · rintro ⟨i, p1, c1⟩ ⟨hi, hc, hs⟩
    simp only at hi hc hs ⊢
    by_cases hlt : 64 * i + 64 ≤ n
    · have hst := allI_step b s (i := i) (by omega)
      have hmix : ∀ w1, Chg [r] w w1 → CallM Try.prog 115 [.pointer (some ⟨r, 0, none⟩), .slice p1 64 c1] [(r, .cells ⟨(allI kI i b s).v ++ rest⟩ e (0, 0))] w1 fun v L => v = .tuple #[] ∧ L = [(r, .cells ⟨(allI kI (i + 1) b s).v ++ rest⟩ e (0, 0))] := by
        intro w1 hch
        rw [hst]
        have hrd := (hs.rd w1 b hn.symm (hp.chg hch hoff)).pre u8V_len 64
        exact mix_ok r _ rest e p1 64 c1 ((b.drop (64 * i)).take 64) (by rw [List.length_take, List.length_drop]; omega) (by rw [List.length_take, List.length_drop]; omega) (by omega) ((hb.drop _).take _) w1 hrd (hs.off _ hoff)
      have hnew : Sfx p (sufP p1 c1 64 1) n (64 * i + 64) := hs.suf (by omega) (by omega)
      repeat' (first | (apply R.is1; first | (apply R.isBin; (apply R.pure; exact rfl; (apply Ok1.geq_t; exact rfl; exact rfl; omega))) | (apply R.isCall; first | (apply R.callE; (iterate 3 exact rfl); exact Ext.all _; intro w1 hw1; exact hmix w1 hw1.chg; rintro v Lo ⟨rfl, rfl⟩) | (apply R.pure; exact rfl; (apply Ok1.lenS; (iterate 3 exact rfl)))) | (apply R.pure; exact rfl; first | (apply Ok1.preR (i := 64); (iterate 5 exact rfl); omega) | (apply Ok1.sufR (i := 64) (sz := 1); (iterate 6 exact rfl); omega; omega) | (apply Ok1.move; exact rfl) | (apply Ok1.assign; exact rfl))) | apply R.nil | (apply T.is; first | apply T.seq | apply T.region | apply T.block | apply T.skip | (apply T.cond_t; exact rfl)))
      refine ⟨(i + 1, sufP p1 c1 64 1, c1 - 64), ⟨by simp only; omega, by simp only; omega, hnew⟩, by simp only; omega, ⟨rfl, ?_, trivial⟩, by (focus ((repeat' (first | exact Keep.nil _ | exact Ext.one _ _ | apply Keep.cons)); done))⟩
      rw [show n - 64 * (i + 1) = n - 64 * i - 64 by omega]
      rfl
    · have hdiv : n / 64 = i := by omega
      repeat' (first | (apply R.is1; first | (apply R.isBin; (apply R.pure; exact rfl; (apply Ok1.geq_f; exact rfl; exact rfl; omega))) | (apply R.isCall; (apply R.pure; exact rfl; (apply Ok1.lenS; (iterate 3 exact rfl)))) | (apply R.pure; exact rfl; first | (apply Ok1.move; exact rfl) | (apply Ok1.assign; exact rfl))) | apply R.nil | (apply T.is; first | apply T.seq | apply T.region | apply T.exit | apply T.ret | (apply T.cond_f; exact rfl)))
      (apply RetOk.t; exact rfl)
      refine ⟨_, ?_, p1, c1, by rw [hdiv], by rw [hdiv]; exact hc, by rw [hdiv]; exact hs, rfl⟩
      rw [hdiv]
      (focus ((repeat' (first | exact Keep.nil _ | exact Ext.one _ _ | apply Keep.cons)); done))
end Go.Proofs.Ytligpachgcmkcaa
