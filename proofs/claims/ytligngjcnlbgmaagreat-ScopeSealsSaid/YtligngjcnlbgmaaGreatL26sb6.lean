/- Texts of the proof: Sp3b, Sc8, Eng29, Sp5, Lsn, Sp1, Sp6, Ss1, Ss2, Ss3, Ss4, Rf6. -/
import Derived.Test.YtligngjcnlbgmaaGreatL26sb5
set_option linter.unusedSimpArgs false
set_option linter.unusedVariables false
namespace Go.Proofs.YtligngjcnlbgmaaGreat
open Go.RowKit Go.Shelf
set_option maxRecDepth 100000
theorem samesealed_ok (p1 p2 : Option Addr) (n1 n2 c1 c2 : Nat) (qs bs : List NT) (hn1 : n1 = qs.length) (hn2 : n2 = bs.length) (hl : qs.length ≤ 100) (hxl : ∀ x ∈ qs, x.xs.length ≤ 1000) (w : World) (h1 : RdSl w p1 NT.v qs) (h2 : RdSl w p2 NT.v bs) (h3 : ∀ x ∈ qs, RdSl w x.p u8V x.xs) (h4 : ∀ x ∈ bs, RdSl w x.p u8V x.xs) : CallW Tryz.prog 14 [.slice p1 n1 c1, .slice p2 n2 c2] w fun v _ => v = .bool (decide (qs.map NT.say = bs.map NT.say)) := by
  subst hn1 hn2
  refine enterW (tb := tb) Tryz.func14 rfl Tryz.ntmps14 rfl ?_
  by_cases hll : qs.length = bs.length
  case neg =>
    have h9 : ((qs.length : Nat) : Int) ≠ bs.length := by omega
    repeat' (first | (apply R.is1; first | (apply R.isBin; (apply R.pure; exact rfl; (apply Ok1.neq_t; exact rfl; exact rfl; omega))) | (apply R.isCall; (apply R.pure; exact rfl; (apply Ok1.lenS; (iterate 3 exact rfl)))) | (apply R.pure; exact rfl; first | (apply Ok1.move; exact rfl) | (apply Ok1.assign; exact rfl))) | apply R.nil | (apply T.is; first | apply T.seq | apply T.region | apply T.ret | (apply T.cond_t; exact rfl)))
    (apply RetOk.t; exact rfl)
    rw [decide_eq_false]
    intro h
    have := congrArg List.length h
    rw [List.length_map, List.length_map] at this
    exact hll this
  have h9 : ((qs.length : Nat) : Int) = bs.length := by omega
  repeat' (first | (apply R.is1; first | (apply R.isBin; (apply R.pure; exact rfl; (apply Ok1.neq_f; exact rfl; exact rfl; omega))) | (apply R.isCall; (apply R.pure; exact rfl; (apply Ok1.lenS; (iterate 3 exact rfl)))) | (apply R.pure; exact rfl; first | (apply Ok1.move; exact rfl) | (apply Ok1.assign; exact rfl))) | apply R.nil | (apply T.is; first | apply T.seq | apply T.region | apply T.block | apply T.skip | (apply T.cond_f; exact rfl)))
  apply T.loopK (α := Nat) (I := fun i => i ≤ qs.length ∧ (qs.map NT.say).take i = (bs.map NT.say).take i) (σi := fun i => [(0, .slice p1 qs.length c1), (1, .slice p2 bs.length c2), (5, .int .i64 i)]) (Li := fun _ => []) (μ := fun i => qs.length - i) (i0 := 0)
  · exact ⟨by omega, by simp⟩
  · exact ⟨rfl, rfl, rfl, trivial⟩
  · exact Keep.nil _
  · rintro i ⟨hi, hsame⟩
    rcases Nat.lt_or_ge i qs.length with hlt | hge
    · obtain ⟨x, hx⟩ : ∃ r, qs[i]? = some r := ⟨_, List.getElem?_eq_getElem (by omega)⟩
      obtain ⟨y, hy⟩ : ∃ s, bs[i]? = some s := ⟨_, List.getElem?_eq_getElem (by omega)⟩
      obtain ⟨b, o, hpe, H⟩ := h1.at hx
      replace H := H 4 NT.v_len
      obtain ⟨b', o', hpe', H'⟩ := h2.at hy
      replace H' := H' 4 NT.v_len
      have hsm := fun w1 (hc : Chg [] w w1) => same_ok x.p y.p x.xs.length y.xs.length x.cap y.cap x.xs y.xs rfl rfl (by have := hxl x (List.mem_of_getElem? hx); omega) w1 ((h3 x (List.mem_of_getElem? hx)).chg' hc (fun _ => Off.nil _)) ((h4 y (List.mem_of_getElem? hy)).chg' hc (fun _ => Off.nil _))
      have hfalse : NT.say x ≠ NT.say y → (.bool false : Value) = .bool (decide (qs.map NT.say = bs.map NT.say)) := by
        intro hne
        rw [decide_eq_false]
        intro he
        have g1 : (qs.map NT.say)[i]? = some x.say := by rw [List.getElem?_map, hx]; rfl
        have g2 : (bs.map NT.say)[i]? = some y.say := by rw [List.getElem?_map, hy]; rfl
        rw [he, g2] at g1
        exact hne (Option.some.inj g1).symm
      obtain ⟨q, hq⟩ : ∃ q : Bool, q = decide (x.xs = y.xs) := ⟨_, rfl⟩
      rw [← hq] at hsm
      have key : (x.say ≠ y.say ∧ x.o ≠ y.o) ∨ (x.say ≠ y.say ∧ x.o = y.o ∧ x.r ≠ y.r) ∨ (x.say ≠ y.say ∧ x.o = y.o ∧ x.r = y.r ∧ x.ver ≠ y.ver) ∨ (x.say ≠ y.say ∧ x.o = y.o ∧ x.r = y.r ∧ x.ver = y.ver ∧ q = false) ∨ (x.say = y.say ∧ x.o = y.o ∧ x.r = y.r ∧ x.ver = y.ver ∧ q = true) := by
        by_cases e1 : x.o = y.o
        case neg => exact .inl ⟨fun h => e1 (congrArg (fun z => z.1) h), e1⟩
        by_cases e2 : x.r = y.r
        case neg => exact .inr (.inl ⟨fun h => e2 (congrArg (fun z => z.2.1) h), e1, e2⟩)
        by_cases e3 : x.ver = y.ver
        case neg => exact .inr (.inr (.inl ⟨fun h => e3 (congrArg (fun z => z.2.2.1) h), e1, e2, e3⟩))
        by_cases e4 : x.xs = y.xs
        case neg => exact .inr (.inr (.inr (.inl ⟨fun h => e4 (congrArg (fun z => z.2.2.2) h), e1, e2, e3, by rw [hq]; exact decide_eq_false e4⟩)))
        exact .inr (.inr (.inr (.inr ⟨by simp only [NT.say, e1, e2, e3, e4], e1, e2, e3, by rw [hq]; exact decide_eq_true e4⟩)))
      clear hq
      rcases key with ⟨hne, e1⟩ | ⟨hne, e1, e2⟩ | ⟨hne, e1, e2, e3⟩ | ⟨hne, e1, e2, e3, rfl⟩ | ⟨hne, e1, e2, e3, rfl⟩
      all_goals repeat' (first | (apply R.is1; first | (apply R.isBin; (apply R.pure; exact rfl; first | (apply Ok1.add64; exact rfl; exact rfl; omega; omega) | (apply Ok1.lss_t; exact rfl; exact rfl; omega))) | (apply R.isCall; (apply R.pure; exact rfl; (apply Ok1.lenS; (iterate 3 exact rfl)))) | (apply R.pure; exact rfl; first | (apply Ok1.move; exact rfl) | (apply Ok1.assign; exact rfl))) | apply R.nil | (apply T.is; first | (apply T.drawC (id := 6) [] (by decide); (((apply A.take 0; exact rfl; exact rfl; kernel_rfl; kernel_rfl; kernel_rfl; (apply Ok1.move; exact rfl)); refine A.cast (listed' := #[true, false, false, false, false, false, false, false, false, false, false, false, false, false, false, false, false, false, false, false, false, false, false, false, false, false, false, false, false, false, false, false, false, false, false, false, false, false, false, false, false, false, false, false, false, false, false, false, false, false, false]) (by kernel_rfl) ?_) <;> ((apply A.take 1; exact rfl; exact rfl; kernel_rfl; kernel_rfl; kernel_rfl; (apply Ok1.move; exact rfl)); refine A.cast (listed' := #[true, true, false, false, false, false, false, false, false, false, false, false, false, false, false, false, false, false, false, false, false, false, false, false, false, false, false, false, false, false, false, false, false, false, false, false, false, false, false, false, false, false, false, false, false, false, false, false, false, false, false]) (by kernel_rfl) ?_) <;> ((apply A.take 2; exact rfl; exact rfl; kernel_rfl; kernel_rfl; kernel_rfl; (apply Ok1.indexAddrP; (iterate 4 exact rfl); (exact hpe); exact rfl; omega; omega)); refine A.cast (listed' := #[true, true, true, false, false, false, false, false, false, false, false, false, false, false, false, false, false, false, false, false, false, false, false, false, false, false, false, false, false, false, false, false, false, false, false, false, false, false, false, false, false, false, false, false, false, false, false, false, false, false, false]) (by kernel_rfl) ?_) <;> ((apply A.take 3; exact rfl; exact rfl; kernel_rfl; kernel_rfl; kernel_rfl; (apply Ok1.fieldAddr; (iterate 5 exact rfl))); refine A.cast (listed' := #[true, true, true, true, false, false, false, false, false, false, false, false, false, false, false, false, false, false, false, false, false, false, false, false, false, false, false, false, false, false, false, false, false, false, false, false, false, false, false, false, false, false, false, false, false, false, false, false, false, false, false]) (by kernel_rfl) ?_) <;> ((apply A.take 4; exact rfl; exact rfl; kernel_rfl; kernel_rfl; kernel_rfl; (apply Ok1.load; exact rfl; (apply Ld.row0 H; exact rfl; exact List.not_mem_nil; (iterate 3 exact rfl)))); refine A.cast (listed' := #[true, true, true, true, true, false, false, false, false, false, false, false, false, false, false, false, false, false, false, false, false, false, false, false, false, false, false, false, false, false, false, false, false, false, false, false, false, false, false, false, false, false, false, false, false, false, false, false, false, false, false]) (by kernel_rfl) ?_) <;> ((apply A.take 5; exact rfl; exact rfl; kernel_rfl; kernel_rfl; kernel_rfl; (apply Ok1.move; exact rfl)); refine A.cast (listed' := #[true, true, true, true, true, true, false, false, false, false, false, false, false, false, false, false, false, false, false, false, false, false, false, false, false, false, false, false, false, false, false, false, false, false, false, false, false, false, false, false, false, false, false, false, false, false, false, false, false, false, false]) (by kernel_rfl) ?_) <;> ((apply A.take 6; exact rfl; exact rfl; kernel_rfl; kernel_rfl; kernel_rfl; (apply Ok1.move; exact rfl)); refine A.cast (listed' := #[true, true, true, true, true, true, true, false, false, false, false, false, false, false, false, false, false, false, false, false, false, false, false, false, false, false, false, false, false, false, false, false, false, false, false, false, false, false, false, false, false, false, false, false, false, false, false, false, false, false, false]) (by kernel_rfl) ?_) <;> ((apply A.take 7; exact rfl; exact rfl; kernel_rfl; kernel_rfl; kernel_rfl; (apply Ok1.indexAddrP; (iterate 4 exact rfl); (exact hpe'); exact rfl; omega; omega)); refine A.cast (listed' := #[true, true, true, true, true, true, true, true, false, false, false, false, false, false, false, false, false, false, false, false, false, false, false, false, false, false, false, false, false, false, false, false, false, false, false, false, false, false, false, false, false, false, false, false, false, false, false, false, false, false, false]) (by kernel_rfl) ?_) <;> ((apply A.take 8; exact rfl; exact rfl; kernel_rfl; kernel_rfl; kernel_rfl; (apply Ok1.fieldAddr; (iterate 5 exact rfl))); refine A.cast (listed' := #[true, true, true, true, true, true, true, true, true, false, false, false, false, false, false, false, false, false, false, false, false, false, false, false, false, false, false, false, false, false, false, false, false, false, false, false, false, false, false, false, false, false, false, false, false, false, false, false, false, false, false]) (by kernel_rfl) ?_) <;> ((apply A.take 9; exact rfl; exact rfl; kernel_rfl; kernel_rfl; kernel_rfl; (apply Ok1.load; exact rfl; (apply Ld.row0 H'; exact rfl; exact List.not_mem_nil; (iterate 3 exact rfl)))); refine A.cast (listed' := #[true, true, true, true, true, true, true, true, true, true, false, false, false, false, false, false, false, false, false, false, false, false, false, false, false, false, false, false, false, false, false, false, false, false, false, false, false, false, false, false, false, false, false, false, false, false, false, false, false, false, false]) (by kernel_rfl) ?_) <;> (((apply A.take 10; exact rfl; exact rfl; kernel_rfl; kernel_rfl; kernel_rfl; first | (apply Ok1.neq_t; exact rfl; exact rfl; omega) | (apply Ok1.neq_f; exact rfl; exact rfl; omega))); refine A.cast (listed' := #[true, true, true, true, true, true, true, true, true, true, true, false, false, false, false, false, false, false, false, false, false, false, false, false, false, false, false, false, false, false, false, false, false, false, false, false, false, false, false, false, false, false, false, false, false, false, false, false, false, false, false]) (by kernel_rfl) ?_) <;> ((apply A.take 11; exact rfl; exact rfl; kernel_rfl; kernel_rfl; kernel_rfl; (apply Ok1.move; exact rfl)); refine A.cast (listed' := #[true, true, true, true, true, true, true, true, true, true, true, true, false, false, false, false, false, false, false, false, false, false, false, false, false, false, false, false, false, false, false, false, false, false, false, false, false, false, false, false, false, false, false, false, false, false, false, false, false, false, false]) (by kernel_rfl) ?_) <;> ((first | (apply A.skipG 12; exact rfl; exact rfl; rotate_left 3; exact rfl; exact rfl; rotate_right 3; kernel_rfl; kernel_rfl; kernel_rfl) | (apply A.takeG 12; exact rfl; exact rfl; rotate_left 3; exact rfl; exact rfl; rotate_right 3; kernel_rfl; kernel_rfl; kernel_rfl; (apply Ok1.move; exact rfl))); refine A.cast (listed' := #[true, true, true, true, true, true, true, true, true, true, true, true, true, false, false, false, false, false, false, false, false, false, false, false, false, false, false, false, false, false, false, false, false, false, false, false, false, false, false, false, false, false, false, false, false, false, false, false, false, false, false]) (by kernel_rfl) ?_) <;> ((first | (apply A.skipG 13; exact rfl; exact rfl; rotate_left 3; exact rfl; exact rfl; rotate_right 3; kernel_rfl; kernel_rfl; kernel_rfl) | (apply A.takeG 13; exact rfl; exact rfl; rotate_left 3; exact rfl; exact rfl; rotate_right 3; kernel_rfl; kernel_rfl; kernel_rfl; (apply Ok1.move; exact rfl))); refine A.cast (listed' := #[true, true, true, true, true, true, true, true, true, true, true, true, true, true, false, false, false, false, false, false, false, false, false, false, false, false, false, false, false, false, false, false, false, false, false, false, false, false, false, false, false, false, false, false, false, false, false, false, false, false, false]) (by kernel_rfl) ?_) <;> ((first | (apply A.skipG 14; exact rfl; exact rfl; rotate_left 3; exact rfl; exact rfl; rotate_right 3; kernel_rfl; kernel_rfl; kernel_rfl) | (apply A.takeG 14; exact rfl; exact rfl; rotate_left 3; exact rfl; exact rfl; rotate_right 3; kernel_rfl; kernel_rfl; kernel_rfl; (apply Ok1.indexAddrP; (iterate 4 exact rfl); (exact hpe); exact rfl; omega; omega))); refine A.cast (listed' := #[true, true, true, true, true, true, true, true, true, true, true, true, true, true, true, false, false, false, false, false, false, false, false, false, false, false, false, false, false, false, false, false, false, false, false, false, false, false, false, false, false, false, false, false, false, false, false, false, false, false, false]) (by kernel_rfl) ?_) <;> ((first | (apply A.skipG 15; exact rfl; exact rfl; rotate_left 3; exact rfl; exact rfl; rotate_right 3; kernel_rfl; kernel_rfl; kernel_rfl) | (apply A.takeG 15; exact rfl; exact rfl; rotate_left 3; exact rfl; exact rfl; rotate_right 3; kernel_rfl; kernel_rfl; kernel_rfl; (apply Ok1.fieldAddr; (iterate 5 exact rfl)))); refine A.cast (listed' := #[true, true, true, true, true, true, true, true, true, true, true, true, true, true, true, true, false, false, false, false, false, false, false, false, false, false, false, false, false, false, false, false, false, false, false, false, false, false, false, false, false, false, false, false, false, false, false, false, false, false, false]) (by kernel_rfl) ?_) <;> ((first | (apply A.skipG 16; exact rfl; exact rfl; rotate_left 3; exact rfl; exact rfl; rotate_right 3; kernel_rfl; kernel_rfl; kernel_rfl) | (apply A.takeG 16; exact rfl; exact rfl; rotate_left 3; exact rfl; exact rfl; rotate_right 3; kernel_rfl; kernel_rfl; kernel_rfl; (apply Ok1.load; exact rfl; (apply Ld.row1 H; exact rfl; exact List.not_mem_nil; (iterate 3 exact rfl))))); refine A.cast (listed' := #[true, true, true, true, true, true, true, true, true, true, true, true, true, true, true, true, true, false, false, false, false, false, false, false, false, false, false, false, false, false, false, false, false, false, false, false, false, false, false, false, false, false, false, false, false, false, false, false, false, false, false]) (by kernel_rfl) ?_) <;> ((first | (apply A.skipG 17; exact rfl; exact rfl; rotate_left 3; exact rfl; exact rfl; rotate_right 3; kernel_rfl; kernel_rfl; kernel_rfl) | (apply A.takeG 17; exact rfl; exact rfl; rotate_left 3; exact rfl; exact rfl; rotate_right 3; kernel_rfl; kernel_rfl; kernel_rfl; (apply Ok1.move; exact rfl))); refine A.cast (listed' := #[true, true, true, true, true, true, true, true, true, true, true, true, true, true, true, true, true, true, false, false, false, false, false, false, false, false, false, false, false, false, false, false, false, false, false, false, false, false, false, false, false, false, false, false, false, false, false, false, false, false, false]) (by kernel_rfl) ?_) <;> ((first | (apply A.skipG 18; exact rfl; exact rfl; rotate_left 3; exact rfl; exact rfl; rotate_right 3; kernel_rfl; kernel_rfl; kernel_rfl) | (apply A.takeG 18; exact rfl; exact rfl; rotate_left 3; exact rfl; exact rfl; rotate_right 3; kernel_rfl; kernel_rfl; kernel_rfl; (apply Ok1.move; exact rfl))); refine A.cast (listed' := #[true, true, true, true, true, true, true, true, true, true, true, true, true, true, true, true, true, true, true, false, false, false, false, false, false, false, false, false, false, false, false, false, false, false, false, false, false, false, false, false, false, false, false, false, false, false, false, false, false, false, false]) (by kernel_rfl) ?_) <;> ((first | (apply A.skipG 19; exact rfl; exact rfl; rotate_left 3; exact rfl; exact rfl; rotate_right 3; kernel_rfl; kernel_rfl; kernel_rfl) | (apply A.takeG 19; exact rfl; exact rfl; rotate_left 3; exact rfl; exact rfl; rotate_right 3; kernel_rfl; kernel_rfl; kernel_rfl; (apply Ok1.indexAddrP; (iterate 4 exact rfl); (exact hpe'); exact rfl; omega; omega))); refine A.cast (listed' := #[true, true, true, true, true, true, true, true, true, true, true, true, true, true, true, true, true, true, true, true, false, false, false, false, false, false, false, false, false, false, false, false, false, false, false, false, false, false, false, false, false, false, false, false, false, false, false, false, false, false, false]) (by kernel_rfl) ?_) <;> ((first | (apply A.skipG 20; exact rfl; exact rfl; rotate_left 3; exact rfl; exact rfl; rotate_right 3; kernel_rfl; kernel_rfl; kernel_rfl) | (apply A.takeG 20; exact rfl; exact rfl; rotate_left 3; exact rfl; exact rfl; rotate_right 3; kernel_rfl; kernel_rfl; kernel_rfl; (apply Ok1.fieldAddr; (iterate 5 exact rfl)))); refine A.cast (listed' := #[true, true, true, true, true, true, true, true, true, true, true, true, true, true, true, true, true, true, true, true, true, false, false, false, false, false, false, false, false, false, false, false, false, false, false, false, false, false, false, false, false, false, false, false, false, false, false, false, false, false, false]) (by kernel_rfl) ?_) <;> ((first | (apply A.skipG 21; exact rfl; exact rfl; rotate_left 3; exact rfl; exact rfl; rotate_right 3; kernel_rfl; kernel_rfl; kernel_rfl) | (apply A.takeG 21; exact rfl; exact rfl; rotate_left 3; exact rfl; exact rfl; rotate_right 3; kernel_rfl; kernel_rfl; kernel_rfl; (apply Ok1.load; exact rfl; (apply Ld.row1 H'; exact rfl; exact List.not_mem_nil; (iterate 3 exact rfl))))); refine A.cast (listed' := #[true, true, true, true, true, true, true, true, true, true, true, true, true, true, true, true, true, true, true, true, true, true, false, false, false, false, false, false, false, false, false, false, false, false, false, false, false, false, false, false, false, false, false, false, false, false, false, false, false, false, false]) (by kernel_rfl) ?_) <;> ((first | (apply A.skipG 22; exact rfl; exact rfl; rotate_left 3; exact rfl; exact rfl; rotate_right 3; kernel_rfl; kernel_rfl; kernel_rfl) | (apply A.takeG 22; exact rfl; exact rfl; rotate_left 3; exact rfl; exact rfl; rotate_right 3; kernel_rfl; kernel_rfl; kernel_rfl; first | (apply Ok1.neq_t; exact rfl; exact rfl; omega) | (apply Ok1.neq_f; exact rfl; exact rfl; omega))); refine A.cast (listed' := #[true, true, true, true, true, true, true, true, true, true, true, true, true, true, true, true, true, true, true, true, true, true, true, false, false, false, false, false, false, false, false, false, false, false, false, false, false, false, false, false, false, false, false, false, false, false, false, false, false, false, false]) (by kernel_rfl) ?_) <;> ((apply A.take 23; exact rfl; exact rfl; kernel_rfl; kernel_rfl; kernel_rfl; first | (apply Ok1.pick_t; exact rfl; exact rfl) | (apply Ok1.pick_f; exact rfl; exact rfl)); refine A.cast (listed' := #[true, true, true, true, true, true, true, true, true, true, true, true, true, true, true, true, true, true, true, true, true, true, true, true, false, false, false, false, false, false, false, false, false, false, false, false, false, false, false, false, false, false, false, false, false, false, false, false, false, false, false]) (by kernel_rfl) ?_) <;> ((apply A.take 24; exact rfl; exact rfl; kernel_rfl; kernel_rfl; kernel_rfl; (apply Ok1.move; exact rfl)); refine A.cast (listed' := #[true, true, true, true, true, true, true, true, true, true, true, true, true, true, true, true, true, true, true, true, true, true, true, true, true, false, false, false, false, false, false, false, false, false, false, false, false, false, false, false, false, false, false, false, false, false, false, false, false, false, false]) (by kernel_rfl) ?_) <;> ((first | (apply A.skipG 25; exact rfl; exact rfl; rotate_left 3; exact rfl; exact rfl; rotate_right 3; kernel_rfl; kernel_rfl; kernel_rfl) | (apply A.takeG 25; exact rfl; exact rfl; rotate_left 3; exact rfl; exact rfl; rotate_right 3; kernel_rfl; kernel_rfl; kernel_rfl; (apply Ok1.move; exact rfl))); refine A.cast (listed' := #[true, true, true, true, true, true, true, true, true, true, true, true, true, true, true, true, true, true, true, true, true, true, true, true, true, true, false, false, false, false, false, false, false, false, false, false, false, false, false, false, false, false, false, false, false, false, false, false, false, false, false]) (by kernel_rfl) ?_) <;> ((first | (apply A.skipG 26; exact rfl; exact rfl; rotate_left 3; exact rfl; exact rfl; rotate_right 3; kernel_rfl; kernel_rfl; kernel_rfl) | (apply A.takeG 26; exact rfl; exact rfl; rotate_left 3; exact rfl; exact rfl; rotate_right 3; kernel_rfl; kernel_rfl; kernel_rfl; (apply Ok1.move; exact rfl))); refine A.cast (listed' := #[true, true, true, true, true, true, true, true, true, true, true, true, true, true, true, true, true, true, true, true, true, true, true, true, true, true, true, false, false, false, false, false, false, false, false, false, false, false, false, false, false, false, false, false, false, false, false, false, false, false, false]) (by kernel_rfl) ?_) <;> ((first | (apply A.skipG 27; exact rfl; exact rfl; rotate_left 3; exact rfl; exact rfl; rotate_right 3; kernel_rfl; kernel_rfl; kernel_rfl) | (apply A.takeG 27; exact rfl; exact rfl; rotate_left 3; exact rfl; exact rfl; rotate_right 3; kernel_rfl; kernel_rfl; kernel_rfl; (apply Ok1.indexAddrP; (iterate 4 exact rfl); (exact hpe); exact rfl; omega; omega))); refine A.cast (listed' := #[true, true, true, true, true, true, true, true, true, true, true, true, true, true, true, true, true, true, true, true, true, true, true, true, true, true, true, true, false, false, false, false, false, false, false, false, false, false, false, false, false, false, false, false, false, false, false, false, false, false, false]) (by kernel_rfl) ?_) <;> ((first | (apply A.skipG 28; exact rfl; exact rfl; rotate_left 3; exact rfl; exact rfl; rotate_right 3; kernel_rfl; kernel_rfl; kernel_rfl) | (apply A.takeG 28; exact rfl; exact rfl; rotate_left 3; exact rfl; exact rfl; rotate_right 3; kernel_rfl; kernel_rfl; kernel_rfl; (apply Ok1.fieldAddr; (iterate 5 exact rfl)))); refine A.cast (listed' := #[true, true, true, true, true, true, true, true, true, true, true, true, true, true, true, true, true, true, true, true, true, true, true, true, true, true, true, true, true, false, false, false, false, false, false, false, false, false, false, false, false, false, false, false, false, false, false, false, false, false, false]) (by kernel_rfl) ?_) <;> ((first | (apply A.skipG 29; exact rfl; exact rfl; rotate_left 3; exact rfl; exact rfl; rotate_right 3; kernel_rfl; kernel_rfl; kernel_rfl) | (apply A.takeG 29; exact rfl; exact rfl; rotate_left 3; exact rfl; exact rfl; rotate_right 3; kernel_rfl; kernel_rfl; kernel_rfl; (apply Ok1.load; exact rfl; (apply Ld.row1 H; exact rfl; exact List.not_mem_nil; (iterate 3 exact rfl))))); refine A.cast (listed' := #[true, true, true, true, true, true, true, true, true, true, true, true, true, true, true, true, true, true, true, true, true, true, true, true, true, true, true, true, true, true, false, false, false, false, false, false, false, false, false, false, false, false, false, false, false, false, false, false, false, false, false]) (by kernel_rfl) ?_) <;> ((first | (apply A.skipG 30; exact rfl; exact rfl; rotate_left 3; exact rfl; exact rfl; rotate_right 3; kernel_rfl; kernel_rfl; kernel_rfl) | (apply A.takeG 30; exact rfl; exact rfl; rotate_left 3; exact rfl; exact rfl; rotate_right 3; kernel_rfl; kernel_rfl; kernel_rfl; (apply Ok1.move; exact rfl))); refine A.cast (listed' := #[true, true, true, true, true, true, true, true, true, true, true, true, true, true, true, true, true, true, true, true, true, true, true, true, true, true, true, true, true, true, true, false, false, false, false, false, false, false, false, false, false, false, false, false, false, false, false, false, false, false, false]) (by kernel_rfl) ?_) <;> ((first | (apply A.skipG 31; exact rfl; exact rfl; rotate_left 3; exact rfl; exact rfl; rotate_right 3; kernel_rfl; kernel_rfl; kernel_rfl) | (apply A.takeG 31; exact rfl; exact rfl; rotate_left 3; exact rfl; exact rfl; rotate_right 3; kernel_rfl; kernel_rfl; kernel_rfl; (apply Ok1.move; exact rfl))); refine A.cast (listed' := #[true, true, true, true, true, true, true, true, true, true, true, true, true, true, true, true, true, true, true, true, true, true, true, true, true, true, true, true, true, true, true, true, false, false, false, false, false, false, false, false, false, false, false, false, false, false, false, false, false, false, false]) (by kernel_rfl) ?_) <;> ((first | (apply A.skipG 32; exact rfl; exact rfl; rotate_left 3; exact rfl; exact rfl; rotate_right 3; kernel_rfl; kernel_rfl; kernel_rfl) | (apply A.takeG 32; exact rfl; exact rfl; rotate_left 3; exact rfl; exact rfl; rotate_right 3; kernel_rfl; kernel_rfl; kernel_rfl; (apply Ok1.indexAddrP; (iterate 4 exact rfl); (exact hpe'); exact rfl; omega; omega))); refine A.cast (listed' := #[true, true, true, true, true, true, true, true, true, true, true, true, true, true, true, true, true, true, true, true, true, true, true, true, true, true, true, true, true, true, true, true, true, false, false, false, false, false, false, false, false, false, false, false, false, false, false, false, false, false, false]) (by kernel_rfl) ?_) <;> ((first | (apply A.skipG 33; exact rfl; exact rfl; rotate_left 3; exact rfl; exact rfl; rotate_right 3; kernel_rfl; kernel_rfl; kernel_rfl) | (apply A.takeG 33; exact rfl; exact rfl; rotate_left 3; exact rfl; exact rfl; rotate_right 3; kernel_rfl; kernel_rfl; kernel_rfl; (apply Ok1.fieldAddr; (iterate 5 exact rfl)))); refine A.cast (listed' := #[true, true, true, true, true, true, true, true, true, true, true, true, true, true, true, true, true, true, true, true, true, true, true, true, true, true, true, true, true, true, true, true, true, true, false, false, false, false, false, false, false, false, false, false, false, false, false, false, false, false, false]) (by kernel_rfl) ?_) <;> ((first | (apply A.skipG 34; exact rfl; exact rfl; rotate_left 3; exact rfl; exact rfl; rotate_right 3; kernel_rfl; kernel_rfl; kernel_rfl) | (apply A.takeG 34; exact rfl; exact rfl; rotate_left 3; exact rfl; exact rfl; rotate_right 3; kernel_rfl; kernel_rfl; kernel_rfl; (apply Ok1.load; exact rfl; (apply Ld.row1 H'; exact rfl; exact List.not_mem_nil; (iterate 3 exact rfl))))); refine A.cast (listed' := #[true, true, true, true, true, true, true, true, true, true, true, true, true, true, true, true, true, true, true, true, true, true, true, true, true, true, true, true, true, true, true, true, true, true, true, false, false, false, false, false, false, false, false, false, false, false, false, false, false, false, false]) (by kernel_rfl) ?_) <;> ((first | (apply A.skipG 35; exact rfl; exact rfl; rotate_left 3; exact rfl; exact rfl; rotate_right 3; kernel_rfl; kernel_rfl; kernel_rfl) | (apply A.takeG 35; exact rfl; exact rfl; rotate_left 3; exact rfl; exact rfl; rotate_right 3; kernel_rfl; kernel_rfl; kernel_rfl; first | (apply Ok1.neq_t; exact rfl; exact rfl; omega) | (apply Ok1.neq_f; exact rfl; exact rfl; omega))); refine A.cast (listed' := #[true, true, true, true, true, true, true, true, true, true, true, true, true, true, true, true, true, true, true, true, true, true, true, true, true, true, true, true, true, true, true, true, true, true, true, true, false, false, false, false, false, false, false, false, false, false, false, false, false, false, false]) (by kernel_rfl) ?_) <;> ((apply A.take 36; exact rfl; exact rfl; kernel_rfl; kernel_rfl; kernel_rfl; first | (apply Ok1.pick_t; exact rfl; exact rfl) | (apply Ok1.pick_f; exact rfl; exact rfl)); refine A.cast (listed' := #[true, true, true, true, true, true, true, true, true, true, true, true, true, true, true, true, true, true, true, true, true, true, true, true, true, true, true, true, true, true, true, true, true, true, true, true, true, false, false, false, false, false, false, false, false, false, false, false, false, false, false]) (by kernel_rfl) ?_) <;> ((apply A.take 37; exact rfl; exact rfl; kernel_rfl; kernel_rfl; kernel_rfl; (apply Ok1.move; exact rfl)); refine A.cast (listed' := #[true, true, true, true, true, true, true, true, true, true, true, true, true, true, true, true, true, true, true, true, true, true, true, true, true, true, true, true, true, true, true, true, true, true, true, true, true, true, false, false, false, false, false, false, false, false, false, false, false, false, false]) (by kernel_rfl) ?_) <;> ((first | (apply A.skipG 38; exact rfl; exact rfl; rotate_left 3; exact rfl; exact rfl; rotate_right 3; kernel_rfl; kernel_rfl; kernel_rfl) | (apply A.takeG 38; exact rfl; exact rfl; rotate_left 3; exact rfl; exact rfl; rotate_right 3; kernel_rfl; kernel_rfl; kernel_rfl; (apply Ok1.move; exact rfl))); refine A.cast (listed' := #[true, true, true, true, true, true, true, true, true, true, true, true, true, true, true, true, true, true, true, true, true, true, true, true, true, true, true, true, true, true, true, true, true, true, true, true, true, true, true, false, false, false, false, false, false, false, false, false, false, false, false]) (by kernel_rfl) ?_) <;> ((first | (apply A.skipG 39; exact rfl; exact rfl; rotate_left 3; exact rfl; exact rfl; rotate_right 3; kernel_rfl; kernel_rfl; kernel_rfl) | (apply A.takeG 39; exact rfl; exact rfl; rotate_left 3; exact rfl; exact rfl; rotate_right 3; kernel_rfl; kernel_rfl; kernel_rfl; (apply Ok1.move; exact rfl))); refine A.cast (listed' := #[true, true, true, true, true, true, true, true, true, true, true, true, true, true, true, true, true, true, true, true, true, true, true, true, true, true, true, true, true, true, true, true, true, true, true, true, true, true, true, true, false, false, false, false, false, false, false, false, false, false, false]) (by kernel_rfl) ?_) <;> ((first | (apply A.skipG 40; exact rfl; exact rfl; rotate_left 3; exact rfl; exact rfl; rotate_right 3; kernel_rfl; kernel_rfl; kernel_rfl) | (apply A.takeG 40; exact rfl; exact rfl; rotate_left 3; exact rfl; exact rfl; rotate_right 3; kernel_rfl; kernel_rfl; kernel_rfl; (apply Ok1.indexAddrP; (iterate 4 exact rfl); (exact hpe); exact rfl; omega; omega))); refine A.cast (listed' := #[true, true, true, true, true, true, true, true, true, true, true, true, true, true, true, true, true, true, true, true, true, true, true, true, true, true, true, true, true, true, true, true, true, true, true, true, true, true, true, true, true, false, false, false, false, false, false, false, false, false, false]) (by kernel_rfl) ?_) <;> ((first | (apply A.skipG 41; exact rfl; exact rfl; rotate_left 3; exact rfl; exact rfl; rotate_right 3; kernel_rfl; kernel_rfl; kernel_rfl) | (apply A.takeG 41; exact rfl; exact rfl; rotate_left 3; exact rfl; exact rfl; rotate_right 3; kernel_rfl; kernel_rfl; kernel_rfl; (apply Ok1.fieldAddr; (iterate 5 exact rfl)))); refine A.cast (listed' := #[true, true, true, true, true, true, true, true, true, true, true, true, true, true, true, true, true, true, true, true, true, true, true, true, true, true, true, true, true, true, true, true, true, true, true, true, true, true, true, true, true, true, false, false, false, false, false, false, false, false, false]) (by kernel_rfl) ?_) <;> ((first | (apply A.skipG 42; exact rfl; exact rfl; rotate_left 3; exact rfl; exact rfl; rotate_right 3; kernel_rfl; kernel_rfl; kernel_rfl) | (apply A.takeG 42; exact rfl; exact rfl; rotate_left 3; exact rfl; exact rfl; rotate_right 3; kernel_rfl; kernel_rfl; kernel_rfl; (apply Ok1.load; exact rfl; (apply Ld.row1 H; exact rfl; exact List.not_mem_nil; (iterate 3 exact rfl))))); refine A.cast (listed' := #[true, true, true, true, true, true, true, true, true, true, true, true, true, true, true, true, true, true, true, true, true, true, true, true, true, true, true, true, true, true, true, true, true, true, true, true, true, true, true, true, true, true, true, false, false, false, false, false, false, false, false]) (by kernel_rfl) ?_) <;> ((first | (apply A.skipG 43; exact rfl; exact rfl; rotate_left 3; exact rfl; exact rfl; rotate_right 3; kernel_rfl; kernel_rfl; kernel_rfl) | (apply A.takeG 43; exact rfl; exact rfl; rotate_left 3; exact rfl; exact rfl; rotate_right 3; kernel_rfl; kernel_rfl; kernel_rfl; (apply Ok1.move; exact rfl))); refine A.cast (listed' := #[true, true, true, true, true, true, true, true, true, true, true, true, true, true, true, true, true, true, true, true, true, true, true, true, true, true, true, true, true, true, true, true, true, true, true, true, true, true, true, true, true, true, true, true, false, false, false, false, false, false, false]) (by kernel_rfl) ?_) <;> ((first | (apply A.skipG 44; exact rfl; exact rfl; rotate_left 3; exact rfl; exact rfl; rotate_right 3; kernel_rfl; kernel_rfl; kernel_rfl) | (apply A.takeG 44; exact rfl; exact rfl; rotate_left 3; exact rfl; exact rfl; rotate_right 3; kernel_rfl; kernel_rfl; kernel_rfl; (apply Ok1.move; exact rfl))); refine A.cast (listed' := #[true, true, true, true, true, true, true, true, true, true, true, true, true, true, true, true, true, true, true, true, true, true, true, true, true, true, true, true, true, true, true, true, true, true, true, true, true, true, true, true, true, true, true, true, true, false, false, false, false, false, false]) (by kernel_rfl) ?_) <;> ((first | (apply A.skipG 45; exact rfl; exact rfl; rotate_left 3; exact rfl; exact rfl; rotate_right 3; kernel_rfl; kernel_rfl; kernel_rfl) | (apply A.takeG 45; exact rfl; exact rfl; rotate_left 3; exact rfl; exact rfl; rotate_right 3; kernel_rfl; kernel_rfl; kernel_rfl; (apply Ok1.indexAddrP; (iterate 4 exact rfl); (exact hpe'); exact rfl; omega; omega))); refine A.cast (listed' := #[true, true, true, true, true, true, true, true, true, true, true, true, true, true, true, true, true, true, true, true, true, true, true, true, true, true, true, true, true, true, true, true, true, true, true, true, true, true, true, true, true, true, true, true, true, true, false, false, false, false, false]) (by kernel_rfl) ?_) <;> ((first | (apply A.skipG 46; exact rfl; exact rfl; rotate_left 3; exact rfl; exact rfl; rotate_right 3; kernel_rfl; kernel_rfl; kernel_rfl) | (apply A.takeG 46; exact rfl; exact rfl; rotate_left 3; exact rfl; exact rfl; rotate_right 3; kernel_rfl; kernel_rfl; kernel_rfl; (apply Ok1.fieldAddr; (iterate 5 exact rfl)))); refine A.cast (listed' := #[true, true, true, true, true, true, true, true, true, true, true, true, true, true, true, true, true, true, true, true, true, true, true, true, true, true, true, true, true, true, true, true, true, true, true, true, true, true, true, true, true, true, true, true, true, true, true, false, false, false, false]) (by kernel_rfl) ?_) <;> ((first | (apply A.skipG 47; exact rfl; exact rfl; rotate_left 3; exact rfl; exact rfl; rotate_right 3; kernel_rfl; kernel_rfl; kernel_rfl) | (apply A.takeG 47; exact rfl; exact rfl; rotate_left 3; exact rfl; exact rfl; rotate_right 3; kernel_rfl; kernel_rfl; kernel_rfl; (apply Ok1.load; exact rfl; (apply Ld.row1 H'; exact rfl; exact List.not_mem_nil; (iterate 3 exact rfl))))); refine A.cast (listed' := #[true, true, true, true, true, true, true, true, true, true, true, true, true, true, true, true, true, true, true, true, true, true, true, true, true, true, true, true, true, true, true, true, true, true, true, true, true, true, true, true, true, true, true, true, true, true, true, true, false, false, false]) (by kernel_rfl) ?_) <;> (apply A.one 48; kernel_rfl; exact rfl; ((first | (apply R.isG; apply R.guard_run; exact rfl; exact rfl; ((apply R.callW (vs := [.slice x.p x.xs.length x.cap, .slice y.p y.xs.length y.cap]); (iterate 3 exact rfl); (intro w1 hw1; exact hsm w1 hw1.chg); rintro v rfl))) | (apply R.isG; (apply R.guard_not; (iterate 3 exact rfl))))); apply R.nil; refine ⟨?_, ?_⟩; (focus ((repeat' (exact trivial))))) <;> ((first | (apply A.skipG 49; exact rfl; exact rfl; rotate_left 3; exact rfl; exact rfl; rotate_right 3; kernel_rfl; kernel_rfl; kernel_rfl) | (apply A.takeG 49; exact rfl; exact rfl; rotate_left 3; exact rfl; exact rfl; rotate_right 3; kernel_rfl; kernel_rfl; kernel_rfl; first | (apply Ok1.not_t; exact rfl) | (apply Ok1.not_f; exact rfl))); refine A.cast (listed' := #[true, true, true, true, true, true, true, true, true, true, true, true, true, true, true, true, true, true, true, true, true, true, true, true, true, true, true, true, true, true, true, true, true, true, true, true, true, true, true, true, true, true, true, true, true, true, true, true, true, true, false]) (by kernel_rfl) ?_) <;> ((apply A.take 50; exact rfl; exact rfl; kernel_rfl; kernel_rfl; kernel_rfl; first | (apply Ok1.pick_t; exact rfl; exact rfl) | (apply Ok1.pick_f; exact rfl; exact rfl)); refine A.cast (listed' := #[true, true, true, true, true, true, true, true, true, true, true, true, true, true, true, true, true, true, true, true, true, true, true, true, true, true, true, true, true, true, true, true, true, true, true, true, true, true, true, true, true, true, true, true, true, true, true, true, true, true, true]) (by kernel_rfl) ?_) <;> (apply A.done; kernel_rfl))) | apply T.seq | apply T.region | apply T.block | apply T.skip | apply T.ret | (apply T.cond_t; exact rfl) | (apply T.cond_f; exact rfl)))
      all_goals first
        | ((apply RetOk.t; exact rfl); exact hfalse hne)
        | skip
      refine ⟨i + 1, ⟨by omega, ?_⟩, by omega, ⟨rfl, rfl, rfl, trivial⟩, Keep.nil _⟩
      rw [List.take_add_one, List.take_add_one, hsame, List.getElem?_map, List.getElem?_map, hx, hy]
      simp only [Option.map_some, hne]
    · repeat' (first | (apply R.is1; first | (apply R.isBin; (apply R.pure; exact rfl; (apply Ok1.lss_f; exact rfl; exact rfl; omega))) | (apply R.isCall; (apply R.pure; exact rfl; (apply Ok1.lenS; (iterate 3 exact rfl)))) | (apply R.pure; exact rfl; first | (apply Ok1.move; exact rfl) | (apply Ok1.assign; exact rfl))) | apply R.nil | (apply T.is; first | apply T.seq | apply T.region | apply T.exit | apply T.ret | (apply T.cond_f; exact rfl)))
      (apply RetOk.t; exact rfl)
      have hm : i = qs.length := by omega
      subst hm
      have g1 : (qs.map NT.say).take qs.length = qs.map NT.say := List.take_of_length_le (by rw [List.length_map]; exact Nat.le_refl _)
      have g2 : (bs.map NT.say).take qs.length = bs.map NT.say := List.take_of_length_le (by rw [List.length_map]; omega)
      rw [g1, g2] at hsame
      rw [decide_eq_true hsame]
end Go.Proofs.YtligngjcnlbgmaaGreat
set_option linter.unusedSimpArgs false
set_option linter.unusedVariables false
namespace Go.Proofs.YtligngjcnlbgmaaGreat
open Go.RowKit Go.Shelf Go.Sort
set_option maxRecDepth 100000
theorem inM4 : inM 4 2 = true := by decide +kernel
theorem inM3 : inM 3 2 = false := by decide +kernel
theorem read1_ok (bs bm : Nat) (E : SE) (clk : Nat) (hs : SOk [((5, 2), E, 0)] clk) (hr : E.r = 2) (ho : E.op = true) (mask : Int) (n : Nat) (hn : n = if inM mask 2 = true then 1 else 0) (w : World) : CallM Tryz.prog 42 [.pointer (some ⟨bs, 0, none⟩), .int .i64 mask] (SL bs bm [((5, 2), E, 0)] clk) w fun v L => ∃ ov xs X, OvOk 4 ov n xs ∧ v = slV ov n ∧ L = blkL 36 ov xs ++ (X ++ SL bs bm [((5, 2), E, 0)] clk) := by
  refine (stread_ok bs bm [((5, 2), E, 0)] clk hs mask w).wk ?_
  rintro v L ⟨rs, ov, ns, hp, _, hov, _, hsay, rfl, rfl⟩
  have h1 : rs = [E] := List.perm_singleton.1 hp
  have h2 := congrArg List.length hsay
  rw [List.length_map, h1] at h2
  have h3 : ns.length = n := by
    rw [h2, hn]
    unfold rdN
    rw [List.length_map]
    cases hm : inM mask 2 <;> simp [List.filter, ho, hr, hm]
  rw [h3] at hov ⊢
  exact ⟨ov, _, _, hov, rfl, rfl⟩
theorem known26_ok (w : World) : CallM Tryz.prog 19 [] [] w fun v L => v = .bool true ∧ L = [] := by
  have hnew := fun w1 => stnew_ok w1
  have hkn := fun b c w1 h1 => new_ok (some ⟨b, 0, none⟩) 3 c [107, 101, 121] rfl (by decide) w1 h1
  refine enterK (tb := tb) Tryz.func19 rfl Tryz.ntmps19 rfl ?_
  repeat' (first | (apply R.is1; first | (apply R.convSame; (iterate 6 exact rfl); exact Upd.head) | (apply R.isCall; first | (apply R.callE (vs := []); (iterate 3 exact rfl); exact Ext.none _; intro w1 hw1; exact hnew w1; rintro v Lo ⟨bs, bm, rfl, rfl⟩) | (apply R.callE (vs := [.slice (some ⟨_, 0, none⟩) 3 3]); (iterate 3 exact rfl); exact Ext.none _; intro w1 hw1; exact hkn _ _ w1 (RdSl.of (junk := []) hw1 At.head rfl); rintro v Lo ⟨bk, ovk, rfl, hovk, hsome, rfl⟩)) | (apply R.pure; exact rfl; first | (apply Ok1.move; exact rfl) | (apply Ok1.assign; exact rfl)) | (apply R.buildSlice; (iterate 12 exact rfl); intro)) | apply R.nil | (apply T.is; first | apply T.seq | apply T.region))
  rename_i bkb bv
  have hb3 : Byt [107, 101, 121] := by intro y hy; simp at hy; omega
  have hb1 : Byt [120] := by intro y hy; simp at hy; omega
  have hset := fun w1 h1 h2 => stset_ok bs bm [] 0 (by simp [mget]) bk [107, 101, 121] (by decide) hb3 5 2 (some ⟨bv, 0, none⟩) 1 1 [120] rfl hb1 (by decide) (by decide) w1 h1 h2
  have hpe : putE ([] : SMs) (5, 2) = 0 := by simp [putE, mget]
  have hpm : ∀ e, putM ([] : SMs) 0 (5, 2) e = ([((5, 2), e, 0)], 1) := fun e => by simp [putM, mget]
  have hvz : verI ([] : SMs) (5, 2) = 0 := rfl
  simp only [hpe, hpm, hvz] at hset
  have hK : ∀ {Li Lr L : Lst} {w1 w2 : World}, Hp w [] L w1 → Ext L Li Lr → (∀ z ∈ KL bk ovk [107, 101, 121], z ∈ Lr) → Chg (blks Li) w1 w2 → KeyR w2 bk [107, 101, 121] := fun h1 h2 h3 h4 => KeyR.keep hovk h1 h2 h3 h4
  generalize hLS : SL bs bm [] 0 = LS at *
  generalize KL bk ovk [107, 101, 121] = LK at *
  repeat' (first | (apply R.is1; first | (apply R.isBin; (apply R.pure; exact rfl; (apply Ok1.eql_t; exact rfl; exact rfl; omega))) | (apply R.isCall; (apply R.callE (Li := LS) (vs := [.pointer (some ⟨bs, 0, none⟩), .pointer (some ⟨bk, 0, none⟩), .int .i64 5, .int .i64 2, .slice (some ⟨bv, 0, none⟩) 1 1]); (iterate 3 exact rfl); (focus ((repeat' (first | exact Ext.here _ _ | apply Ext.cons | apply Ext.app)); done)); intro w1 hw1; (exact hset w1 (fun w2 hc => hK hw1 (by (focus ((repeat' (first | exact Ext.here _ _ | apply Ext.cons | apply Ext.app)); done))) (Ext.mem (by (focus ((repeat' (first | exact Ext.here _ _ | apply Ext.cons)); done)))) hc) (fun w2 hc => (RdSl.of (junk := []) hw1 At.head rfl).chg' hc (fun _ => Off.of hw1 (by (focus ((repeat' (first | exact Ext.here _ _ | apply Ext.cons | apply Ext.app)); done))) At.head))); rintro v Lo ⟨rfl, bov, vov, hbov, hvov, rfl⟩)) | (apply R.pure; exact rfl; first | (apply Ok1.move; exact rfl) | (apply Ok1.assign; exact rfl))) | (apply R.isG; (apply R.guard_run; exact rfl; exact rfl)) | apply R.nil | (apply T.is; first | apply T.seq | apply T.region))
  obtain ⟨E, hE⟩ : ∃ E : SE, E = ⟨5, 2, 0 + 1, bov, nsI [107, 101, 121] 5 2 (0 + 1) [120], vov, [120], true⟩ := ⟨_, rfl⟩
  have hIl : (nsI [107, 101, 121] 5 2 (0 + 1) [120]).length = 33 := by unfold nsI; rw [sealI_len]; rfl
  have hSO : SOk [((5, 2), E, 0)] 1 := by
    subst hE
    refine ⟨MWf.snoc (k := ((5, 2) : Int × Int)) MWf.nil rfl, ?_, ?_, ?_, ?_, ?_, ?_, by simp⟩
    all_goals
      intro e he
      rw [List.mem_singleton.1 he]
    · exact (by decide : HRt 5 2 (0 + 1))
    · simp only [hIl]; exact hbov
    · exact hvov
    · simp only [hIl]; decide
    · simp
  have hr4 := fun w1 => read1_ok bs bm E 1 hSO (by rw [hE]) (by rw [hE]) 4 1 (by rw [inM4]; rfl) w1
  have hr3 := fun w1 => read1_ok bs bm E 1 hSO (by rw [hE]) (by rw [hE]) 3 0 (by rw [inM3]; rfl) w1
  rw [← hE]
  generalize SL bs bm [((5, 2), E, 0)] 1 = LT at *
  repeat' (first | (apply R.is1; first | (apply R.isBin; (apply R.pure; exact rfl; (apply Ok1.eql_t; exact rfl; exact rfl; omega))) | (apply R.isCall; first | (apply R.callE (Li := LT) (vs := [.pointer (some ⟨bs, 0, none⟩), .int .i64 4]); (iterate 3 exact rfl); (focus ((repeat' (exact Ext.here _ _)); done)); intro w1 hw1; exact hr4 w1; rintro v Lo ⟨ov4, x4, X4, hov4, rfl, rfl⟩; rw [List.append_assoc, List.append_assoc]) | (apply R.pure; exact rfl; apply Ok1.lenOv; (iterate 3 exact rfl); exact hov4) | (apply R.callE (Li := LT) (vs := [.pointer (some ⟨bs, 0, none⟩), .int .i64 3]); (iterate 3 exact rfl); (focus ((repeat' (first | exact Ext.here _ _ | apply Ext.app)); done)); intro w1 hw1; exact hr3 w1; rintro v Lo ⟨ov3, x3, X3, hov3, rfl, rfl⟩) | (apply R.pure; exact rfl; apply Ok1.lenOv; (iterate 3 exact rfl); exact hov3)) | (apply R.pure; exact rfl; first | (apply Ok1.move; exact rfl) | (apply Ok1.assign; exact rfl) | (apply Ok1.pick_t; exact rfl; exact rfl))) | (apply R.isG; (apply R.guard_run; exact rfl; exact rfl)) | apply R.nil | (apply T.is; apply T.ret))
  (apply RetOk.t; exact rfl)
  exact ⟨[], by (focus ((repeat' (exact Keep.nil _)); done)), rfl, rfl⟩
end Go.Proofs.YtligngjcnlbgmaaGreat
set_option linter.unusedSimpArgs false
set_option linter.unusedVariables false
namespace Go.Proofs.YtligngjcnlbgmaaGreat
open Go.RowKit Go.Shelf
section
variable {X : Cx} {σ : Env} {L : Lst} {ty t : TypeId} {pos : String} {af : Array Edge} {x y : Operand} {r : TRow}
end
section
variable {X : Cx} {σ : Env} {L : Lst} {ty t : TypeId} {pos : String} {af : Array Edge} {x y : Operand} {r : TRow} {xs ys : List Value} {ks : List TK}
end
/-- The walk stops here. -/
structure Stop (p : Prop) : Prop where
  of : p
section
variable {X : Cx} {Q : Post} {σ : Env} {L : Lst}
theorem T.stop (i : Nat) {ops : Array Oper} {g : Bool} {c d : Code} (h : Stop (T X (.seq (.seq (.region i ops g) c) d) Q σ L)) : T X (.seq (.seq (.region i ops g) c) d) Q σ L := h.of
theorem T.stop1 (i : Nat) {ops : Array Oper} {g : Bool} {d : Code} (h : Stop (T X (.seq (.region i ops g) d) Q σ L)) : T X (.seq (.region i ops g) d) Q σ L := h.of
end
section
variable {X : Cx} {σ : Env} {L Lr : Lst} {d : Option Nat} {dd : Nat} {ty : TypeId} {pos : String} {af : Array Edge} {g : Option (Nat × Bool)} {x y : Operand} {t t2 e : TypeId} {r r2 re : TRow}
variable {all : Array Oper} {rest : List Oper} {K : Env → Lst → Prop} {p : Option Addr} {n cap i : Nat}
end
section
variable {X : Cx} {σ : Env} {L Lr : Lst} {d : Option Nat} {ty : TypeId} {pos : String} {af : Array Edge} {g : Option (Nat × Bool)} {x : Operand} {t e : TypeId} {r re : TRow} {p : Option Addr} {n m cap b o i : Nat}
end
end Go.Proofs.YtligngjcnlbgmaaGreat
set_option linter.unusedSimpArgs false
set_option linter.unusedVariables false
namespace Go.Proofs.YtligngjcnlbgmaaGreat
open Go.RowKit Go.Shelf Go.Sort
set_option maxRecDepth 100000
/-- The arguments' rows: other values. -/
def Pt.okR (w : World) (x : Pt) : Prop := RdSl w x.p u8V x.xs ∧ Byt x.xs
structure NT.okR (w : World) (x : NT) : Prop where
  rd : RdSl w x.p u8V x.xs
  byt : Byt x.xs
  cap : x.xs.length ≤ x.cap
theorem nsE_zero {o r v : Int} {n : Nat} (h : nsE o r v n = 0) : HRt o r v ∧ n ≤ 64 := by
  unfold nsE at h
  by_cases h1 : HRt o r v
  · rw [if_neg (fun g => g h1)] at h
    by_cases h2 : 64 < n
    · rw [if_pos h2] at h; exact absurd h (by decide)
    · exact ⟨h1, by omega⟩
  · rw [if_pos h1] at h; exact absurd h (by decide)
end Go.Proofs.YtligngjcnlbgmaaGreat
set_option linter.unusedSimpArgs false
set_option linter.unusedVariables false
namespace Go.Proofs.YtligngjcnlbgmaaGreat
open Go.ChangeShapes Go.WideShapes Go.ChangeAt Go.RowKit
section
variable {H : Type} {enc : TypeId × Value → H} {w : World} {base : Nat} {spare : Nat → Bool} {held : Bool}
theorem u8_opens9 : Opens enc Tryz.prog w base spare held 5 fun cs => ∃ x : Int, u8V x = cs ∧ (0 ≤ x ∧ x ≤ 255) :=
  (Opens.flat (ks := [.int .u8]) tb rfl rfl rfl).mono fun cs h => by
    match cs, h with
    | [.int k1 a], h =>
      obtain ⟨⟨rfl, h2⟩, _⟩ := h
      have e0 : IntKind.u8.min = 0 := rfl
      have e1 : IntKind.u8.max = 255 := rfl
      exact ⟨a, rfl, by omega⟩
theorem nt_opens : Opens enc Tryz.prog w base spare held 24 fun cs => ∃ x : NT, x.v = cs ∧ x.okR w := by
  have hi : Opens enc Tryz.prog w base spare held 3 fun cs => ∃ a : Int, cs = [.int .i64 a] := (Opens.flat (ks := [.int .i64]) tb rfl rfl rfl).mono fun cs h => int1_dec h
  have h0 := Opens.field (enc := enc) (w := w) (base := base) (spare := spare) (held := held) tb (t := 24) rfl rfl 0 rfl hi
  have h1 := Opens.field (enc := enc) (w := w) (base := base) (spare := spare) (held := held) tb (t := 24) rfl rfl 1 rfl hi
  have h2 := Opens.field (enc := enc) (w := w) (base := base) (spare := spare) (held := held) tb (t := 24) rfl rfl 2 rfl hi
  have h3 := Opens.field (enc := enc) (w := w) (base := base) (spare := spare) (held := held) tb (t := 24) rfl rfl 3 rfl (Opens.slice u8V (fun x => 0 ≤ x ∧ x ≤ 255) tb rfl rfl rfl rfl (fun _ => rfl) u8_opens9)
  refine (((h0.and h1).and h2).and h3).mono ?_
  rintro cs ⟨⟨⟨⟨hl, a, g0⟩, ⟨_, b, g1⟩⟩, ⟨_, c, g2⟩⟩, ⟨_, g3⟩⟩
  obtain ⟨p, xs, cap, e3, q1, q2, _, q4, _⟩ := g3
  refine ⟨⟨a, b, c, p, cap, xs⟩, ?_, q1, q4, q2⟩
  replace hl : cs.length = 4 := hl
  match cs, hl, g0, g1, g2, e3 with
  | [x0, x1, x2, x3], _, g0, g1, g2, e3 =>
    simp at g0 g1 g2 e3
    rw [g0, g1, g2, e3]
    rfl
end
end Go.Proofs.YtligngjcnlbgmaaGreat
set_option linter.unusedSimpArgs false
set_option linter.unusedVariables false
namespace Go.Proofs.YtligngjcnlbgmaaGreat
open Go.RowKit Go.Shelf
set_option maxRecDepth 100000
theorem xor8_twice {x y : Int} (hx : 0 ≤ x ∧ x ≤ 255) : xorI .u8 (xorI .u8 x y) y = x := by
  have e : ∀ a b, xorI .u8 a b = ((BitVec.ofInt 8 a ^^^ BitVec.ofInt 8 b).toNat : Int) := fun _ _ => bv8_nat _
  rw [e, e]
  have h : BitVec.ofInt 8 ((BitVec.ofInt 8 x ^^^ BitVec.ofInt 8 y).toNat : Int) = BitVec.ofInt 8 x ^^^ BitVec.ofInt 8 y := by
    rw [BitVec.ofInt_natCast, BitVec.ofNat_toNat, BitVec.setWidth_eq]
  rw [h, BitVec.xor_assoc, BitVec.xor_self, BitVec.xor_zero, bv8_eq hx]
theorem turn_twice : ∀ {b s : List Int}, b.length = s.length → Byt b → turnI (turnI b s) s = b
  | [], [], _, _ => rfl
  | x :: b, y :: s, h, hb => by
    have ih := turn_twice (b := b) (s := s) (by simpa using h) (fun z hz => hb z (List.mem_cons_of_mem _ hz))
    unfold turnI at ih ⊢
    rw [List.zipWith_cons_cons, List.zipWith_cons_cons, xor8_twice (hb x List.mem_cons_self), ih]
theorem sop_seal (k nonce bound b : List Int) (hb : Byt b) : sopE k nonce bound (sealI k nonce bound b) = 0 ∧ sopI k nonce (sealI k nonce bound b) = b := by
  have hl := sealI_len k nonce bound b
  have hn : (sealI k nonce bound b).length - 32 = b.length := by omega
  have htl : (turnI b (strmI k nonce b.length)).length = b.length := turnI_len (by rw [strmI_len])
  have ht : (sealI k nonce bound b).take b.length = turnI b (strmI k nonce b.length) := List.take_left' htl
  have hd : (sealI k nonce bound b).drop b.length = stagI k nonce bound (turnI b (strmI k nonce b.length)) := List.drop_left' htl
  constructor
  · unfold sopE
    rw [if_neg (by omega), hn, ht, hd, if_pos rfl]
  · unfold sopI
    rw [hn, ht, turn_twice (by rw [strmI_len]) hb]
theorem no_seal (k : List Int) (o r v : Int) (xs : List Int) (hr : HRt o r v) (hb : Byt xs) (hl : xs.length ≤ 64) : noE k o r v (nsI k o r v xs) = 0 ∧ noI k o r v (nsI k o r v xs) = xs := by
  obtain ⟨h1, h2⟩ := sop_seal k (headI o r v) (headI o r v) xs hb
  have hl2 : (nsI k o r v xs).length = xs.length + 32 := sealI_len _ _ _ _
  constructor
  · unfold noE
    rw [if_neg (fun h => h hr), if_neg (by omega)]
    exact h1
  · exact h2
theorem ns_byt (k : List Int) (o r v : Int) (xs : List Int) : Byt (nsI k o r v xs) := Byt.app (turnI_byt _ _) (hmac_byt _ _)
end Go.Proofs.YtligngjcnlbgmaaGreat
set_option linter.unusedSimpArgs false
set_option linter.unusedVariables false
namespace Go.Proofs.YtligngjcnlbgmaaGreat
open Go.RowKit Go.Shelf Go.Sort
set_option maxRecDepth 100000
/-- The entry that a note makes. -/
def Ent (K : List Int) (x : NE) (e : SE) : Prop := e.o = x.o ∧ e.r = x.r ∧ e.ver = x.ver ∧ e.body = x.xs ∧ e.val = noI K x.o x.r x.ver x.xs ∧ e.op = true
/-- A store has, of each owner and role, the greatest version of a list's. -/
def SInv (K : List Int) (l : List NE) (m : SMs) : Prop := ∀ k : Int × Int, (mget k m = none → ∀ x ∈ l, (x.o, x.r) ≠ k) ∧ ∀ e, mget k m = some e → (∃ x ∈ l, (x.o, x.r) = k ∧ Ent K x e) ∧ ∀ x ∈ l, (x.o, x.r) = k → x.ver ≤ e.ver
theorem SInv.nil (K : List Int) : SInv K [] [] := fun k => ⟨fun _ x hx => (by cases hx), fun e h => (by simp [mget] at h)⟩
theorem mget_put (ms : SMs) (clk : Nat) (k c : Int × Int) (e : SE) (h : ms.length < 64) : mget c (putM ms clk k e).1 = if k = c then some e else mget c ms := by
  unfold putM
  cases hg : mget k ms with
  | some a => exact mget_mset c hg
  | none =>
    simp only
    rw [if_neg (by omega)]
    exact mget_snoc c hg
theorem SInv.old {K : List Int} {l : List NE} {m : SMs} (h : SInv K l m) {x : NE} (h1 : 1 ≤ x.ver) (hv : x.ver ≤ verI m (x.o, x.r)) : SInv K (l ++ [x]) m := by
  intro k
  obtain ⟨g1, g2⟩ := h k
  refine ⟨fun hn y hy => ?_, fun e he => ⟨?_, fun y hy hk => ?_⟩⟩
  · rcases List.mem_append.1 hy with h9 | h9
    · exact g1 hn y h9
    · rw [List.mem_singleton.1 h9]
      rintro rfl
      unfold verI at hv
      rw [hn] at hv
      simp only at hv
      omega
  · obtain ⟨⟨y, hy, hk, hE⟩, _⟩ := g2 e he
    exact ⟨y, List.mem_append_left _ hy, hk, hE⟩
  · rcases List.mem_append.1 hy with h9 | h9
    · exact (g2 e he).2 y h9 hk
    · rw [List.mem_singleton.1 h9] at hk ⊢
      unfold verI at hv
      rw [hk, he] at hv
      exact hv
theorem SInv.new {K : List Int} {l : List NE} {m : SMs} (h : SInv K l m) {x : NE} {e : SE} (hE : Ent K x e) (clk : Nat) (hl : m.length < 64) (hv : verI m (x.o, x.r) < x.ver) : SInv K (l ++ [x]) (putM m clk (x.o, x.r) e).1 := by
  intro k
  obtain ⟨g1, g2⟩ := h k
  rw [mget_put _ _ _ _ _ hl]
  by_cases hk : (x.o, x.r) = k
  · rw [if_pos hk]
    refine ⟨fun hn => (by cases hn), fun e' he' => ?_⟩
    cases he'
    refine ⟨⟨x, List.mem_append_right _ List.mem_cons_self, hk, hE⟩, fun y hy hyk => ?_⟩
    rcases List.mem_append.1 hy with h9 | h9
    · cases hg : mget k m with
      | none => exact absurd hyk (g1 hg y h9)
      | some e0 =>
        have h8 := (g2 e0 hg).2 y h9 hyk
        unfold verI at hv
        rw [hk, hg] at hv
        simp only at hv
        have := hE.2.2.1
        omega
    · rw [List.mem_singleton.1 h9, hE.2.2.1]
      exact Int.le_refl _
  · rw [if_neg hk]
    refine ⟨fun hn y hy => ?_, fun e' he' => ⟨?_, fun y hy hyk => ?_⟩⟩
    · rcases List.mem_append.1 hy with h9 | h9
      · exact g1 hn y h9
      · rw [List.mem_singleton.1 h9]; exact hk
    · obtain ⟨⟨y, hy, hyk, hE'⟩, _⟩ := g2 e' he'
      exact ⟨y, List.mem_append_left _ hy, hyk, hE'⟩
    · rcases List.mem_append.1 hy with h9 | h9
      · exact (g2 e' he').2 y h9 hyk
      · rw [List.mem_singleton.1 h9] at hyk; exact absurd hyk hk
/-- All of an entry but where it lies. -/
def eSay (e : SE) : Int × Int × Int × List Int × List Int × Bool := (e.o, e.r, e.ver, e.body, e.val, e.op)
theorem SInv.same {K : List Int} {l l' : List NE} {A B : SMs} (hA : SInv K l A) (hB : SInv K l' B) (hm : ∀ x, x ∈ l ↔ x ∈ l') (hd : ∀ x ∈ l, ∀ y ∈ l, (x.o, x.r) = (y.o, y.r) → x.ver = y.ver → x = y) (k : Int × Int) : (mget k A).map eSay = (mget k B).map eSay := by
  obtain ⟨a1, a2⟩ := hA k
  obtain ⟨b1, b2⟩ := hB k
  cases ha : mget k A with
  | none =>
    cases hb : mget k B with
    | none => rfl
    | some f =>
      obtain ⟨⟨y, hy, hk, _⟩, _⟩ := b2 f hb
      exact absurd hk (a1 ha y ((hm y).2 hy))
  | some e =>
    obtain ⟨⟨x, hx, hxk, hE⟩, hxm⟩ := a2 e ha
    cases hb : mget k B with
    | none => exact absurd hxk (b1 hb x ((hm x).1 hx))
    | some f =>
      obtain ⟨⟨y, hy, hyk, hF⟩, hym⟩ := b2 f hb
      have h1 := hxm y ((hm y).2 hy) hyk
      have h2 := hym x ((hm x).1 hx) hxk
      have h3 := hE.2.2.1
      have h4 := hF.2.2.1
      have hxy : x = y := hd x hx y ((hm y).2 hy) (hxk.trans hyk.symm) (by omega)
      subst hxy
      obtain ⟨c1, c2, c3, c4, c5, c6⟩ := hE
      obtain ⟨d1, d2, d3, d4, d5, d6⟩ := hF
      simp only [Option.map_some, eSay, c1, c2, c3, c4, c5, c6, d1, d2, d3, d4, d5, d6]
end Go.Proofs.YtligngjcnlbgmaaGreat
set_option linter.unusedSimpArgs false
set_option linter.unusedVariables false
namespace Go.Proofs.YtligngjcnlbgmaaGreat
open Go.RowKit Go.Shelf
set_option maxRecDepth 100000
theorem turn_snoc {b s : List Int} {i : Nat} {x y : Int} (hx : b[i]? = some x) (hy : s[i]? = some y) : turnI (b.take (i + 1)) (s.take (i + 1)) = turnI (b.take i) (s.take i) ++ [xorI .u8 x y] := by
  have h1 := (List.getElem?_eq_some_iff.1 hx).1
  have h2 := (List.getElem?_eq_some_iff.1 hy).1
  unfold turnI
  rw [List.take_add_one, List.take_add_one, hx, hy, Option.toList_some, Option.toList_some, List.zipWith_append (by rw [List.length_take, List.length_take]; omega)]
  rfl
theorem vturned_ok (p : Option Addr) (n cap : Nat) (b : List Int) (hn : n = b.length) (hbig : n ≤ 100000000) (ps : Option Addr) (ns cs : Nat) (s : List Int) (hns : ns = s.length) (hs : b.length ≤ s.length) (w : World) (hp : RdSl w p u8V b) (hps : RdSl w ps u8V s) :
    CallM Tryz.prog 76 [.slice p n cap, .slice ps ns cs] [] w fun v L => ∃ ov, OvOk 1 ov n (u8s (turnI b (s.take n))) ∧ v = slV ov n ∧ L = blkL 5 ov (u8s (turnI b (s.take n))) := by
  subst hn hns
  refine enterK (tb := tb) Tryz.func76 rfl Tryz.ntmps76 rfl ?_
  repeat' (first | (apply R.is1; (apply R.pure; exact rfl; (apply Ok1.assign; exact rfl))) | apply R.nil | (apply T.is; first | apply T.seq | apply T.region | apply T.block))
  apply T.loopK (α := Nat × Ov) (I := fun y => y.1 ≤ b.length ∧ OvOk 1 y.2 y.1 (u8s (turnI (b.take y.1) (s.take y.1)))) (σi := fun y => [(0, .slice p b.length cap), (1, .slice ps s.length cs), (5, slV y.2 y.1), (6, .int .i64 y.1)]) (Li := fun y => blkL 5 y.2 (u8s (turnI (b.take y.1) (s.take y.1)))) (μ := fun y => b.length - y.1) (i0 := (0, none))
  · exact ⟨Nat.zero_le _, OvOk.start 1⟩
  · exact ⟨rfl, rfl, rfl, rfl, trivial⟩
  · (focus ((repeat' (exact Keep.nil _)); done))
  · rintro ⟨i, ov⟩ ⟨hi, hov⟩
    simp only at hi hov ⊢
    rcases Nat.lt_or_ge i b.length with hlt | hge
    · obtain ⟨x, hx⟩ : ∃ x, b[i]? = some x := ⟨_, List.getElem?_eq_getElem (by omega)⟩
      obtain ⟨y, hy⟩ : ∃ y, s[i]? = some y := ⟨_, List.getElem?_eq_getElem (by omega)⟩
      obtain ⟨b1, o1, hpe, H⟩ := hp.at hx
      replace H := H 1 u8V_len
      obtain ⟨b9, o9, hpe', H'⟩ := hps.at hy
      replace H' := H' 1 u8V_len
      have hsn := turn_snoc hx hy
      generalize turnI (b.take i) (s.take i) = Z at *
      repeat' (first | (apply R.is1; first | (apply R.isBin; (apply R.pure; exact rfl; first | (apply Ok1.add64; exact rfl; exact rfl; omega; omega) | (apply Ok1.lss_t; exact rfl; exact rfl; omega))) | (apply R.isCall; (apply R.pure; exact rfl; (apply Ok1.lenS; (iterate 3 exact rfl)))) | (apply R.pure; exact rfl; first | (apply Ok1.move; exact rfl) | (apply Ok1.assign; exact rfl))) | apply R.nil | (apply T.is; first | (apply T.drawC (id := 5) [] (by decide); ((apply A.take 0; exact rfl; exact rfl; kernel_rfl; kernel_rfl; kernel_rfl; (apply Ok1.move; exact rfl)) <;> (apply A.take 1; exact rfl; exact rfl; kernel_rfl; kernel_rfl; kernel_rfl; (apply Ok1.move; exact rfl)) <;> (apply A.take 2; exact rfl; exact rfl; kernel_rfl; kernel_rfl; kernel_rfl; (apply Ok1.move; exact rfl)) <;> (apply A.take 3; exact rfl; exact rfl; kernel_rfl; kernel_rfl; kernel_rfl; (apply Ok1.indexAddrP; (iterate 4 exact rfl); (exact hpe); exact rfl; omega; omega)) <;> (apply A.take 4; exact rfl; exact rfl; kernel_rfl; kernel_rfl; kernel_rfl; (apply Ok1.load; exact rfl; (apply Ld.row0 H; exact rfl; exact List.not_mem_nil; (iterate 3 exact rfl)))) <;> (apply A.take 5; exact rfl; exact rfl; kernel_rfl; kernel_rfl; kernel_rfl; (apply Ok1.move; exact rfl)) <;> (apply A.take 6; exact rfl; exact rfl; kernel_rfl; kernel_rfl; kernel_rfl; (apply Ok1.move; exact rfl)) <;> (apply A.take 7; exact rfl; exact rfl; kernel_rfl; kernel_rfl; kernel_rfl; (apply Ok1.indexAddrP; (iterate 4 exact rfl); (exact hpe'); exact rfl; omega; omega)) <;> (apply A.take 8; exact rfl; exact rfl; kernel_rfl; kernel_rfl; kernel_rfl; (apply Ok1.load; exact rfl; (apply Ld.row0 H'; exact rfl; exact List.not_mem_nil; (iterate 3 exact rfl)))) <;> (apply A.take 9; exact rfl; exact rfl; kernel_rfl; kernel_rfl; kernel_rfl; (apply Ok1.xorK; exact rfl; exact rfl)) <;> (apply A.one 10; kernel_rfl; exact rfl; (((apply R.buildSlice; (iterate 12 exact rfl); intro))); apply R.nil; refine ⟨?_, ?_⟩; (focus ((repeat' (exact trivial))))) <;> (apply A.one 11; kernel_rfl; exact rfl; (((apply R.append1; (iterate 12 exact rfl); (focus ((repeat' (first | exact OwnAt.base hov | apply OwnAt.tail)); done)); exact At.head; exact rfl; exact rfl; omega; omega; intro b2 j2 k2 hj2))); apply R.nil; refine ⟨?_, ?_⟩; (focus ((repeat' (exact trivial))))) <;> (apply A.take 12; exact rfl; exact rfl; kernel_rfl; kernel_rfl; kernel_rfl; (apply Ok1.assign; exact rfl)) <;> (apply A.done; kernel_rfl))) | apply T.seq | apply T.region | apply T.block | apply T.skip | (apply T.cond_t; exact rfl)))
      all_goals refine ⟨(i + 1, some (b2, j2, k2)), ⟨by simp only; omega, ?_⟩, by simp only; omega, ⟨rfl, rfl, rfl, rfl, trivial⟩, ?_⟩
      all_goals simp only [hsn, u8s_app]
      all_goals first
        | exact hov.some rfl hj2
        | (simp only [ovp, ovc, blkL]; (focus ((repeat' (first | exact Keep.nil _ | exact Ext.one _ _ | apply Keep.cons)); done)))
    · have hm : i = b.length := by omega
      subst hm
      rw [List.take_length] at hov ⊢
      repeat' (first | (apply R.is1; first | (apply R.isBin; (apply R.pure; exact rfl; (apply Ok1.lss_f; exact rfl; exact rfl; omega))) | (apply R.isCall; (apply R.pure; exact rfl; (apply Ok1.lenS; (iterate 3 exact rfl)))) | (apply R.pure; exact rfl; first | (apply Ok1.move; exact rfl) | (apply Ok1.assign; exact rfl))) | apply R.nil | (apply T.is; first | apply T.seq | apply T.region | apply T.exit | apply T.ret | (apply T.cond_f; exact rfl)))
      (apply RetOk.t; exact rfl)
      exact ⟨_, by (focus ((repeat' (first | exact Ext.all _ | apply Keep.last)); done)), ov, hov, rfl, rfl⟩
theorem vstream_ok (p : Option Addr) (m cap : Nat) (k : List Int) (hm : m = k.length) (hkl : m ≤ 999999000) (hkb : Byt k) (pn : Option Addr) (nl cn : Nat) (nonce : List Int) (hnl : nl = nonce.length) (hn32 : nl ≤ 32) (hnb : Byt nonce) (n : Nat) (hn : n ≤ 65536) (w : World) (hp : RdSl w p u8V k) (hpn : RdSl w pn u8V nonce) :
    CallM Tryz.prog 77 [.agg ⟨tabV⟩, .slice p m cap, .slice pn nl cn, .int .i64 n] [] w fun v L => ∃ ov W c, OvOk 1 ov W.length (u8s W) ∧ n ≤ W.length ∧ W.take n = strmI k nonce n ∧ v = .slice (ovp ov) n c ∧ L = blkL 5 ov (u8s W) := by
  subst hm hnl
  have htl := tab_len
  have hdv := fun w1 (hc : Chg [] w w1) => vderive_ok p k.length cap k rfl hkl hkb sHide (by decide) none 0 0 [] rfl (by decide) (by simp) (by simp [frameI, len4, strI, sHide]) (by simp) w1 (hp.chg' hc (fun _ => Off.nil _)) (.inl rfl) (by simp)
  simp only [List.map_nil] at hdv
  have hdl := derive_len k sHide []
  have hdb := derive_byt k sHide []
  have hst : strmI k nonce n = (strmB (deriveI k sHide []) nonce ((n + 31) / 32)).take n := rfl
  generalize deriveI k sHide [] = k2 at *
  have hkl2 : (u8s k2).length = 32 := by rw [u8s_len, hdl]
  have htag := fun q c pb mm cb b w1 h1 h2 h3 h4 h5 => vtag_ok q 32 c k2 hdl.symm (by decide) hdb pb mm cb b h1 h2 h3 w1 h4 h5
  generalize tabV = tv at *
  refine enterK (tb := tb) Tryz.func77 rfl Tryz.ntmps77 rfl ?_
  repeat' (first | (apply R.is1; first | (apply R.isCall; (apply R.callV (vs := [.agg ⟨tv⟩, .slice p k.length cap, .string sHide, .slice none 0 0]); (iterate 3 exact rfl); intro w1 hw1; exact hdv w1 hw1.chg)) | (apply R.pure; exact rfl; first | (apply Ok1.load; exact rfl; apply Ld.ownk; exact rfl; exact rfl; exact At.head; exact subE_all htl) | (apply Ok1.move; exact rfl) | (apply Ok1.assign; exact rfl)) | (apply R.box; (iterate 3 exact rfl); intro) | (apply R.alloc; (iterate 3 exact rfl); intro)) | (apply R.is0; (apply R.store; (iterate 4 exact rfl); exact hkl2; exact u8s_one k2; exact Upd.head; exact setE_all hkl2)) | apply R.nil | (apply T.is; first | apply T.seq | apply T.region | apply T.block))
  rename_i b4 b9
  apply T.loopK (α := Nat × Ov) (I := fun y => 32 * y.1 < n + 32 ∧ OvOk 1 y.2 (32 * y.1) (u8s (strmB k2 nonce y.1))) (σi := fun y => [(2, .slice pn nonce.length cn), (3, .int .i64 n), (4, .pointer (some ⟨b4, 0, none⟩)), (9, .pointer (some ⟨b9, 0, none⟩)), (10, slV y.2 (32 * y.1)), (11, .int .i64 y.1)]) (Li := fun y => (b9, .cells ⟨u8s k2⟩ 123 (0, 0)) :: (b4, .cells ⟨tv⟩ 34 (0, 0)) :: blkL 5 y.2 (u8s (strmB k2 nonce y.1))) (μ := fun y => n + 32 - 32 * y.1) (i0 := (0, none))
  · exact ⟨by omega, OvOk.start 1⟩
  · exact ⟨rfl, rfl, rfl, rfl, rfl, rfl, trivial⟩
  · simp only [blkL]
    (focus ((repeat' (first | exact Keep.nil _ | exact Ext.one _ _ | apply Keep.cons)); done))
  · rintro ⟨i, ov⟩ ⟨hi, hov⟩
    simp only at hi hov ⊢
    by_cases hlt : 32 * i < n
    · have hD := strm1_len k2 nonce i
      have hsu := strmB_succ k2 nonce i
      have hbl := strmB_len k2 nonce i
      have hb0 : 0 ≤ (nonce.length : Int) ∧ (nonce.length : Int) ≤ 255 := by omega
      have hl4 : u8s (len4 i) = [.int .u8 ((i : Int) / 16777216), .int .u8 ((i : Int) / 65536 % 256), .int .u8 ((i : Int) / 256 % 256), .int .u8 ((i : Int) % 256)] := by
        have e1 : (i : Int) / 16777216 % 256 = (i : Int) / 16777216 := by omega
        simp only [len4, u8s, List.map_cons, List.map_nil, e1]
      have hmsg : Byt ((nonce.length : Int) :: (nonce ++ len4 i)) := by
        intro y hy
        rcases List.mem_cons.1 hy with rfl | hy
        · exact hb0
        · rcases List.mem_append.1 hy with hy | hy
          · exact hnb y hy
          · exact len4_byt _ y hy
      have hs1 : strm1 k2 nonce i = hmacI k2 ((nonce.length : Int) :: (nonce ++ len4 i)) := rfl
      have hmc : u8s ((nonce.length : Int) :: (nonce ++ len4 i)) = ([Value.int .u8 nonce.length] ++ u8s nonce) ++ u8s (len4 i) := by
        rw [List.append_assoc, ← u8s_app]; rfl
      have hml : ((nonce.length : Int) :: (nonce ++ len4 i)).length = 1 + nonce.length + 4 := by simp [len4]; omega
      repeat' (first | (apply R.is1; first | (apply R.isBin; (apply R.pure; exact rfl; first | (apply Ok1.lss_t; exact rfl; exact rfl; omega) | (apply Ok1.quo64; exact rfl; exact rfl; omega; omega; omega) | (apply Ok1.remN; exact rfl; exact rfl; omega; omega))) | (apply R.isCall; first | (apply R.pure; exact rfl; apply Ok1.lenOv; (iterate 3 exact rfl); exact hov) | (apply R.appendRd (xs := nonce) (v := u8V) (sz := 1) (ov := some (_, 0, [])) (n := 1) (old := [.int .u8 nonce.length]) (m := nonce.length); (iterate 12 exact rfl); exact ⟨rfl, rfl⟩; (focus ((repeat' (exact Ext.one _ _)); done)); exact rfl; exact u8V_len; exact rfl; (intro w1 hw1; exact hpn.chg' hw1.chg (fun _ => Off.nil _)); (focus (rw [fl_u8]; exact u8s_one _)); omega; intro ov1 hov1 hsome1) | (apply R.appendRd (xs := len4 i) (v := u8V) (sz := 1) (ov := ov1) (n := 1 + nonce.length) (old := [.int .u8 nonce.length] ++ fl u8V nonce) (m := 4); (iterate 12 exact rfl); exact hov1; (focus ((repeat' (first | exact Ext.here _ _ | apply Ext.cons)); done)); exact rfl; exact u8V_len; exact rfl; (intro w1 hw1; exact RdSl.of (junk := []) hw1 (by exact At.head) (by rw [fl_u8, hl4, List.append_nil])); (focus (rw [fl_u8]; exact u8s_one _)); omega; intro ov2 hov2 hsome2) | (apply R.pure; exact rfl; (apply Ok1.lenS; (iterate 3 exact rfl)))) | (apply R.pure; exact rfl; first | (apply Ok1.move; exact rfl) | (apply Ok1.assign; exact rfl) | (apply Ok1.convU8; (iterate 5 exact rfl); omega; omega)) | (apply R.buildSlice; (iterate 12 exact rfl); intro)) | apply R.nil | (apply T.is; first | (apply T.stop1 8) | apply T.seq | apply T.region | apply T.block | apply T.skip | (apply T.cond_t; exact rfl)))
      refine ⟨?_⟩
      rw [fl_u8, fl_u8, ← hmc] at hov2 ⊢
      obtain ⟨bm, jm, km, rfl⟩ := ovsome hov2 (by omega)
      rename_i bq1 bq4
      simp only [slV, blkL, List.cons_append, List.nil_append]
      have htg : ∀ w1 L, Hp w [] L w1 → (b9, Obj.cells ⟨u8s k2⟩ 123 (0, 0)) ∈ L → (bm, Obj.cells ⟨u8s ((nonce.length : Int) :: (nonce ++ len4 i)) ++ km⟩ 5 (0, 0)) ∈ L → CallW Tryz.prog 118 [.agg ⟨tv⟩, .slice (some ⟨b9, 0, none⟩) 32 32, .slice (some ⟨bm, 0, none⟩) (1 + nonce.length + 4) (1 + nonce.length + 4 + jm)] w1 fun v _ => v = .agg ⟨u8s (strm1 k2 nonce i)⟩ := by
        intro w1 L h1 h2 h3
        exact htag _ _ _ (1 + nonce.length + 4) _ _ w1 hml.symm hmsg (by omega) (RdSl.ofMem (junk := []) h1 h2 (by rw [fl_u8, List.append_nil])) (RdSl.ofMem (junk := km) h1 h3 (by rw [fl_u8]))
      generalize u8s ((nonce.length : Int) :: (nonce ++ len4 i)) = MM at *
      generalize hDD : strm1 k2 nonce i = D at *
      have hls : (u8s D).length = 32 := by rw [u8s_len, hD]
      have hset : ∀ cs : List Value, cs.length = 32 → setE cs 0 (u8s D) = some (u8s D) := fun cs h => setE_all (by rw [hls, h])
      generalize hMc : Obj.cells ⟨MM ++ km⟩ 5 (0, 0) = MO at *
      repeat' (first | (apply R.is1; first | (apply R.isBin; (apply R.pure; exact rfl; (apply Ok1.add64; exact rfl; exact rfl; omega; omega))) | (apply R.isCall; (apply R.appendRd (xs := D) (v := u8V) (sz := 1) (ov := ov) (n := 32 * i) (old := u8s (strmB k2 nonce i)); (iterate 12 exact rfl); exact hov; (focus ((repeat' (first | exact Ext.all _ | apply Ext.cons)); done)); exact hD.symm; exact u8V_len; exact rfl; (intro w1 hw1; exact RdSl.of (junk := []) hw1 (by exact At.head) (by rw [fl_u8, List.append_nil])); (rw [fl_u8]; exact u8s_one _); omega; intro ov3 hov3 hsome3)) | (apply R.pure; exact rfl; first | (apply Ok1.sliceArr; (iterate 4 exact rfl)) | (apply Ok1.move; exact rfl) | (apply Ok1.assign; exact rfl))) | apply R.nil | (apply T.is; first | (apply T.drawC (id := 8) [3] (by decide); ((apply A.take 0; exact rfl; exact rfl; kernel_rfl; kernel_rfl; kernel_rfl; (apply Ok1.load; exact rfl; apply Ld.ownk; exact rfl; exact rfl; exact At.head; exact subE_all htl)) <;> (apply A.take 1; exact rfl; exact rfl; kernel_rfl; kernel_rfl; kernel_rfl; (apply Ok1.sliceArr; (iterate 4 exact rfl))) <;> (apply A.take 2; exact rfl; exact rfl; kernel_rfl; kernel_rfl; kernel_rfl; (apply Ok1.move; exact rfl)) <;> (apply A.two 3 4; kernel_rfl; exact rfl; exact rfl; rotate_left 1; (focus (((((apply R.alloc; (iterate 3 exact rfl); intro))); apply R.nil; refine ⟨?_, ?_⟩; (focus ((repeat' (first | exact trivial | (refine ⟨?_, ?_⟩; (focus ((repeat' (first | exact At.head | apply At.tail)); done)))))))) <;> (apply A.one 3; kernel_rfl; exact rfl; (((apply R.callW (vs := [.agg ⟨tv⟩, .slice (some ⟨b9, 0, none⟩) 32 32, .slice (some ⟨bm, 0, none⟩) (1 + nonce.length + 4) (1 + nonce.length + 4 + jm)]); (iterate 3 exact rfl); intro w1 hw1; exact htg w1 _ hw1 (At.mem (by (focus ((repeat' (first | exact At.head | apply At.tail)); done)))) (At.mem (by (focus ((repeat' (first | exact At.head | apply At.tail)); done)))); rintro v rfl))); apply R.nil; refine ⟨?_, ?_⟩; (focus ((repeat' (first | exact trivial | (refine ⟨?_, ?_⟩; (focus ((repeat' (first | exact At.head | apply At.tail)); done)))))))) <;> (apply A.one 5; kernel_rfl; exact rfl; (((apply R.store; (iterate 4 exact rfl); exact hls; exact u8s_one D; exact Upd.head; exact hset _ rfl))); apply R.nil; refine ⟨?_, ?_⟩; (focus ((repeat' (first | exact trivial | (refine ⟨?_, ?_⟩; (focus ((repeat' (first | exact At.head | apply At.tail)); done)))))))) <;> (apply A.done; kernel_rfl))); rotate_right 1; (focus (((((apply R.callW (vs := [.agg ⟨tv⟩, .slice (some ⟨b9, 0, none⟩) 32 32, .slice (some ⟨bm, 0, none⟩) (1 + nonce.length + 4) (1 + nonce.length + 4 + jm)]); (iterate 3 exact rfl); intro w1 hw1; exact htg w1 _ hw1 (At.mem (by (focus ((repeat' (first | exact At.head | apply At.tail)); done)))) (At.mem (by exact At.head)); rintro v rfl))); apply R.nil; refine ⟨?_, ?_⟩; (focus ((repeat' (first | exact trivial | (refine ⟨?_, ?_⟩; (focus ((repeat' (first | exact At.head | apply At.tail)); done)))))))) <;> (apply A.one 4; kernel_rfl; exact rfl; (((apply R.alloc; (iterate 3 exact rfl); intro))); apply R.nil; refine ⟨?_, ?_⟩; (focus ((repeat' (first | exact trivial | (refine ⟨?_, ?_⟩; (focus ((repeat' (first | exact At.head | apply At.tail)); done)))))))) <;> (apply A.one 5; kernel_rfl; exact rfl; (((apply R.store; (iterate 4 exact rfl); exact hls; exact u8s_one D; exact Upd.head; exact hset _ rfl))); apply R.nil; refine ⟨?_, ?_⟩; (focus ((repeat' (first | exact trivial | (refine ⟨?_, ?_⟩; (focus ((repeat' (first | exact At.head | apply At.tail)); done)))))))) <;> (apply A.done; kernel_rfl)))))) | apply T.seq | apply T.region))
      all_goals rw [fl_u8, ← u8s_app, ← hsu] at hov3
      all_goals rw [fl_u8, ← u8s_app, ← hsu]
      all_goals have h32 : 32 * (i + 1) = 32 * i + 32 := by omega
      all_goals refine ⟨(i + 1, ov3), ?_⟩
      all_goals simp only [h32]
      all_goals exact ⟨⟨by omega, hov3⟩, by omega, ⟨rfl, rfl, rfl, rfl, rfl, rfl, trivial⟩, by (focus ((repeat' (first | exact Ext.one _ _ | exact Ext.here _ _ | apply Keep.cons | apply Keep.last | apply Ext.cons | apply Ext.app)); done))⟩
    · have hi2 : (n + 31) / 32 = i := by omega
      have hle := ovc_le9 hov
      rw [slV_eq hov]
      repeat' (first | (apply R.is1; first | (apply R.isBin; (apply R.pure; exact rfl; (apply Ok1.lss_f; exact rfl; exact rfl; omega))) | (apply R.isCall; (apply R.pure; exact rfl; (apply Ok1.lenS; (iterate 3 exact rfl)))) | (apply R.pure; exact rfl; first | (apply Ok1.preR (i := n); (iterate 5 exact rfl); omega) | (apply Ok1.move; exact rfl) | (apply Ok1.assign; exact rfl))) | apply R.nil | (apply T.is; first | apply T.seq | apply T.region | apply T.exit | apply T.ret | (apply T.cond_f; exact rfl)))
      (apply RetOk.t; exact rfl)
      exact ⟨blkL 5 ov (u8s (strmB k2 nonce i)), by (focus ((repeat' (first | exact Ext.all _ | apply Keep.last | apply Ext.cons)); done)), ov, strmB k2 nonce i, _, by rw [strmB_len]; exact hov, by rw [strmB_len]; omega, by rw [hst, hi2], rfl, rfl⟩
end Go.Proofs.YtligngjcnlbgmaaGreat
set_option linter.unusedSimpArgs false
set_option linter.unusedVariables false
namespace Go.Proofs.YtligngjcnlbgmaaGreat
open Go.RowKit Go.Shelf
set_option maxRecDepth 100000
theorem vstag_ok (p : Option Addr) (m cap : Nat) (k : List Int) (hm : m = k.length) (hkl : m ≤ 999999000) (hkb : Byt k) (a b c : Pt) (ha : Byt a.xs) (hb : Byt b.xs) (hc : Byt c.xs) (hla : a.xs.length ≤ 100000) (hlb : b.xs.length ≤ 100000) (hlc : c.xs.length ≤ 100000) (w : World) (hp : RdSl w p u8V k) (h1 : RdSl w a.p u8V a.xs) (h2 : RdSl w b.p u8V b.xs) (h3 : RdSl w c.p u8V c.xs) :
    CallW Tryz.prog 78 [.agg ⟨tabV⟩, .slice p m cap, .slice a.p a.xs.length a.cap, .slice b.p b.xs.length b.cap, .slice c.p c.xs.length c.cap] w fun v _ => v = .agg ⟨u8s (stagI k a.xs b.xs c.xs)⟩ := by
  subst hm
  have htl := tab_len
  have hdv := fun w1 (hc : Chg [] w w1) => vderive_ok p k.length cap k rfl hkl hkb sBind (by decide) none 0 0 [] rfl (by decide) (by simp) (by simp [frameI, len4, strI, sBind]) (by simp) w1 (hp.chg' hc (fun _ => Off.nil _)) (.inl rfl) (by simp)
  simp only [List.map_nil] at hdv
  have hdl := derive_len k sBind []
  have hdb := derive_byt k sBind []
  have hst : stagI k a.xs b.xs c.xs = hmacI (deriveI k sBind []) (frameI [a.xs, b.xs, c.xs]) := rfl
  have hfr : fr [a, b, c] = frameI [a.xs, b.xs, c.xs] := rfl
  have hfb : Byt (frameI [a.xs, b.xs, c.xs]) := frame_byt fun l hl => by
    simp only [List.mem_cons, List.not_mem_nil, or_false] at hl
    rcases hl with rfl | rfl | rfl
    · exact ha
    · exact hb
    · exact hc
  have hfl : (frameI [a.xs, b.xs, c.xs]).length ≤ 999998000 := by
    simp [frameI, len4]
    omega
  have hfm := fun q cc (w1 : World) (hc9 : Chg [] w w1) h9 => vframe_ok q 3 cc [a, b, c] rfl (by decide) (by rw [hfr]; omega) (by intro x hx; simp only [List.mem_cons, List.not_mem_nil, or_false] at hx; rcases hx with rfl | rfl | rfl <;> omega) w1 h9 (by
    intro x hx
    simp only [List.mem_cons, List.not_mem_nil, or_false] at hx
    rcases hx with rfl | rfl | rfl
    · exact h1.chg' hc9 (fun _ => Off.nil _)
    · exact h2.chg' hc9 (fun _ => Off.nil _)
    · exact h3.chg' hc9 (fun _ => Off.nil _))
  rw [hfr] at hfm
  rw [hst]
  generalize deriveI k sBind [] = k2 at *
  have hkl2 : (u8s k2).length = 32 := by rw [u8s_len, hdl]
  generalize hFF : frameI [a.xs, b.xs, c.xs] = F9 at *
  have htag := fun q c pb cb w1 h4 h5 => vtag_ok q 32 c k2 hdl.symm (by decide) hdb pb F9.length cb F9 rfl hfb hfl w1 h4 h5
  have hr : (hmacI k2 F9).length = 32 := hmac_len _ _
  generalize hmacI k2 F9 = D at *
  have hls : (u8s D).length = 32 := by rw [u8s_len, hr]
  have hone := u8s_one D
  generalize tabV = tv at *
  refine enterW (tb := tb) Tryz.func78 rfl Tryz.ntmps78 rfl ?_
  repeat' (first | (apply R.is1; first | (apply R.isCall; (apply R.callV (vs := [.agg ⟨tv⟩, .slice p k.length cap, .string sBind, .slice none 0 0]); (iterate 3 exact rfl); intro w1 hw1; exact hdv w1 hw1.chg)) | (apply R.pure; exact rfl; first | (apply Ok1.load; exact rfl; apply Ld.ownk; exact rfl; exact rfl; (focus ((repeat' (first | exact At.head | apply At.tail)); done)); exact subE_all htl) | (apply Ok1.move; exact rfl)) | (apply R.box; (iterate 3 exact rfl); intro) | (apply R.alloc; (iterate 3 exact rfl); intro)) | (apply R.is0; (apply R.store; (iterate 4 exact rfl); exact hkl2; exact u8s_one k2; exact Upd.head; exact setE_all hkl2)) | apply R.nil | (apply T.is; first | (apply T.stop1 2) | apply T.seq | apply T.region))
  refine ⟨?_⟩
  rename_i b5 b10 b11
  repeat' ((apply T.is; first | (apply T.drawC (id := 2) [2] (by decide); ((apply A.take 0; exact rfl; exact rfl; kernel_rfl; kernel_rfl; kernel_rfl; (apply Ok1.load; exact rfl; apply Ld.ownk; exact rfl; exact rfl; exact At.head; exact subE_all htl)) <;> (apply A.take 1; exact rfl; exact rfl; kernel_rfl; kernel_rfl; kernel_rfl; (apply Ok1.sliceArr; (iterate 4 exact rfl))) <;> (apply A.take 2; exact rfl; exact rfl; kernel_rfl; kernel_rfl; kernel_rfl; (apply Ok1.move; exact rfl)) <;> (apply A.take 3; exact rfl; exact rfl; kernel_rfl; kernel_rfl; kernel_rfl; (apply Ok1.move; exact rfl)) <;> (apply A.take 4; exact rfl; exact rfl; kernel_rfl; kernel_rfl; kernel_rfl; (apply Ok1.move; exact rfl)) <;> (apply A.one 5; kernel_rfl; exact rfl; (((apply R.buildSlice; (iterate 12 exact rfl); intro))); apply R.nil; refine ⟨?_, ?_⟩; (focus ((repeat' (first | exact trivial | (refine ⟨?_, ?_⟩; (focus ((repeat' (first | exact At.head | apply At.tail)); done)))))))) <;> (apply A.one 6; kernel_rfl; exact rfl; (((apply R.callE (vs := [.slice (some ⟨_, 0, none⟩) 3 3]); (iterate 3 exact rfl); exact Ext.none _; intro w1 hw1; exact hfm _ _ w1 hw1.chg (RdSl.of (junk := []) hw1 (by exact At.head) (by simp [fl, Pt.v])); rintro v Lo ⟨ovf, hovf, rfl, rfl⟩; rw [slV_eq hovf]))); apply R.nil; refine ⟨?_, ?_⟩; (focus ((repeat' (first | exact trivial | (refine ⟨?_, ?_⟩; (focus ((repeat' (first | exact At.head | apply At.tail | apply At.right)); done)))))))) <;> (apply A.one 7; kernel_rfl; exact rfl; (((apply R.callW (vs := [.agg ⟨tv⟩, .slice (some ⟨b11, 0, none⟩) 32 32, .slice (ovp ovf) F9.length (ovc ovf F9.length)]); (iterate 3 exact rfl); intro w1 hw1; exact htag _ _ _ _ w1 (RdSl.of (junk := []) hw1 (by (focus ((repeat' (first | exact At.head | apply At.tail | apply At.right)); done))) (by rw [fl_u8, List.append_nil])) (rdown hovf hw1 (Ext.mem (by (focus ((repeat' (exact Ext.here _ _)); done))))); rintro v rfl))); apply R.nil; refine ⟨?_, ?_⟩; (focus ((repeat' (first | exact trivial | (refine ⟨?_, ?_⟩; (focus ((repeat' (first | exact At.head | apply At.tail | apply At.right)); done)))))))) <;> (apply A.one 8; kernel_rfl; exact rfl; (((apply R.store; (iterate 4 exact rfl); exact hls; exact hone; (focus ((repeat' (first | exact Upd.head | apply Upd.tail | apply Upd.right)); done)); exact setE_all hls))); apply R.nil; refine ⟨?_, ?_⟩; (focus ((repeat' (first | exact trivial | (refine ⟨?_, ?_⟩; (focus ((repeat' (first | exact At.head | apply At.tail | apply At.right)); done)))))))) <;> (apply A.done; kernel_rfl))) | apply T.seq | apply T.ret))
  all_goals apply RetOk.c
  all_goals first | exact rfl | skip
  all_goals (apply Ld.ownk; exact rfl; exact rfl; (focus ((repeat' (first | exact At.head | apply At.tail | apply At.right)); done)); exact subE_all hls)
end Go.Proofs.YtligngjcnlbgmaaGreat
set_option linter.unusedSimpArgs false
set_option linter.unusedVariables false
namespace Go.Proofs.YtligngjcnlbgmaaGreat
open Go.RowKit Go.Shelf
set_option maxRecDepth 100000
theorem vsseal_ok (p : Option Addr) (m cap : Nat) (k : List Int) (hm : m = k.length) (hkl : m ≤ 999999000) (hkb : Byt k) (pn : Option Addr) (nl cn : Nat) (nonce : List Int) (hnl : nl = nonce.length) (hn32 : nl ≤ 32) (hnb : Byt nonce) (pb : Option Addr) (bl cb : Nat) (bound : List Int) (hbl : bl = bound.length) (hb32 : bl ≤ 100000) (hbb : Byt bound) (pd : Option Addr) (n cd : Nat) (b : List Int) (hn : n = b.length) (hbig : n ≤ 65536) (hby : Byt b) (w : World) (hp : RdSl w p u8V k) (hpn : RdSl w pn u8V nonce) (hpb : RdSl w pb u8V bound) (hpd : RdSl w pd u8V b) :
    CallM Tryz.prog 50 [.agg ⟨tabV⟩, .slice p m cap, .slice pn nl cn, .slice pb bl cb, .slice pd n cd] [] w fun v L => ∃ ov, OvOk 1 ov (n + 32) (u8s (sealI k nonce bound b)) ∧ v = slV ov (n + 32) ∧ L = blkL 5 ov (u8s (sealI k nonce bound b)) := by
  subst hm hnl hbl hn
  have htl := tab_len
  have hst := fun w1 (hc : Chg [] w w1) => vstream_ok p k.length cap k rfl hkl hkb pn nonce.length cn nonce rfl hn32 hnb b.length hbig w1 (hp.chg' hc (fun _ => Off.nil _)) (hpn.chg' hc (fun _ => Off.nil _))
  have htn := fun q c s w1 (hc : Chg [] w w1) hs h1 => vturned_ok pd b.length cd b rfl (by omega) q b.length c s hs (by omega) w1 (hpd.chg' hc (fun _ => Off.nil _)) h1
  have htg := fun q c body w1 (hc : Chg [] w w1) h1 h2 h3 => vstag_ok p k.length cap k rfl hkl hkb ⟨pn, cn, nonce⟩ ⟨pb, cb, bound⟩ ⟨q, c, body⟩ hnb hbb h1 (by simp only; omega) (by simp only; omega) h2 w1 (hp.chg' hc (fun _ => Off.nil _)) (hpn.chg' hc (fun _ => Off.nil _)) (hpb.chg' hc (fun _ => Off.nil _)) h3
  simp only at htg
  have hsl := strmI_len k nonce b.length
  have hss : sealI k nonce bound b = turnI b (strmI k nonce b.length) ++ stagI k nonce bound (turnI b (strmI k nonce b.length)) := rfl
  rw [hss]
  generalize strmI k nonce b.length = S at *
  have htk : S.take b.length = S := List.take_of_length_le (by omega)
  have hBl : (turnI b S).length = b.length := turnI_len hsl.symm
  have hBb := turnI_byt b S
  have htn2 := fun q c w1 hc h1 => htn q c S w1 hc hsl.symm h1
  rw [htk] at htn2
  generalize turnI b S = B at *
  have htg2 := fun q c w1 hc h3 => htg q c B w1 hc hBb (by omega) h3
  have hDl := stagI_len k nonce bound B
  generalize stagI k nonce bound B = D at *
  have hls : (u8s D).length = 32 := by rw [u8s_len, hDl]
  have hone := u8s_one D
  rw [hBl] at htg2
  generalize tabV = tv at *
  clear htn htg
  refine enterK (tb := tb) Tryz.func50 rfl Tryz.ntmps50 rfl ?_
  repeat' (first | (apply R.is1; first | (apply R.isCall; first | (apply R.callE (vs := [.agg ⟨tv⟩, .slice p k.length cap, .slice pn nonce.length cn, .int .i64 b.length]); (iterate 3 exact rfl); exact Ext.none _; intro w1 hw1; exact hst w1 hw1.chg; rintro v Lo ⟨ovS, W, cS, hovS, hWl, hWt, rfl, rfl⟩) | (apply R.callE (vs := [.slice pd b.length cd, .slice (ovp ovS) b.length cS]); (iterate 3 exact rfl); exact Ext.none _; intro w1 hw1; exact htn2 _ _ w1 hw1.chg (hWt ▸ (rdown hovS hw1 (Ext.mem (by (focus ((repeat' (exact Ext.here _ _)); done))))).pre u8V_len b.length); rintro v Lo ⟨ovB, hovB, rfl, rfl⟩; rw [slV_eq hovB]) | (apply R.callV (vs := [.agg ⟨tv⟩, .slice p k.length cap, .slice pn nonce.length cn, .slice pb bound.length cb, .slice (ovp ovB) b.length (ovc ovB b.length)]); (iterate 3 exact rfl); intro w1 hw1; exact htg2 _ _ w1 hw1.chg (rdown (by rw [hBl]; exact hovB) hw1 (Ext.mem (by (focus ((repeat' (exact Ext.here _ _)); done)))))) | (apply R.pure; exact rfl; (apply Ok1.lenS; (iterate 3 exact rfl)))) | (apply R.pure; exact rfl; first | (apply Ok1.load; exact rfl; apply Ld.ownk; exact rfl; exact rfl; (focus ((repeat' (first | exact At.head | apply At.right)); done)); exact subE_all htl) | (apply Ok1.move; exact rfl) | (apply Ok1.assign; exact rfl)) | (apply R.box; (iterate 3 exact rfl); intro) | (apply R.alloc; (iterate 3 exact rfl); intro)) | (apply R.is0; (apply R.store; (iterate 4 exact rfl); exact hls; exact hone; exact Upd.head; exact setE_all hls)) | apply R.nil | (apply T.is; first | (apply T.stop1 3) | apply T.seq | apply T.region))
  refine ⟨?_⟩
  rename_i b5 b12
  repeat' ((apply T.is; first | (apply T.drawC (id := 3) [0] (by decide); ((apply A.take 1; exact rfl; exact rfl; kernel_rfl; kernel_rfl; kernel_rfl; (apply Ok1.move; exact rfl)) <;> (apply A.take 3; exact rfl; exact rfl; kernel_rfl; kernel_rfl; kernel_rfl; (apply Ok1.sliceArr; (iterate 4 exact rfl))) <;> (apply A.one 0; kernel_rfl; exact rfl; (((apply R.buildSlice0; (iterate 4 exact rfl); intro b0))); apply R.nil; refine ⟨?_, ?_⟩; (focus ((repeat' (first | exact trivial | (refine ⟨?_, ?_⟩; (focus ((repeat' (first | exact At.head | apply At.tail)); done)))))))) <;> (apply A.one 2; kernel_rfl; exact rfl; (((apply R.appendRd (xs := B) (v := u8V) (sz := 1) (ov := some (_, 0, [])) (n := 0) (old := []) (m := b.length); (iterate 12 exact rfl); exact ⟨rfl, rfl⟩; (focus ((repeat' (exact Ext.one _ _)); done)); exact hBl.symm; exact u8V_len; exact rfl; (intro w1 hw1; exact rdown (by rw [hBl]; exact hovB) hw1 (Ext.mem (by (focus ((repeat' (first | exact Ext.here _ _ | apply Ext.cons)); done))))); (focus (rw [fl_u8]; exact u8s_one _)); omega; intro ov1 hov1 hsome1; rw [Nat.zero_add, List.nil_append, fl_u8] at hov1; rw [Nat.zero_add, List.nil_append, fl_u8]))); apply R.nil; refine ⟨?_, ?_⟩; (focus ((repeat' (first | exact trivial | (refine ⟨?_, ?_⟩; (focus ((repeat' (first | exact At.head | apply At.right)); done)))))))) <;> (apply A.one 4; kernel_rfl; exact rfl; (((apply R.appendRd (xs := D) (v := u8V) (sz := 1) (ov := ov1) (n := b.length) (old := u8s B) (m := 32); (iterate 12 exact rfl); exact hov1; (focus ((repeat' (exact Ext.here _ _)); done)); exact hDl.symm; exact u8V_len; exact rfl; (intro w1 hw1; exact RdSl.of (junk := []) hw1 (by (focus ((repeat' (first | exact At.head | apply At.right)); done))) (by rw [fl_u8, List.append_nil])); (focus (rw [fl_u8]; exact u8s_one _)); omega; intro ov2 hov2 hsome2; rw [fl_u8, ← u8s_app] at hov2; rw [fl_u8, ← u8s_app]))); apply R.nil; refine ⟨?_, ?_⟩; (focus ((repeat' (first | exact trivial | (refine ⟨?_, ?_⟩; (focus ((repeat' (first | exact At.head | apply At.right)); done)))))))) <;> (apply A.take 5; exact rfl; exact rfl; kernel_rfl; kernel_rfl; kernel_rfl; (apply Ok1.assign; exact rfl)) <;> (apply A.done; kernel_rfl))) | apply T.seq | apply T.ret))
  all_goals (apply RetOk.t; exact rfl)
  all_goals exact ⟨_, by (focus ((repeat' (first | exact Ext.here _ _ | apply Keep.last)); done)), ov2, hov2, rfl, rfl⟩
theorem vsopen_ok (p : Option Addr) (m cap : Nat) (k : List Int) (hm : m = k.length) (hkl : m ≤ 999999000) (hkb : Byt k) (pn : Option Addr) (nl cn : Nat) (nonce : List Int) (hnl : nl = nonce.length) (hn32 : nl ≤ 32) (hnb : Byt nonce) (pb : Option Addr) (bl cb : Nat) (bound : List Int) (hbl : bl = bound.length) (hb32 : bl ≤ 100000) (hbb : Byt bound) (pd : Option Addr) (n cd : Nat) (s : List Int) (hn : n = s.length) (hcd : n ≤ cd) (hbig : n ≤ 65568) (hby : Byt s) (w : World) (hp : RdSl w p u8V k) (hpn : RdSl w pn u8V nonce) (hpb : RdSl w pb u8V bound) (hpd : RdSl w pd u8V s) :
    CallM Tryz.prog 52 [.agg ⟨tabV⟩, .slice p m cap, .slice pn nl cn, .slice pb bl cb, .slice pd n cd] [] w fun v L => ∃ ov, OvOk 1 ov (sopN k nonce bound s).length (u8s (sopN k nonce bound s)) ∧ v = .tuple #[slV ov (sopN k nonce bound s).length, .int .i64 (sopE k nonce bound s)] ∧ L = blkL 5 ov (u8s (sopN k nonce bound s)) := by
  subst hm hnl hbl hn
  by_cases h32 : s.length < 32
  · have he : sopE k nonce bound s = 4 := by unfold sopE; rw [if_pos h32]
    have hN : sopN k nonce bound s = [] := by unfold sopN; rw [he]; rfl
    rw [he, hN]
    generalize tabV = tv at *
    refine enterK (tb := tb) Tryz.func52 rfl Tryz.ntmps52 rfl ?_
    repeat' (first | (apply R.is1; first | (apply R.isBin; (apply R.pure; exact rfl; first | (apply Ok1.sub64; exact rfl; exact rfl; omega; omega) | (apply Ok1.lss_t; exact rfl; exact rfl; omega) | (apply Ok1.gtr_f; exact rfl; exact rfl; omega))) | (apply R.isCall; (apply R.pure; exact rfl; (apply Ok1.lenS; (iterate 3 exact rfl)))) | (apply R.pure; exact rfl; first | (apply Ok1.move; exact rfl) | (apply Ok1.assign; exact rfl)) | (apply R.box; (iterate 3 exact rfl); intro)) | apply R.nil | (apply T.is; first | apply T.seq | apply T.region | apply T.skip | apply T.ret | (apply T.cond_t; exact rfl) | (apply T.cond_f; exact rfl)))
    (apply RetOk.tt; exact rfl; exact rfl)
    exact ⟨[], by (focus ((repeat' (exact Keep.nil _)); done)), none, OvOk.start 1, rfl, rfl⟩
  have htl := tab_len
  obtain ⟨r, hr⟩ : ∃ r, r = s.length - 32 := ⟨_, rfl⟩
  have hbl9 : (s.take r).length = r := by rw [List.length_take]; omega
  have hdl9 : (s.drop r).length = 32 := by rw [List.length_drop]; omega
  have hp1 := hpd.pre u8V_len r
  have hp2 := hpd.suf u8V_len (cap := cd) (i := r) (by omega) hcd
  have hst := fun w1 (hc : Chg [] w w1) => vstream_ok p k.length cap k rfl hkl hkb pn nonce.length cn nonce rfl hn32 hnb r (by omega) w1 (hp.chg' hc (fun _ => Off.nil _)) (hpn.chg' hc (fun _ => Off.nil _))
  have htn := fun q c w1 (hc : Chg [] w w1) h1 => vturned_ok pd r cd (s.take r) hbl9.symm (by omega) q r c (strmI k nonce r) (by rw [strmI_len]) (by rw [strmI_len]; omega) w1 (hp1.chg' hc (fun _ => Off.nil _)) h1
  have hsl := strmI_len k nonce r
  have htk : (strmI k nonce r).take r = strmI k nonce r := List.take_of_length_le (by omega)
  rw [htk] at htn
  clear htk
  have htg := fun w1 (hc : Chg [] w w1) => vstag_ok p k.length cap k rfl hkl hkb ⟨pn, cn, nonce⟩ ⟨pb, cb, bound⟩ ⟨pd, cd, s.take r⟩ hnb hbb (hby.take r) (by simp only; omega) (by simp only; omega) (by simp only; omega) w1 (hp.chg' hc (fun _ => Off.nil _)) (hpn.chg' hc (fun _ => Off.nil _)) (hpb.chg' hc (fun _ => Off.nil _)) (hp1.chg' hc (fun _ => Off.nil _))
  simp only [hbl9] at htg
  have hDl := stagI_len k nonce bound (s.take r)
  have hE : sopE k nonce bound s = if stagI k nonce bound (s.take r) = s.drop r then 0 else 5 := by unfold sopE; rw [if_neg h32, ← hr]
  have hI : sopI k nonce s = turnI (s.take r) (strmI k nonce r) := by unfold sopI; rw [← hr]
  have hIl : (turnI (s.take r) (strmI k nonce r)).length = r := by rw [turnI_len (by rw [hsl, hbl9]), hbl9]
  have hsm := fun b w1 (hc : Chg [] w w1) h1 => same_ok (some ⟨b, 0, none⟩) (sufP pd cd r 1) 32 (s.length - r) 32 (cd - r) (stagI k nonce bound (s.take r)) (s.drop r) hDl.symm (by rw [List.length_drop]) (by decide) w1 h1 (hp2.chg' hc (fun _ => Off.nil _))
  have hri : ((s.length : Nat) : Int) - 32 = (r : Int) := by omega
  generalize stagI k nonce bound (s.take r) = D at *
  generalize strmI k nonce r = S at *
  have hls : (u8s D).length = 32 := by rw [u8s_len, hDl]
  have hone := u8s_one D
  generalize tabV = tv at *
  by_cases hs9 : D = s.drop r
  · rw [if_pos hs9] at hE
    have hN : sopN k nonce bound s = turnI (s.take r) S := by unfold sopN; rw [if_pos hE, hI]
    rw [hE, hN, hIl]
    simp only [decide_eq_true hs9] at hsm
    refine enterK (tb := tb) Tryz.func52 rfl Tryz.ntmps52 rfl ?_
    repeat' (first | (apply R.is1; first | (apply R.isBin; (apply R.pure; exact rfl; first | (apply Ok1.sub64; exact rfl; exact rfl; omega; omega) | (apply Ok1.lss_f; exact rfl; exact rfl; omega) | (apply Ok1.gtr_f; exact rfl; exact rfl; omega))) | (apply R.isCall; (apply R.pure; exact rfl; (apply Ok1.lenS; (iterate 3 exact rfl)))) | (apply R.pure; exact rfl; first | (apply Ok1.move; exact rfl) | (apply Ok1.assign; exact rfl)) | (apply R.box; (iterate 3 exact rfl); intro)) | apply R.nil | (apply T.is; first | (apply T.drawC (id := 8) [0] (by decide); ((apply A.take 0; exact rfl; exact rfl; kernel_rfl; kernel_rfl; kernel_rfl; (apply Ok1.load; exact rfl; apply Ld.ownk; exact rfl; exact rfl; exact At.head; exact subE_all htl)) <;> (apply A.take 1; exact rfl; exact rfl; kernel_rfl; kernel_rfl; kernel_rfl; (apply Ok1.move; exact rfl)) <;> (apply A.take 2; exact rfl; exact rfl; kernel_rfl; kernel_rfl; kernel_rfl; (apply Ok1.move; exact rfl)) <;> (apply A.take 3; exact rfl; exact rfl; kernel_rfl; kernel_rfl; kernel_rfl; (apply Ok1.move; exact rfl)) <;> (apply A.take 4; exact rfl; exact rfl; kernel_rfl; kernel_rfl; kernel_rfl; (apply Ok1.move; exact rfl)) <;> (apply A.take 5; exact rfl; exact rfl; kernel_rfl; kernel_rfl; kernel_rfl; (apply Ok1.move; exact rfl)) <;> (apply A.take 6; exact rfl; exact rfl; kernel_rfl; kernel_rfl; kernel_rfl; (apply Ok1.preR (i := r); (iterate 4 exact rfl); exact congrArg (fun z => some (Value.int .i64 z)) hri; omega)) <;> (apply A.two 7 8; kernel_rfl; exact rfl; exact rfl; rotate_left 1; (focus (((((apply R.alloc; (iterate 3 exact rfl); intro))); apply R.nil; refine ⟨?_, ?_⟩; (focus ((repeat' (first | exact trivial | (refine ⟨?_, ?_⟩; (focus ((repeat' (first | exact At.head | apply At.tail)); done)))))))) <;> (apply A.one 7; kernel_rfl; exact rfl; (((apply R.callV (vs := [.agg ⟨tv⟩, .slice p k.length cap, .slice pn nonce.length cn, .slice pb bound.length cb, .slice pd r cd]); (iterate 3 exact rfl); intro w1 hw1; exact htg w1 hw1.chg))); apply R.nil; refine ⟨?_, ?_⟩; (focus ((repeat' (first | exact trivial | (refine ⟨?_, ?_⟩; (focus ((repeat' (first | exact At.head | apply At.tail)); done)))))))) <;> (apply A.one 9; kernel_rfl; exact rfl; (((apply R.store; (iterate 4 exact rfl); exact hls; exact hone; exact Upd.head; exact setE_all hls))); apply R.nil; refine ⟨?_, ?_⟩; (focus ((repeat' (first | exact trivial | (refine ⟨?_, ?_⟩; (focus ((repeat' (first | exact At.head | apply At.tail)); done)))))))) <;> (apply A.done; kernel_rfl))); rotate_right 1; (focus (((((apply R.callV (vs := [.agg ⟨tv⟩, .slice p k.length cap, .slice pn nonce.length cn, .slice pb bound.length cb, .slice pd r cd]); (iterate 3 exact rfl); intro w1 hw1; exact htg w1 hw1.chg))); apply R.nil; refine ⟨?_, ?_⟩; (focus ((repeat' (first | exact trivial | (refine ⟨?_, ?_⟩; exact At.head)))))) <;> (apply A.one 8; kernel_rfl; exact rfl; (((apply R.alloc; (iterate 3 exact rfl); intro))); apply R.nil; refine ⟨?_, ?_⟩; (focus ((repeat' (first | exact trivial | (refine ⟨?_, ?_⟩; (focus ((repeat' (first | exact At.head | apply At.tail)); done)))))))) <;> (apply A.one 9; kernel_rfl; exact rfl; (((apply R.store; (iterate 4 exact rfl); exact hls; exact hone; exact Upd.head; exact setE_all hls))); apply R.nil; refine ⟨?_, ?_⟩; (focus ((repeat' (first | exact trivial | (refine ⟨?_, ?_⟩; (focus ((repeat' (first | exact At.head | apply At.tail)); done)))))))) <;> (apply A.done; kernel_rfl)))))) | (apply T.drawC (id := 9) [] (by decide); ((apply A.take 0; exact rfl; exact rfl; kernel_rfl; kernel_rfl; kernel_rfl; (apply Ok1.sliceArr; (iterate 4 exact rfl))) <;> (apply A.take 1; exact rfl; exact rfl; kernel_rfl; kernel_rfl; kernel_rfl; (apply Ok1.move; exact rfl)) <;> (apply A.take 2; exact rfl; exact rfl; kernel_rfl; kernel_rfl; kernel_rfl; (apply Ok1.move; exact rfl)) <;> (apply A.take 3; exact rfl; exact rfl; kernel_rfl; kernel_rfl; kernel_rfl; (apply Ok1.sufR (i := r) (sz := 1); (iterate 5 exact rfl); exact congrArg (fun z => some (Value.int .i64 z)) hri; omega; omega)) <;> (apply A.one 4; kernel_rfl; exact rfl; (((apply R.callW (vs := [.slice (some ⟨_, 0, none⟩) 32 32, .slice (sufP pd cd r 1) (s.length - r) (cd - r)]); (iterate 3 exact rfl); (intro w1 hw1; exact hsm _ w1 hw1.chg (RdSl.of (junk := []) hw1 (by exact At.head) (by rw [fl_u8, List.append_nil]))); rintro v rfl))); apply R.nil; refine ⟨?_, ?_⟩; (focus ((repeat' (exact trivial))))) <;> (apply A.take 5; exact rfl; exact rfl; kernel_rfl; kernel_rfl; kernel_rfl; (apply Ok1.not_t; exact rfl)) <;> (apply A.done; kernel_rfl))) | (apply T.drawC (id := 11) [1] (by decide); ((apply A.take 0; exact rfl; exact rfl; kernel_rfl; kernel_rfl; kernel_rfl; (apply Ok1.move; exact rfl)) <;> (apply A.take 1; exact rfl; exact rfl; kernel_rfl; kernel_rfl; kernel_rfl; (apply Ok1.move; exact rfl)) <;> (apply A.take 2; exact rfl; exact rfl; kernel_rfl; kernel_rfl; kernel_rfl; (apply Ok1.preR (i := r); (iterate 4 exact rfl); exact congrArg (fun z => some (Value.int .i64 z)) hri; omega)) <;> (apply A.take 3; exact rfl; exact rfl; kernel_rfl; kernel_rfl; kernel_rfl; (apply Ok1.load; exact rfl; apply Ld.ownk; exact rfl; exact rfl; exact At.head; exact subE_all htl)) <;> (apply A.take 4; exact rfl; exact rfl; kernel_rfl; kernel_rfl; kernel_rfl; (apply Ok1.move; exact rfl)) <;> (apply A.take 5; exact rfl; exact rfl; kernel_rfl; kernel_rfl; kernel_rfl; (apply Ok1.move; exact rfl)) <;> (apply A.take 6; exact rfl; exact rfl; kernel_rfl; kernel_rfl; kernel_rfl; (apply Ok1.move; exact rfl)) <;> (apply A.one 7; kernel_rfl; exact rfl; (((apply R.callE (vs := [.agg ⟨tv⟩, .slice p k.length cap, .slice pn nonce.length cn, .int .i64 ((s.length : Nat) - 32)]); (iterate 3 exact rfl); exact Ext.none _; intro w1 hw1; rw [hri]; exact hst w1 hw1.chg; rintro v Lo ⟨ovS, W, cS, hovS, hWl, hWt, rfl, rfl⟩))); apply R.nil; refine ⟨?_, ?_⟩; (focus ((repeat' (first | exact trivial | (refine ⟨?_, ?_⟩; (focus ((repeat' (first | exact At.head | apply At.tail | apply At.right)); done)))))))) <;> (apply A.one 8; kernel_rfl; exact rfl; (((apply R.callE (vs := [.slice pd r cd, .slice (ovp ovS) r cS]); (iterate 3 exact rfl); exact Ext.none _; intro w1 hw1; exact htn _ _ w1 hw1.chg (hWt ▸ (rdown hovS hw1 (Ext.mem (by (focus ((repeat' (exact Ext.here _ _)); done))))).pre u8V_len r); rintro v Lo ⟨ovB, hovB, rfl, rfl⟩))); apply R.nil; refine ⟨?_, ?_⟩; (focus ((repeat' (first | exact trivial | (refine ⟨?_, ?_⟩; (focus ((repeat' (first | exact At.head | apply At.tail | apply At.right)); done)))))))) <;> (apply A.take 9; exact rfl; exact rfl; kernel_rfl; kernel_rfl; kernel_rfl; (apply Ok1.assign; exact rfl)) <;> (apply A.take 10; exact rfl; exact rfl; kernel_rfl; kernel_rfl; kernel_rfl; (apply Ok1.assign; exact rfl)) <;> (apply A.done; kernel_rfl))) | apply T.seq | apply T.region | apply T.skip | apply T.ret | (apply T.cond_f; exact rfl)))
    all_goals (apply RetOk.tt; exact rfl; exact rfl)
    all_goals exact ⟨_, by (focus ((repeat' (first | exact Ext.here _ _ | apply Keep.last)); done)), ovB, hovB, rfl, rfl⟩
  · rw [if_neg hs9] at hE
    have hN : sopN k nonce bound s = [] := by unfold sopN; rw [hE]; rfl
    rw [hE, hN]
    simp only [decide_eq_false hs9] at hsm
    refine enterK (tb := tb) Tryz.func52 rfl Tryz.ntmps52 rfl ?_
    repeat' (first | (apply R.is1; first | (apply R.isBin; (apply R.pure; exact rfl; first | (apply Ok1.sub64; exact rfl; exact rfl; omega; omega) | (apply Ok1.lss_f; exact rfl; exact rfl; omega) | (apply Ok1.gtr_f; exact rfl; exact rfl; omega))) | (apply R.isCall; (apply R.pure; exact rfl; (apply Ok1.lenS; (iterate 3 exact rfl)))) | (apply R.pure; exact rfl; first | (apply Ok1.move; exact rfl) | (apply Ok1.assign; exact rfl)) | (apply R.box; (iterate 3 exact rfl); intro)) | apply R.nil | (apply T.is; first | (apply T.drawC (id := 8) [0] (by decide); ((apply A.take 0; exact rfl; exact rfl; kernel_rfl; kernel_rfl; kernel_rfl; (apply Ok1.load; exact rfl; apply Ld.ownk; exact rfl; exact rfl; exact At.head; exact subE_all htl)) <;> (apply A.take 1; exact rfl; exact rfl; kernel_rfl; kernel_rfl; kernel_rfl; (apply Ok1.move; exact rfl)) <;> (apply A.take 2; exact rfl; exact rfl; kernel_rfl; kernel_rfl; kernel_rfl; (apply Ok1.move; exact rfl)) <;> (apply A.take 3; exact rfl; exact rfl; kernel_rfl; kernel_rfl; kernel_rfl; (apply Ok1.move; exact rfl)) <;> (apply A.take 4; exact rfl; exact rfl; kernel_rfl; kernel_rfl; kernel_rfl; (apply Ok1.move; exact rfl)) <;> (apply A.take 5; exact rfl; exact rfl; kernel_rfl; kernel_rfl; kernel_rfl; (apply Ok1.move; exact rfl)) <;> (apply A.take 6; exact rfl; exact rfl; kernel_rfl; kernel_rfl; kernel_rfl; (apply Ok1.preR (i := r); (iterate 4 exact rfl); exact congrArg (fun z => some (Value.int .i64 z)) hri; omega)) <;> (apply A.two 7 8; kernel_rfl; exact rfl; exact rfl; rotate_left 1; (focus (((((apply R.alloc; (iterate 3 exact rfl); intro))); apply R.nil; refine ⟨?_, ?_⟩; (focus ((repeat' (first | exact trivial | (refine ⟨?_, ?_⟩; (focus ((repeat' (first | exact At.head | apply At.tail)); done)))))))) <;> (apply A.one 7; kernel_rfl; exact rfl; (((apply R.callV (vs := [.agg ⟨tv⟩, .slice p k.length cap, .slice pn nonce.length cn, .slice pb bound.length cb, .slice pd r cd]); (iterate 3 exact rfl); intro w1 hw1; exact htg w1 hw1.chg))); apply R.nil; refine ⟨?_, ?_⟩; (focus ((repeat' (first | exact trivial | (refine ⟨?_, ?_⟩; (focus ((repeat' (first | exact At.head | apply At.tail)); done)))))))) <;> (apply A.one 9; kernel_rfl; exact rfl; (((apply R.store; (iterate 4 exact rfl); exact hls; exact hone; exact Upd.head; exact setE_all hls))); apply R.nil; refine ⟨?_, ?_⟩; (focus ((repeat' (first | exact trivial | (refine ⟨?_, ?_⟩; (focus ((repeat' (first | exact At.head | apply At.tail)); done)))))))) <;> (apply A.done; kernel_rfl))); rotate_right 1; (focus (((((apply R.callV (vs := [.agg ⟨tv⟩, .slice p k.length cap, .slice pn nonce.length cn, .slice pb bound.length cb, .slice pd r cd]); (iterate 3 exact rfl); intro w1 hw1; exact htg w1 hw1.chg))); apply R.nil; refine ⟨?_, ?_⟩; (focus ((repeat' (first | exact trivial | (refine ⟨?_, ?_⟩; exact At.head)))))) <;> (apply A.one 8; kernel_rfl; exact rfl; (((apply R.alloc; (iterate 3 exact rfl); intro))); apply R.nil; refine ⟨?_, ?_⟩; (focus ((repeat' (first | exact trivial | (refine ⟨?_, ?_⟩; (focus ((repeat' (first | exact At.head | apply At.tail)); done)))))))) <;> (apply A.one 9; kernel_rfl; exact rfl; (((apply R.store; (iterate 4 exact rfl); exact hls; exact hone; exact Upd.head; exact setE_all hls))); apply R.nil; refine ⟨?_, ?_⟩; (focus ((repeat' (first | exact trivial | (refine ⟨?_, ?_⟩; (focus ((repeat' (first | exact At.head | apply At.tail)); done)))))))) <;> (apply A.done; kernel_rfl)))))) | (apply T.drawC (id := 9) [] (by decide); ((apply A.take 0; exact rfl; exact rfl; kernel_rfl; kernel_rfl; kernel_rfl; (apply Ok1.sliceArr; (iterate 4 exact rfl))) <;> (apply A.take 1; exact rfl; exact rfl; kernel_rfl; kernel_rfl; kernel_rfl; (apply Ok1.move; exact rfl)) <;> (apply A.take 2; exact rfl; exact rfl; kernel_rfl; kernel_rfl; kernel_rfl; (apply Ok1.move; exact rfl)) <;> (apply A.take 3; exact rfl; exact rfl; kernel_rfl; kernel_rfl; kernel_rfl; (apply Ok1.sufR (i := r) (sz := 1); (iterate 5 exact rfl); exact congrArg (fun z => some (Value.int .i64 z)) hri; omega; omega)) <;> (apply A.one 4; kernel_rfl; exact rfl; (((apply R.callW (vs := [.slice (some ⟨_, 0, none⟩) 32 32, .slice (sufP pd cd r 1) (s.length - r) (cd - r)]); (iterate 3 exact rfl); (intro w1 hw1; exact hsm _ w1 hw1.chg (RdSl.of (junk := []) hw1 (by exact At.head) (by rw [fl_u8, List.append_nil]))); rintro v rfl))); apply R.nil; refine ⟨?_, ?_⟩; (focus ((repeat' (exact trivial))))) <;> (apply A.take 5; exact rfl; exact rfl; kernel_rfl; kernel_rfl; kernel_rfl; (apply Ok1.not_f; exact rfl)) <;> (apply A.done; kernel_rfl))) | apply T.seq | apply T.region | apply T.skip | apply T.ret | (apply T.cond_t; exact rfl) | (apply T.cond_f; exact rfl)))
    all_goals (apply RetOk.tt; exact rfl; exact rfl)
    all_goals exact ⟨[], by (focus ((repeat' (exact Keep.nil _)); done)), none, OvOk.start 1, rfl, rfl⟩
end Go.Proofs.YtligngjcnlbgmaaGreat
set_option linter.unusedSimpArgs false
set_option linter.unusedVariables false
namespace Go.Proofs.YtligngjcnlbgmaaGreat
open Go.RowKit Go.Shelf
set_option maxRecDepth 100000
theorem vright26_ok (o r v : Int) : CallP Tryz.prog 48 [.int .i64 o, .int .i64 r, .int .i64 v] (.bool (decide (HRt o r v))) := by
  refine enterP (tb := tb) Tryz.func48 rfl Tryz.ntmps48 rfl fun w => ?_
  by_cases h1 : 0 < o
  case neg =>
    rw [decide_eq_false (by unfold HRt; omega)]
    repeat' (first | (apply R.is1; first | (apply R.isBin; (apply R.pure; exact rfl; (apply Ok1.gtr_f; exact rfl; exact rfl; omega))) | (apply R.pure; exact rfl; first | (apply Ok1.move; exact rfl) | (apply Ok1.assign; exact rfl) | (apply Ok1.pick_f; exact rfl; exact rfl))) | (apply R.isG; (apply R.guard_not; (iterate 3 exact rfl))) | apply R.nil | (apply T.is; first | apply T.seq | apply T.region | apply T.ret))
    (apply RetOk.t; exact rfl)
    rfl
  by_cases h2 : o < 65536
  case neg =>
    rw [decide_eq_false (by unfold HRt; omega)]
    repeat' (first | (apply R.is1; first | (apply R.isBin; (apply R.pure; exact rfl; first | (apply Ok1.lss_f; exact rfl; exact rfl; omega) | (apply Ok1.gtr_t; exact rfl; exact rfl; omega))) | (apply R.pure; exact rfl; first | (apply Ok1.move; exact rfl) | (apply Ok1.assign; exact rfl) | (apply Ok1.pick_t; exact rfl; exact rfl) | (apply Ok1.pick_f; exact rfl; exact rfl))) | (apply R.isG; first | (apply R.guard_run; exact rfl; exact rfl) | (apply R.guard_not; (iterate 3 exact rfl))) | apply R.nil | (apply T.is; first | apply T.seq | apply T.region | apply T.ret))
    (apply RetOk.t; exact rfl)
    rfl
  by_cases h3 : 0 ≤ r
  case neg =>
    rw [decide_eq_false (by unfold HRt; omega)]
    repeat' (first | (apply R.is1; first | (apply R.isBin; (apply R.pure; exact rfl; first | (apply Ok1.lss_t; exact rfl; exact rfl; omega) | (apply Ok1.gtr_t; exact rfl; exact rfl; omega) | (apply Ok1.geq_f; exact rfl; exact rfl; omega))) | (apply R.pure; exact rfl; first | (apply Ok1.move; exact rfl) | (apply Ok1.assign; exact rfl) | (apply Ok1.pick_t; exact rfl; exact rfl) | (apply Ok1.pick_f; exact rfl; exact rfl))) | (apply R.isG; first | (apply R.guard_run; exact rfl; exact rfl) | (apply R.guard_not; (iterate 3 exact rfl))) | apply R.nil | (apply T.is; first | apply T.seq | apply T.region | apply T.ret))
    (apply RetOk.t; exact rfl)
    rfl
  by_cases h4 : r < 8
  case neg =>
    rw [decide_eq_false (by unfold HRt; omega)]
    repeat' (first | (apply R.is1; first | (apply R.isBin; (apply R.pure; exact rfl; first | (apply Ok1.lss_t; exact rfl; exact rfl; omega) | (apply Ok1.lss_f; exact rfl; exact rfl; omega) | (apply Ok1.gtr_t; exact rfl; exact rfl; omega) | (apply Ok1.geq_t; exact rfl; exact rfl; omega))) | (apply R.pure; exact rfl; first | (apply Ok1.move; exact rfl) | (apply Ok1.assign; exact rfl) | (apply Ok1.pick_t; exact rfl; exact rfl) | (apply Ok1.pick_f; exact rfl; exact rfl))) | (apply R.isG; first | (apply R.guard_run; exact rfl; exact rfl) | (apply R.guard_not; (iterate 3 exact rfl))) | apply R.nil | (apply T.is; first | apply T.seq | apply T.region | apply T.ret))
    (apply RetOk.t; exact rfl)
    rfl
  by_cases h5 : 0 < v
  case neg =>
    rw [decide_eq_false (by unfold HRt; omega)]
    repeat' (first | (apply R.is1; first | (apply R.isBin; (apply R.pure; exact rfl; first | (apply Ok1.lss_t; exact rfl; exact rfl; omega) | (apply Ok1.gtr_t; exact rfl; exact rfl; omega) | (apply Ok1.gtr_f; exact rfl; exact rfl; omega) | (apply Ok1.geq_t; exact rfl; exact rfl; omega))) | (apply R.pure; exact rfl; first | (apply Ok1.move; exact rfl) | (apply Ok1.assign; exact rfl) | (apply Ok1.pick_t; exact rfl; exact rfl) | (apply Ok1.pick_f; exact rfl; exact rfl))) | (apply R.isG; first | (apply R.guard_run; exact rfl; exact rfl) | (apply R.guard_not; (iterate 3 exact rfl))) | apply R.nil | (apply T.is; first | apply T.seq | apply T.region | apply T.ret))
    (apply RetOk.t; exact rfl)
    rfl
  by_cases h6 : v < 2147483648
  case neg =>
    rw [decide_eq_false (by unfold HRt; omega)]
    repeat' (first | (apply R.is1; first | (apply R.isBin; (apply R.pure; exact rfl; first | (apply Ok1.lss_t; exact rfl; exact rfl; omega) | (apply Ok1.lss_f; exact rfl; exact rfl; omega) | (apply Ok1.gtr_t; exact rfl; exact rfl; omega) | (apply Ok1.geq_t; exact rfl; exact rfl; omega))) | (apply R.pure; exact rfl; first | (apply Ok1.move; exact rfl) | (apply Ok1.assign; exact rfl) | (apply Ok1.pick_t; exact rfl; exact rfl))) | (apply R.isG; (apply R.guard_run; exact rfl; exact rfl)) | apply R.nil | (apply T.is; first | apply T.seq | apply T.region | apply T.ret))
    (apply RetOk.t; exact rfl)
    rfl
  rw [decide_eq_true (by unfold HRt; omega)]
  repeat' (first | (apply R.is1; first | (apply R.isBin; (apply R.pure; exact rfl; first | (apply Ok1.lss_t; exact rfl; exact rfl; omega) | (apply Ok1.gtr_t; exact rfl; exact rfl; omega) | (apply Ok1.geq_t; exact rfl; exact rfl; omega))) | (apply R.pure; exact rfl; first | (apply Ok1.move; exact rfl) | (apply Ok1.assign; exact rfl) | (apply Ok1.pick_t; exact rfl; exact rfl))) | (apply R.isG; (apply R.guard_run; exact rfl; exact rfl)) | apply R.nil | (apply T.is; first | apply T.seq | apply T.region | apply T.ret))
  (apply RetOk.t; exact rfl)
  rfl
theorem vhead_ok (o r v : Int) (h : HRt o r v) (w : World) : CallM Tryz.prog 49 [.int .i64 o, .int .i64 r, .int .i64 v] [] w fun x L => ∃ ov, OvOk 1 ov 7 (u8s (headI o r v)) ∧ x = slV ov 7 ∧ L = blkL 5 ov (u8s (headI o r v)) := by
  unfold HRt at h
  have h1 := vout_ok 1 (by decide) o (by omega) (by omega)
  have h2 := vout_ok 2 (by decide) v (by omega) (by omega)
  simp only [show 2 ^ 1 = 2 from rfl] at h1
  simp only [show 2 ^ 2 = 4 from rfl] at h2
  have hcl : u8s (headI o r v) = u8s (beI 2 o []) ++ [.int .u8 r] ++ u8s (beI 4 v []) := by
    rw [be4]
    have : r % 256 = r := by omega
    unfold headI numI
    simp only [this, u8s_app]
    rfl
  refine enterK (tb := tb) Tryz.func49 rfl Tryz.ntmps49 rfl ?_
  repeat' (first | (apply R.is1; first | (apply R.isCall; first | (apply R.callE (vs := [.agg ⟨[.int .i64 1, .int .i64 o, .slice none 0 0]⟩]); (iterate 3 exact rfl); exact Ext.none _; intro w1 hw1; exact h1 w1; rintro x Lo ⟨ov1, hov1, rfl, rfl⟩) | (apply R.callE (vs := [.agg ⟨[.int .i64 2, .int .i64 v, .slice none 0 0]⟩]); (iterate 3 exact rfl); exact Ext.none _; intro w1 hw1; exact h2 w1; rintro x Lo ⟨ov3, hov3, rfl, rfl⟩; rw [slV_eq hov3]) | ((apply R.append1; (iterate 12 exact rfl); (focus ((repeat' (first | exact OwnAt.mid hov1 | apply OwnAt.tail)); done)); exact At.head; exact rfl; exact rfl; omega; omega; intro b2 j2 k2 hj2); have hov2 := hov1.some (b := b2) (ys := [.int .u8 r]) (m := 1) rfl hj2) | (apply R.appendRd (xs := beI 4 v []) (v := u8V) (sz := 1) (ov := some (b2, j2, k2)) (n := 2 + 1) (old := u8s (beI 2 o []) ++ [.int .u8 r]); (iterate 12 exact rfl); exact hov2; (focus ((repeat' (first | exact Ext.one _ _ | apply Ext.app)); done)); exact rfl; exact u8V_len; exact rfl; (intro w1 hw1; exact rdown hov3 hw1 (Ext.mem (by (focus ((repeat' (exact Ext.here _ _)); done))))); (focus (rw [fl_u8]; exact u8s_one _)); omega; intro ov4 hov4 _; rw [fl_u8, ← hcl] at hov4; rw [fl_u8, ← hcl])) | (apply R.pure; exact rfl; first | (apply Ok1.move; exact rfl) | (apply Ok1.assign; exact rfl) | (apply Ok1.build; (iterate 5 exact rfl)) | (apply Ok1.convU8; (iterate 5 exact rfl); omega; omega)) | (apply R.buildSlice; (iterate 12 exact rfl); intro)) | apply R.nil | (apply T.is; first | apply T.seq | apply T.region | apply T.ret))
  (apply RetOk.t; exact rfl)
  exact ⟨_, by (focus ((repeat' (first | exact Ext.here _ _ | apply Keep.last)); done)), ov4, hov4, rfl, rfl⟩
theorem vnseal_bad (p : Option Addr) (m cap : Nat) (o r v : Int) (q : Option Addr) (n c : Nat) (hne : nsE o r v n ≠ 0) (w : World) : CallM Tryz.prog 11 [.agg ⟨tabV⟩, .slice p m cap, .agg ⟨ntC o r v q n c⟩] [] w fun x L => x = .tuple #[.agg ⟨ntC 0 0 0 none 0 0⟩, .int .i64 (nsE o r v n)] ∧ L = [] := by
  have hr := vright26_ok o r v
  generalize tabV = tv at *
  refine enterK (tb := tb) Tryz.func11 rfl Tryz.ntmps11 rfl ?_
  simp only [ntC]
  by_cases h : HRt o r v
  · have h64 : 64 < n := by
      unfold nsE at hne
      rw [if_neg (fun g => g h)] at hne
      by_cases g : 64 < n
      · exact g
      · rw [if_neg g] at hne; exact absurd rfl hne
    have he : nsE o r v n = 2 := by unfold nsE; rw [if_neg (fun g => g h), if_pos h64]
    rw [decide_eq_true h] at hr
    rw [he]
    repeat' (first | (apply R.is1; first | (apply R.isBin; (apply R.pure; exact rfl; (apply Ok1.gtr_t; exact rfl; exact rfl; omega))) | (apply R.isCall; first | apply R.callP rfl rfl rfl hr | (apply R.pure; exact rfl; (apply Ok1.lenS; (iterate 3 exact rfl)))) | (apply R.pure; exact rfl; first | (apply Ok1.fieldAddr; (iterate 5 exact rfl)) | (apply Ok1.load; exact rfl; (apply Ld.own1; exact rfl; exact rfl; (focus ((repeat' (first | exact At.head | apply At.tail)); done)); exact rfl)) | (apply Ok1.assign; exact rfl) | (apply Ok1.build; (iterate 5 exact rfl)) | (apply Ok1.not_t; exact rfl)) | (apply R.box; (iterate 3 exact rfl); intro) | (apply R.alloc; (iterate 3 exact rfl); intro)) | (apply R.is0; (apply R.store; (iterate 6 exact rfl); exact Upd.head; exact rfl)) | apply R.nil | (apply T.is; first | apply T.seq | apply T.region | apply T.skip | apply T.ret | (apply T.cond_t; exact rfl) | (apply T.cond_f; exact rfl)))
    (apply RetOk.ct; exact rfl; ((apply Ld.ownk; exact rfl; exact rfl; exact At.head; exact rfl)); exact rfl)
    exact ⟨[], by (focus ((repeat' (exact Keep.nil _)); done)), rfl, rfl⟩
  · have he : nsE o r v n = 10 := by unfold nsE; rw [if_pos h]
    rw [decide_eq_false h] at hr
    rw [he]
    repeat' (first | (apply R.is1; first | (apply R.isCall; apply R.callP rfl rfl rfl hr) | (apply R.pure; exact rfl; first | (apply Ok1.fieldAddr; (iterate 5 exact rfl)) | (apply Ok1.load; exact rfl; (apply Ld.own1; exact rfl; exact rfl; (focus ((repeat' (first | exact At.head | apply At.tail)); done)); exact rfl)) | (apply Ok1.assign; exact rfl) | (apply Ok1.build; (iterate 5 exact rfl)) | (apply Ok1.not_f; exact rfl)) | (apply R.box; (iterate 3 exact rfl); intro) | (apply R.alloc; (iterate 3 exact rfl); intro)) | (apply R.is0; (apply R.store; (iterate 6 exact rfl); exact Upd.head; exact rfl)) | apply R.nil | (apply T.is; first | apply T.seq | apply T.region | apply T.ret | (apply T.cond_t; exact rfl)))
    (apply RetOk.ct; exact rfl; ((apply Ld.ownk; exact rfl; exact rfl; exact At.head; exact rfl)); exact rfl)
    exact ⟨[], by (focus ((repeat' (exact Keep.nil _)); done)), rfl, rfl⟩
theorem vnseal_ok (p : Option Addr) (m cap : Nat) (k : List Int) (hm : m = k.length) (hkl : m ≤ 999999000) (hkb : Byt k) (o r v : Int) (q : Option Addr) (n c : Nat) (xs : List Int) (hn : n = xs.length) (hby : Byt xs) (h : HRt o r v) (h64 : n ≤ 64) (w : World) (hp : RdSl w p u8V k) (hq : RdSl w q u8V xs) : CallM Tryz.prog 11 [.agg ⟨tabV⟩, .slice p m cap, .agg ⟨ntC o r v q n c⟩] [] w fun x L => ∃ ov, OvOk 1 ov (n + 32) (u8s (nsI k o r v xs)) ∧ x = .tuple #[.agg ⟨ntC o r v (ovp ov) (n + 32) (ovc ov (n + 32))⟩, .int .i64 0] ∧ L = blkL 5 ov (u8s (nsI k o r v xs)) := by
  have htl := tab_len
  have hr := vright26_ok o r v
  rw [decide_eq_true h] at hr
  have hh := fun w1 => vhead_ok o r v h w1
  have hhl := headI_len o r v
  have hhb := headI_byt o r v
  have hss : nsI k o r v xs = sealI k (headI o r v) (headI o r v) xs := rfl
  have hse := fun q9 c9 w1 (hc : Chg [] w w1) h1 => vsseal_ok p m cap k hm hkl hkb q9 7 c9 (headI o r v) hhl.symm (by decide) hhb q9 7 c9 (headI o r v) hhl.symm (by decide) hhb q n c xs hn (by omega) hby w1 (hp.chg' hc (fun _ => Off.nil _)) h1 h1 (hq.chg' hc (fun _ => Off.nil _))
  rw [← hss] at hse
  generalize nsI k o r v xs = SS at *
  generalize headI o r v = H at *
  generalize tabV = tv at *
  refine enterK (tb := tb) Tryz.func11 rfl Tryz.ntmps11 rfl ?_
  simp only [ntC]
  repeat' (first | (apply R.is1; first | (apply R.isBin; (apply R.pure; exact rfl; (apply Ok1.gtr_f; exact rfl; exact rfl; omega))) | (apply R.isCall; first | apply R.callP rfl rfl rfl hr | (apply R.callE (vs := [.int .i64 o, .int .i64 r, .int .i64 v]); (iterate 3 exact rfl); exact Ext.none _; intro w1 hw1; exact hh w1; rintro x Lo ⟨ov7, hov7, rfl, rfl⟩; rw [slV_eq hov7]) | (apply R.pure; exact rfl; (apply Ok1.lenS; (iterate 3 exact rfl)))) | (apply R.pure; exact rfl; first | (apply Ok1.fieldAddr; (iterate 5 exact rfl)) | (apply Ok1.load; exact rfl; (apply Ld.own1; exact rfl; exact rfl; (focus ((repeat' (first | exact At.head | apply At.tail)); done)); exact rfl)) | (apply Ok1.assign; exact rfl) | (apply Ok1.not_t; exact rfl)) | (apply R.box; (iterate 3 exact rfl); intro) | (apply R.alloc; (iterate 3 exact rfl); intro)) | apply R.nil | (apply T.is; first | (apply T.stop1 6) | apply T.seq | apply T.region | apply T.skip | (apply T.cond_f; exact rfl)))
  refine ⟨?_⟩
  rename_i b3 b5 b6
  have hse2 := fun w1 hc L (h1 : Hp w [] L w1) h2 => hse (ovp ov7) (ovc ov7 7) w1 hc (rdown (e := 5) (by rw [hhl]; exact hov7) h1 h2)
  obtain ⟨b7, j7, k7, rfl⟩ := ovsome hov7 (by decide)
  simp only [ovp, ovc, blkL, List.cons_append, List.nil_append] at hse2 ⊢
  repeat' ((apply T.is; first | (apply T.drawC (id := 6) [2,3] (by decide); ((apply A.take 0; exact rfl; exact rfl; kernel_rfl; kernel_rfl; kernel_rfl; (apply Ok1.fieldAddr; (iterate 5 exact rfl))) <;> (apply A.take 1; exact rfl; exact rfl; kernel_rfl; kernel_rfl; kernel_rfl; (apply Ok1.load; exact rfl; (apply Ld.own1; exact rfl; exact rfl; exact At.head; exact rfl))) <;> (apply A.take 2; exact rfl; exact rfl; kernel_rfl; kernel_rfl; kernel_rfl; (apply Ok1.fieldAddr; (iterate 5 exact rfl))) <;> (apply A.take 3; exact rfl; exact rfl; kernel_rfl; kernel_rfl; kernel_rfl; (apply Ok1.load; exact rfl; (apply Ld.own1; exact rfl; exact rfl; exact At.head; exact rfl))) <;> (apply A.take 4; exact rfl; exact rfl; kernel_rfl; kernel_rfl; kernel_rfl; (apply Ok1.fieldAddr; (iterate 5 exact rfl))) <;> (apply A.take 5; exact rfl; exact rfl; kernel_rfl; kernel_rfl; kernel_rfl; (apply Ok1.load; exact rfl; (apply Ld.own1; exact rfl; exact rfl; exact At.head; exact rfl))) <;> (apply A.take 6; exact rfl; exact rfl; kernel_rfl; kernel_rfl; kernel_rfl; (apply Ok1.load; exact rfl; (apply Ld.ownk; exact rfl; exact rfl; (focus ((repeat' (first | exact At.head | apply At.tail)); done)); exact subE_all htl))) <;> (apply A.take 7; exact rfl; exact rfl; kernel_rfl; kernel_rfl; kernel_rfl; (apply Ok1.move; exact rfl)) <;> (apply A.take 8; exact rfl; exact rfl; kernel_rfl; kernel_rfl; kernel_rfl; (apply Ok1.move; exact rfl)) <;> (apply A.take 9; exact rfl; exact rfl; kernel_rfl; kernel_rfl; kernel_rfl; (apply Ok1.move; exact rfl)) <;> (apply A.take 10; exact rfl; exact rfl; kernel_rfl; kernel_rfl; kernel_rfl; (apply Ok1.fieldAddr; (iterate 5 exact rfl))) <;> (apply A.take 11; exact rfl; exact rfl; kernel_rfl; kernel_rfl; kernel_rfl; (apply Ok1.load; exact rfl; (apply Ld.own1; exact rfl; exact rfl; exact At.head; exact rfl))) <;> (apply A.one 12; kernel_rfl; exact rfl; (((apply R.callE (vs := [.agg ⟨tv⟩, .slice p m cap, .slice (some ⟨b7, 0, none⟩) 7 (7 + j7), .slice (some ⟨b7, 0, none⟩) 7 (7 + j7), .slice q n c]); (iterate 3 exact rfl); exact Ext.none _; intro w1 hw1; exact hse2 w1 hw1.chg _ hw1 (fun z hz => by rw [List.mem_singleton.1 hz]; exact At.mem (by exact At.head)); rintro x Lo ⟨ov9, hov9, rfl, rfl⟩; rw [slV_eq hov9]))); apply R.nil; refine ⟨?_, ?_⟩; (focus ((repeat' (first | exact trivial | (refine ⟨?_, ?_⟩; (focus ((repeat' (first | exact At.head | apply At.tail | apply At.right)); done)))))))) <;> (apply A.take 13; exact rfl; exact rfl; kernel_rfl; kernel_rfl; kernel_rfl; (apply Ok1.build; (iterate 5 exact rfl))) <;> (apply A.one 14; kernel_rfl; exact rfl; (((apply R.store; (iterate 6 exact rfl); (focus ((repeat' (first | exact Upd.head | apply Upd.tail | apply Upd.right)); done)); exact rfl))); apply R.nil; refine ⟨?_, ?_⟩; (focus ((repeat' (first | exact trivial | (refine ⟨?_, ?_⟩; (focus ((repeat' (first | exact At.head | apply At.tail | apply At.right)); done)))))))) <;> (apply A.take 15; exact rfl; exact rfl; kernel_rfl; kernel_rfl; kernel_rfl; (apply Ok1.assign; exact rfl)) <;> (apply A.done; kernel_rfl))) | apply T.seq | apply T.ret))
  all_goals (apply RetOk.ct; exact rfl; ((apply Ld.ownk; exact rfl; exact rfl; (focus ((repeat' (first | exact At.head | apply At.tail | apply At.right)); done)); exact rfl)); exact rfl)
  all_goals exact ⟨_, by (focus ((repeat' (first | exact Ext.here _ _ | apply Keep.last)); done)), ov9, hov9, rfl, rfl⟩
theorem vnopen_ok (p : Option Addr) (m cap : Nat) (k : List Int) (hm : m = k.length) (hkl : m ≤ 999999000) (hkb : Byt k) (o r v : Int) (q : Option Addr) (n c : Nat) (s : List Int) (hn : n = s.length) (hcap : n ≤ c) (hby : Byt s) (w : World) (hp : RdSl w p u8V k) (hq : RdSl w q u8V s) : CallM Tryz.prog 18 [.agg ⟨tabV⟩, .slice p m cap, .agg ⟨ntC o r v q n c⟩] [] w fun x L => if noE k o r v s = 0 then ∃ ov, OvOk 1 ov (noI k o r v s).length (u8s (noI k o r v s)) ∧ x = .tuple #[.agg ⟨ntC o r v (ovp ov) (noI k o r v s).length (ovc ov (noI k o r v s).length)⟩, .int .i64 0] ∧ L = blkL 5 ov (u8s (noI k o r v s)) else x = .tuple #[.agg ⟨ntC 0 0 0 none 0 0⟩, .int .i64 (noE k o r v s)] ∧ L = [] := by
  have htl := tab_len
  have hr := vright26_ok o r v
  by_cases h : HRt o r v
  case neg =>
    have he : noE k o r v s = 10 := by unfold noE; rw [if_pos h]
    rw [decide_eq_false h] at hr
    rw [he]
    have hz : ¬ (10 : Int) = 0 := by decide
    simp only [if_neg hz]
    generalize tabV = tv at *
    refine enterK (tb := tb) Tryz.func18 rfl Tryz.ntmps18 rfl ?_
    simp only [ntC]
    repeat' (first | (apply R.is1; first | (apply R.isCall; apply R.callP rfl rfl rfl hr) | (apply R.pure; exact rfl; first | (apply Ok1.fieldAddr; (iterate 5 exact rfl)) | (apply Ok1.load; exact rfl; (apply Ld.own1; exact rfl; exact rfl; (focus ((repeat' (first | exact At.head | apply At.tail)); done)); exact rfl)) | (apply Ok1.assign; exact rfl) | (apply Ok1.build; (iterate 5 exact rfl)) | (apply Ok1.not_f; exact rfl)) | (apply R.box; (iterate 3 exact rfl); intro) | (apply R.alloc; (iterate 3 exact rfl); intro)) | (apply R.is0; (apply R.store; (iterate 6 exact rfl); exact Upd.head; exact rfl)) | apply R.nil | (apply T.is; first | apply T.seq | apply T.region | apply T.ret | (apply T.cond_t; exact rfl)))
    (apply RetOk.ct; exact rfl; ((apply Ld.ownk; exact rfl; exact rfl; exact At.head; exact rfl)); exact rfl)
    exact ⟨[], by (focus ((repeat' (exact Keep.nil _)); done)), rfl, rfl⟩
  rw [decide_eq_true h] at hr
  have hh := fun w1 => vhead_ok o r v h w1
  by_cases h96 : 96 < n
  · have he : noE k o r v s = 2 := by unfold noE; rw [if_neg (fun g => g h), if_pos (by omega)]
    rw [he]
    have hz : ¬ (2 : Int) = 0 := by decide
    simp only [if_neg hz]
    generalize tabV = tv at *
    refine enterK (tb := tb) Tryz.func18 rfl Tryz.ntmps18 rfl ?_
    simp only [ntC]
    repeat' (first | (apply R.is1; first | (apply R.isBin; (apply R.pure; exact rfl; (apply Ok1.gtr_t; exact rfl; exact rfl; omega))) | (apply R.isCall; first | apply R.callP rfl rfl rfl hr | (apply R.pure; exact rfl; (apply Ok1.lenS; (iterate 3 exact rfl)))) | (apply R.pure; exact rfl; first | (apply Ok1.fieldAddr; (iterate 5 exact rfl)) | (apply Ok1.load; exact rfl; (apply Ld.own1; exact rfl; exact rfl; (focus ((repeat' (first | exact At.head | apply At.tail)); done)); exact rfl)) | (apply Ok1.assign; exact rfl) | (apply Ok1.build; (iterate 5 exact rfl)) | (apply Ok1.not_t; exact rfl)) | (apply R.box; (iterate 3 exact rfl); intro) | (apply R.alloc; (iterate 3 exact rfl); intro)) | (apply R.is0; (apply R.store; (iterate 6 exact rfl); exact Upd.head; exact rfl)) | apply R.nil | (apply T.is; first | apply T.seq | apply T.region | apply T.skip | apply T.ret | (apply T.cond_t; exact rfl) | (apply T.cond_f; exact rfl)))
    (apply RetOk.ct; exact rfl; ((apply Ld.ownk; exact rfl; exact rfl; exact At.head; exact rfl)); exact rfl)
    exact ⟨[], by (focus ((repeat' (exact Keep.nil _)); done)), rfl, rfl⟩
  have hhl := headI_len o r v
  have hhb := headI_byt o r v
  have he : noE k o r v s = sopE k (headI o r v) (headI o r v) s := by unfold noE; rw [if_neg (fun g => g h), if_neg (by omega)]
  have hi : noI k o r v s = sopI k (headI o r v) s := rfl
  have hop := fun q9 c9 w1 (hc : Chg [] w w1) h1 => vsopen_ok p m cap k hm hkl hkb q9 7 c9 (headI o r v) hhl.symm (by decide) hhb q9 7 c9 (headI o r v) hhl.symm (by decide) hhb q n c s hn hcap (by omega) hby w1 (hp.chg' hc (fun _ => Off.nil _)) h1 h1 (hq.chg' hc (fun _ => Off.nil _))
  have hN : sopN k (headI o r v) (headI o r v) s = if noE k o r v s = 0 then noI k o r v s else [] := by unfold sopN; rw [he, hi]
  rw [← he] at hop
  generalize sopN k (headI o r v) (headI o r v) s = N at *
  generalize noI k o r v s = I9 at *
  generalize noE k o r v s = E9 at *
  generalize headI o r v = H at *
  generalize tabV = tv at *
  by_cases hE : E9 = 0
  · simp only [if_pos hE]
    rw [if_pos hE] at hN
    subst hN hE
    refine enterK (tb := tb) Tryz.func18 rfl Tryz.ntmps18 rfl ?_
    simp only [ntC]
    repeat' (first | (apply R.is1; first | (apply R.isBin; (apply R.pure; exact rfl; first | (apply Ok1.gtr_f; exact rfl; exact rfl; omega) | (apply Ok1.neq_f; exact rfl; exact rfl; omega))) | (apply R.isCall; first | apply R.callP rfl rfl rfl hr | (apply R.callE (vs := [.int .i64 o, .int .i64 r, .int .i64 v]); (iterate 3 exact rfl); exact Ext.none _; intro w1 hw1; exact hh w1; rintro x Lo ⟨ov7, hov7, rfl, rfl⟩; rw [slV_eq hov7]) | (apply R.callE (vs := [.agg ⟨tv⟩, .slice p m cap, .slice (ovp ov7) 7 (ovc ov7 7), .slice (ovp ov7) 7 (ovc ov7 7), .slice q n c]); (iterate 3 exact rfl); exact Ext.none _; intro w1 hw1; exact hop _ _ w1 hw1.chg (rdown (by rw [hhl]; exact hov7) hw1 (Ext.mem (by (focus ((repeat' (exact Ext.here _ _)); done))))); rintro x Lo ⟨ov9, hov9, rfl, rfl⟩; rw [slV_eq hov9]) | (apply R.pure; exact rfl; (apply Ok1.lenS; (iterate 3 exact rfl)))) | (apply R.pure; exact rfl; first | (apply Ok1.load; exact rfl; first | (apply Ld.ownk; exact rfl; exact rfl; (focus ((repeat' (first | exact At.head | apply At.tail | apply At.right)); done)); exact subE_all htl) | (apply Ld.own1; exact rfl; exact rfl; (focus ((repeat' (first | exact At.head | apply At.tail | apply At.right)); done)); exact rfl)) | (apply Ok1.move; exact rfl) | (apply Ok1.fieldAddr; (iterate 5 exact rfl)) | (apply Ok1.assign; exact rfl) | (apply Ok1.build; (iterate 5 exact rfl)) | (apply Ok1.extract; exact rfl; exact rfl) | (apply Ok1.not_t; exact rfl)) | (apply R.box; (iterate 3 exact rfl); intro) | (apply R.alloc; (iterate 3 exact rfl); intro)) | (apply R.is0; (apply R.store; (iterate 6 exact rfl); (focus ((repeat' (first | exact Upd.head | apply Upd.right)); done)); exact rfl)) | apply R.nil | (apply T.is; first | apply T.seq | apply T.region | apply T.skip | apply T.ret | (apply T.cond_f; exact rfl)))
    (apply RetOk.ct; exact rfl; ((apply Ld.ownk; exact rfl; exact rfl; (focus ((repeat' (first | exact At.head | apply At.right)); done)); exact rfl)); exact rfl)
    exact ⟨_, by (focus ((repeat' (first | exact Ext.here _ _ | apply Keep.last)); done)), ov9, hov9, rfl, rfl⟩
  · simp only [if_neg hE]
    rw [if_neg hE] at hN
    subst hN
    refine enterK (tb := tb) Tryz.func18 rfl Tryz.ntmps18 rfl ?_
    simp only [ntC]
    repeat' (first | (apply R.is1; first | (apply R.isBin; (apply R.pure; exact rfl; first | (apply Ok1.gtr_f; exact rfl; exact rfl; omega) | (apply Ok1.neq_t; exact rfl; exact rfl; omega))) | (apply R.isCall; first | apply R.callP rfl rfl rfl hr | (apply R.callE (vs := [.int .i64 o, .int .i64 r, .int .i64 v]); (iterate 3 exact rfl); exact Ext.none _; intro w1 hw1; exact hh w1; rintro x Lo ⟨ov7, hov7, rfl, rfl⟩; rw [slV_eq hov7]) | (apply R.callE (vs := [.agg ⟨tv⟩, .slice p m cap, .slice (ovp ov7) 7 (ovc ov7 7), .slice (ovp ov7) 7 (ovc ov7 7), .slice q n c]); (iterate 3 exact rfl); exact Ext.none _; intro w1 hw1; exact hop _ _ w1 hw1.chg (rdown (by rw [hhl]; exact hov7) hw1 (Ext.mem (by (focus ((repeat' (exact Ext.here _ _)); done))))); rintro x Lo ⟨ov9, hov9, rfl, rfl⟩; rw [slV_eq hov9]) | (apply R.pure; exact rfl; (apply Ok1.lenS; (iterate 3 exact rfl)))) | (apply R.pure; exact rfl; first | (apply Ok1.load; exact rfl; first | (apply Ld.ownk; exact rfl; exact rfl; (focus ((repeat' (first | exact At.head | apply At.tail | apply At.right)); done)); exact subE_all htl) | (apply Ld.own1; exact rfl; exact rfl; (focus ((repeat' (first | exact At.head | apply At.tail | apply At.right)); done)); exact rfl)) | (apply Ok1.move; exact rfl) | (apply Ok1.fieldAddr; (iterate 5 exact rfl)) | (apply Ok1.assign; exact rfl) | (apply Ok1.build; (iterate 5 exact rfl)) | (apply Ok1.extract; exact rfl; exact rfl) | (apply Ok1.not_t; exact rfl)) | (apply R.box; (iterate 3 exact rfl); intro) | (apply R.alloc; (iterate 3 exact rfl); intro)) | (apply R.is0; (apply R.store; (iterate 6 exact rfl); (focus ((repeat' (first | exact Upd.head | apply Upd.right)); done)); exact rfl)) | apply R.nil | (apply T.is; first | apply T.seq | apply T.region | apply T.skip | apply T.ret | (apply T.cond_t; exact rfl) | (apply T.cond_f; exact rfl)))
    (apply RetOk.ct; exact rfl; ((apply Ld.ownk; exact rfl; exact rfl; (focus ((repeat' (first | exact At.head | apply At.right)); done)); exact rfl)); exact rfl)
    exact ⟨[], by (focus ((repeat' (exact Keep.nil _)); done)), rfl, rfl⟩
end Go.Proofs.YtligngjcnlbgmaaGreat
set_option linter.unusedSimpArgs false
set_option linter.unusedVariables false
namespace Go.Proofs.YtligngjcnlbgmaaGreat
open Go.RowKit Go.Shelf
set_option maxRecDepth 100000
def u64n (l : List Nat) : List Value := l.map fun (d : Nat) => .int .u64 (d : Int)
def dig : Nat → Nat → List Nat
  | 0, _ => []
  | n + 1, v => v % 65536 :: dig n (v / 65536)
def val : List Nat → Nat
  | [] => 0
  | d :: r => d + 65536 * val r
theorem dig_len (n v : Nat) : (dig n v).length = n := by
  induction n generalizing v with
  | zero => rfl
  | succ n ih => simp [dig, ih]
theorem dig_get (n v i : Nat) (h : i < n) : (dig n v).getD i 0 = v / 65536 ^ i % 65536 := by
  induction n generalizing v i with
  | zero => omega
  | succ n ih =>
    cases i with
    | zero => simp [dig]
    | succ i =>
      have := ih (v / 65536) i (by omega)
      simp only [dig, List.getD_cons_succ, this, Nat.div_div_eq_div_mul]
      rw [Nat.pow_succ, Nat.mul_comm]
theorem dig_val {l : List Nat} (h : ∀ d ∈ l, d < 65536) : dig l.length (val l) = l := by
  induction l with
  | nil => rfl
  | cons d l ih =>
    have h1 := ih fun x hx => h x (List.mem_cons_of_mem _ hx)
    have h2 := h d List.mem_cons_self
    simp only [val, List.length_cons, dig]
    rw [show (d + 65536 * val l) % 65536 = d by omega, show (d + 65536 * val l) / 65536 = val l by omega, h1]
theorem dig_mod (n v : Nat) : dig n (v % 65536 ^ n) = dig n v := by
  induction n generalizing v with
  | zero => rfl
  | succ n ih =>
    simp only [dig]
    have h1 : v % 65536 ^ (n + 1) % 65536 = v % 65536 := Nat.mod_mod_of_dvd v (by rw [Nat.pow_succ]; exact Nat.dvd_mul_left _ _)
    have h2 : v % 65536 ^ (n + 1) / 65536 = v / 65536 % 65536 ^ n := by
      rw [Nat.pow_succ, Nat.mul_comm, Nat.mod_mul_right_div_self]
    rw [h1, h2, ih]
theorem val_set (l : List Nat) (i x : Nat) (h : i < l.length) : val (l.set i x) + l.getD i 0 * 65536 ^ i = val l + x * 65536 ^ i := by
  induction l generalizing i with
  | nil => simp at h
  | cons d l ih =>
    cases i with
    | zero => simp [val]; omega
    | succ i =>
      have := ih i (by simpa using h)
      simp only [List.set_cons_succ, val, List.getD_cons_succ]
      rw [Nat.pow_succ, ← Nat.mul_assoc, ← Nat.mul_assoc]
      omega
theorem mod_step (A i : Nat) : A % 65536 ^ (i + 1) = A % 65536 ^ i + A / 65536 ^ i % 65536 * 65536 ^ i := by
  rw [Nat.pow_succ, Nat.mod_mul, Nat.mul_comm (65536 ^ i)]
/-- One step of the inner loop. -/
theorem inner_step {Z Z' Z0 ov a B z i k : Nat} (hset : Z' + z * 65536 ^ (i + k) = Z + (ov + z + a * (B / 65536 ^ k % 65536)) % 65536 * 65536 ^ (i + k))
    (h : Z + ov * 65536 ^ (i + k) = Z0 + a * (B % 65536 ^ k) * 65536 ^ i) :
    Z' + (ov + z + a * (B / 65536 ^ k % 65536)) / 65536 * 65536 ^ (i + (k + 1)) = Z0 + a * (B % 65536 ^ (k + 1)) * 65536 ^ i := by
  rw [mod_step B k]
  generalize B / 65536 ^ k % 65536 = b at *
  have e1 : a * (B % 65536 ^ k + b * 65536 ^ k) * 65536 ^ i = a * (B % 65536 ^ k) * 65536 ^ i + a * b * 65536 ^ (i + k) := by rw [Nat.mul_add a, Nat.add_mul, Nat.pow_add, ← Nat.mul_assoc a, Nat.mul_assoc (a * b), Nat.mul_comm (65536 ^ k)]
  rw [e1, ← Nat.add_assoc Z0, ← h, show i + (k + 1) = (i + k) + 1 by omega, Nat.pow_succ]
  generalize 65536 ^ (i + k) = P at *
  have h4 := Nat.div_add_mod (ov + z + a * b) 65536
  generalize (ov + z + a * b) / 65536 = q at *
  generalize (ov + z + a * b) % 65536 = m at *
  have h5 : (65536 * q + m) * P = (ov + z + a * b) * P := by rw [h4]
  rw [Nat.add_mul, Nat.add_mul, Nat.add_mul, Nat.mul_comm 65536 q, Nat.mul_assoc] at h5
  rw [Nat.mul_comm P 65536]
  generalize q * (65536 * P) = s1 at *
  generalize m * P = s2 at *
  generalize ov * P = s3 at *
  generalize z * P = s4 at *
  generalize a * b * P = s5 at *
  omega
theorem outer_step {Z Z0 ov A B i : Nat} (hi : i ≤ 12) (h0 : Z0 % 65536 ^ 12 = (A % 65536 ^ i * B) % 65536 ^ 12)
    (h : Z + ov * 65536 ^ 12 = Z0 + (A / 65536 ^ i % 65536) * (B % 65536 ^ (12 - i)) * 65536 ^ i) : Z % 65536 ^ 12 = (A % 65536 ^ (i + 1) * B) % 65536 ^ 12 := by
  have h1 : Z % 65536 ^ 12 = (Z + ov * 65536 ^ 12) % 65536 ^ 12 := by rw [Nat.add_mul_mod_self_right]
  rw [h1, h, mod_step A i, Nat.add_mul]
  generalize A / 65536 ^ i % 65536 = a
  have h2 : (a * (B % 65536 ^ (12 - i)) * 65536 ^ i) % 65536 ^ 12 = (a * 65536 ^ i * B) % 65536 ^ 12 := by
    have e : 65536 ^ 12 = 65536 ^ i * 65536 ^ (12 - i) := by rw [← Nat.pow_add]; congr 1; omega
    rw [Nat.mul_comm _ (65536 ^ i), Nat.mul_comm a (65536 ^ i), Nat.mul_assoc (65536 ^ i) a B, e, Nat.mul_mod_mul_left, Nat.mul_mod_mul_left]
    rw [Nat.mul_mod a (B % _), Nat.mod_mod, ← Nat.mul_mod]
  rw [Nat.add_mod, h0, h2, ← Nat.add_mod]
theorem parts_ok (y : Nat) (hy : y < 18446744073709551616) : CallP Tryz.prog 110 [.int .u64 y] (.agg ⟨u64n (dig 12 y)⟩) := by
  refine enterP (tb := tb) Tryz.func110 rfl Tryz.ntmps110 rfl fun w => ?_
  repeat' (first | (apply R.is1; first | (apply R.isBin; (apply R.pure; exact rfl; first | (apply Ok1.quoU; exact rfl; exact rfl; omega; omega; omega) | (apply Ok1.add64; exact rfl; exact rfl; omega; omega) | (apply Ok1.lss_t; exact rfl; exact rfl; omega) | (apply Ok1.lss_f; exact rfl; exact rfl; omega) | (apply Ok1.remN; exact rfl; exact rfl; omega; omega))) | (apply R.pure; exact rfl; first | (apply Ok1.move; exact rfl) | (apply Ok1.load; exact rfl; (apply Ld.ownk; exact rfl; exact rfl; exact At.head; exact rfl)) | (apply Ok1.assign; exact rfl) | (apply Ok1.indexAddrA; (iterate 5 exact rfl); omega; omega) | (apply Ok1.buildA; (iterate 6 exact rfl))) | (apply R.alloc; (iterate 3 exact rfl); intro)) | (apply R.is0; (apply R.store; (iterate 6 exact rfl); (focus ((repeat' (first | exact Upd.head | apply Upd.tail)); done)); exact rfl)) | apply R.nil | (apply T.is; first | apply T.rounds 5 | apply T.seq | apply T.region | apply T.block | apply T.skip | apply T.exit | apply T.ret | (apply T.cond_t; exact rfl) | (apply T.cond_f; exact rfl)))
  (apply RetOk.c; exact rfl; ((apply Ld.ownk; exact rfl; exact rfl; (focus ((repeat' (first | exact At.head | apply At.tail)); done)); exact rfl)))
  have h0 : y / 65536 / 65536 / 65536 / 65536 = 0 := by omega
  have h1 : ∀ n, dig n 0 = List.replicate n 0 := by
    intro n
    induction n with
    | zero => rfl
    | succ n ih => simp [dig, ih, List.replicate_succ]
  have h2 : dig 12 y = y % 65536 :: y / 65536 % 65536 :: y / 65536 / 65536 % 65536 :: y / 65536 / 65536 / 65536 % 65536 :: dig 8 (y / 65536 / 65536 / 65536 / 65536) := rfl
  rw [h2, h0, h1]
  simp only [u64n, List.map_cons, Int.natCast_emod, Int.natCast_ediv]
  rfl
theorem u64n_len (l : List Nat) : (u64n l).length = l.length := by simp [u64n]
theorem u64n_get {l : List Nat} {o : Nat} (h : o < l.length) : (u64n l)[o]? = some (.int .u64 (l.getD o 0 : Nat)) := by simp [u64n, h]
theorem u64n_one (l : List Nat) : (u64n l).all Value.oneCell' = true := by rw [List.all_eq_true]; intro x hx; obtain ⟨y, _, rfl⟩ := List.mem_map.1 hx; rfl
theorem u64n_set {l : List Nat} {o x : Nat} (h : o < l.length) : setE (u64n l) o [.int .u64 (x : Int)] = some (u64n (l.set o x)) := by
  rw [setE_one (by rw [u64n_len]; exact h)]
  simp [u64n, List.map_set]
theorem times_ok (U V : Nat) : CallP Tryz.prog 111 [.agg ⟨u64n (dig 12 U)⟩, .agg ⟨u64n (dig 12 V)⟩] (.agg ⟨u64n (dig 12 (U * V))⟩) := by
  refine enterP (tb := tb) Tryz.func111 rfl Tryz.ntmps111 rfl fun w => ?_
  have hla := dig_len 12 U
  have hlb := dig_len 12 V
  have hga : ∀ i : Nat, i < 12 → (u64n (dig 12 U))[0 + (i : Int).toNat * 1]? = some (.int .u64 (U / 65536 ^ i % 65536 : Nat)) := fun i hi => by rw [← dig_get 12 U i hi]; rw [show 0 + (i : Int).toNat * 1 = i by omega]; exact u64n_get (by omega)
  have hgb : ∀ i : Nat, i < 12 → (u64n (dig 12 V))[0 + (i : Int).toNat * 1]? = some (.int .u64 (V / 65536 ^ i % 65536 : Nat)) := fun i hi => by rw [← dig_get 12 V i hi]; rw [show 0 + (i : Int).toNat * 1 = i by omega]; exact u64n_get (by omega)
  have hca : cellsE (.agg ⟨u64n (dig 12 U)⟩) = some (u64n (dig 12 U)) := rfl
  generalize hAv : u64n (dig 12 U) = av at *
  generalize hBv : u64n (dig 12 V) = bv at *
  repeat' (first | (apply R.is1; first | (apply R.pure; exact rfl; first | (apply Ok1.assign; exact rfl) | (apply Ok1.buildA; (iterate 6 exact rfl))) | (apply R.box; (iterate 3 exact rfl); intro) | (apply R.alloc; (iterate 3 exact rfl); intro)) | (apply R.is0; (apply R.store; (iterate 6 exact rfl); exact Upd.head; exact rfl)) | apply R.nil | (apply T.is; first | apply T.seq | apply T.region | apply T.block))
  rename_i bA bB bO bZ
  apply T.loopK (α := Nat × List Nat) (I := fun x => x.1 ≤ 12 ∧ x.2.length = 12 ∧ (∀ d ∈ x.2, d < 65536) ∧ val x.2 % 65536 ^ 12 = (U % 65536 ^ x.1 * V) % 65536 ^ 12) (σi := fun x => [(2, .pointer (some ⟨bA, 0, none⟩)), (3, .pointer (some ⟨bB, 0, none⟩)), (4, .pointer (some ⟨bO, 0, none⟩)), (5, .pointer (some ⟨bZ, 0, none⟩)), (6, .int .i64 x.1)])
    (Li := fun x => [(bZ, .cells ⟨u64n x.2⟩ 205 (0, 0)), (bO, .cells ⟨List.replicate 12 (.int .u64 0)⟩ 205 (0, 0)), (bB, .cells ⟨bv⟩ 205 (0, 0)), (bA, .cells ⟨av⟩ 205 (0, 0))]) (μ := fun x => 12 - x.1) (i0 := (0, List.replicate 12 0))
  · refine ⟨by decide, rfl, ?_, ?_⟩
    · intro d hd; rw [List.eq_of_mem_replicate hd]; decide
    · simp only [Nat.pow_zero, Nat.mod_one, Nat.zero_mul]; rfl
  · exact ⟨rfl, rfl, rfl, rfl, rfl, trivial⟩
  · (focus ((repeat' (first | exact Keep.nil _ | exact Ext.one _ _ | apply Keep.cons)); done))
  · rintro ⟨i, z0⟩ ⟨hi, hz0, hd0, hv0⟩
    simp only at hi hz0 hd0 hv0 ⊢
    rcases Nat.lt_or_ge i 12 with hlt | hge
    · repeat' (first | (apply R.is1; first | (apply R.isBin; (apply R.pure; exact rfl; (apply Ok1.lss_t; exact rfl; exact rfl; omega))) | (apply R.pure; exact rfl; first | (apply Ok1.move; exact rfl) | (apply Ok1.assign; exact rfl))) | apply R.nil | (apply T.is; first | apply T.seq | apply T.region | apply T.block | apply T.skip | (apply T.cond_t; exact rfl)))
      have hai := hga i hlt
      have ha16 : U / 65536 ^ i % 65536 < 65536 := Nat.mod_lt _ (by decide)
      have hout := fun Z ov => @outer_step Z (val z0) ov U V i hi hv0
      generalize U / 65536 ^ i % 65536 = a at *
      apply T.loopK (α := Nat × Nat × List Nat) (I := fun x => i + x.1 ≤ 12 ∧ x.2.1 < 65536 ∧ x.2.2.length = 12 ∧ (∀ d ∈ x.2.2, d < 65536) ∧ val x.2.2 + x.2.1 * 65536 ^ (i + x.1) = val z0 + a * (V % 65536 ^ x.1) * 65536 ^ i) (σi := fun x => [(2, .pointer (some ⟨bA, 0, none⟩)), (3, .pointer (some ⟨bB, 0, none⟩)), (4, .pointer (some ⟨bO, 0, none⟩)), (5, .pointer (some ⟨bZ, 0, none⟩)), (6, .int .i64 i), (7, .int .u64 x.2.1), (8, .int .i64 x.1)])
        (Li := fun x => [(bZ, .cells ⟨u64n x.2.2⟩ 205 (0, 0)), (bO, .cells ⟨List.replicate 12 (.int .u64 0)⟩ 205 (0, 0)), (bB, .cells ⟨bv⟩ 205 (0, 0)), (bA, .cells ⟨av⟩ 205 (0, 0))]) (μ := fun x => 12 - x.1) (i0 := (0, 0, z0))
      · exact ⟨by omega, by simp only; omega, hz0, hd0, by simp [Nat.mod_one]⟩
      · exact ⟨rfl, rfl, rfl, rfl, rfl, rfl, rfl, trivial⟩
      · (focus ((repeat' (first | exact Keep.nil _ | exact Ext.one _ _ | apply Keep.cons)); done))
      · rintro ⟨k, ov, z⟩ ⟨hk, hov, hz, hd, hv⟩
        simp only at hk hov hz hd hv ⊢
        rcases Nat.lt_or_ge (i + k) 12 with hlt2 | hge2
        · have hbk := hgb k (by omega)
          have hb16 : V / 65536 ^ k % 65536 < 65536 := Nat.mod_lt _ (by decide)
          have hpos : 0 + ((i : Int) + (k : Int)).toNat * 1 = i + k := by omega
          have hzk : (u64n z)[0 + ((i : Int) + (k : Int)).toNat * 1]? = some (.int .u64 (z.getD (i + k) 0 : Nat)) := by rw [hpos]; exact u64n_get (by omega)
          have hzm : z.getD (i + k) 0 < 65536 := hd _ (by rw [List.getD_eq_getElem?_getD, List.getElem?_eq_getElem (by omega)]; exact List.getElem_mem _)
          have hvs := fun x => val_set z (i + k) x (by omega)
          have hstep := @inner_step (val z)
          generalize z.getD (i + k) 0 = zk at *
          have hst := fun Z' => @inner_step (val z) Z' (val z0) ov a V zk i k
          generalize V / 65536 ^ k % 65536 = b at *
          have hab : a * b ≤ 65535 * 65535 := Nat.mul_le_mul (by omega) (by omega)
          have hcast : ((a * b : Nat) : Int) = (a : Int) * (b : Int) := by push_cast; rfl
          have hab2 : (a : Int) * (b : Int) ≤ 4294836225 := by rw [← hcast]; omega
          have hab0 : 0 ≤ (a : Int) * (b : Int) := by rw [← hcast]; omega
          have hset : setE (u64n z) (0 + ((i : Int) + (k : Int)).toNat * 1) [.int .u64 (((ov : Int) + (zk : Int) + (a : Int) * (b : Int)) % 65536)] = some (u64n (z.set (i + k) ((ov + zk + a * b) % 65536))) := by
            rw [hpos, ← u64n_set (by omega)]
            congr 3
          have hdiv : ((ov : Int) + (zk : Int) + (a : Int) * (b : Int)) / 65536 = (((ov + zk + a * b) / 65536 : Nat) : Int) := by
            rw [Int.natCast_ediv, Int.natCast_add, Int.natCast_add, Int.natCast_mul]; rfl
          repeat' (first | (apply R.is1; first | (apply R.isBin; (apply R.pure; exact rfl; first | (apply Ok1.quoU; exact rfl; exact rfl; omega; omega; omega) | (apply Ok1.add64; exact rfl; exact rfl; omega; omega) | (apply Ok1.lss_t; exact rfl; exact rfl; omega) | (apply Ok1.remN; exact rfl; exact rfl; omega; omega))) | (apply R.pure; exact rfl; first | (apply Ok1.move; exact rfl) | (apply Ok1.assign; exact rfl) | (apply Ok1.indexAddrA; (iterate 5 exact rfl); omega; omega))) | (apply R.is0; (apply R.store; (iterate 6 exact rfl); exact Upd.head; exact hset)) | apply R.nil | (apply T.is; first | (apply T.drawC (id := 9) [0,2,3] (by decide); ((apply A.take 0; exact rfl; exact rfl; kernel_rfl; kernel_rfl; kernel_rfl; (apply Ok1.move; exact rfl)) <;> (apply A.take 1; exact rfl; exact rfl; kernel_rfl; kernel_rfl; kernel_rfl; (apply Ok1.move; exact rfl)) <;> (apply A.take 2; exact rfl; exact rfl; kernel_rfl; kernel_rfl; kernel_rfl; (apply Ok1.move; exact rfl)) <;> (apply A.take 3; exact rfl; exact rfl; kernel_rfl; kernel_rfl; kernel_rfl; (apply Ok1.add64; exact rfl; exact rfl; omega; omega)) <;> (apply A.take 4; exact rfl; exact rfl; kernel_rfl; kernel_rfl; kernel_rfl; (apply Ok1.indexAddrA; (iterate 5 exact rfl); omega; omega)) <;> (apply A.take 5; exact rfl; exact rfl; kernel_rfl; kernel_rfl; kernel_rfl; (apply Ok1.load; exact rfl; apply Ld.own1; exact rfl; exact rfl; exact At.head; with_reducible (exact hzk))) <;> (apply A.take 6; exact rfl; exact rfl; kernel_rfl; kernel_rfl; kernel_rfl; (apply Ok1.addU; exact rfl; exact rfl; omega; omega)) <;> (apply A.take 7; exact rfl; exact rfl; kernel_rfl; kernel_rfl; kernel_rfl; (apply Ok1.move; exact rfl)) <;> (apply A.take 8; exact rfl; exact rfl; kernel_rfl; kernel_rfl; kernel_rfl; (apply Ok1.indexAddrA; (iterate 5 exact rfl); omega; omega)) <;> (apply A.take 9; exact rfl; exact rfl; kernel_rfl; kernel_rfl; kernel_rfl; (apply Ok1.load; exact rfl; apply Ld.own1; exact rfl; exact rfl; (focus ((repeat' (first | exact At.head | apply At.tail)); done)); with_reducible (exact hai))) <;> (apply A.take 10; exact rfl; exact rfl; kernel_rfl; kernel_rfl; kernel_rfl; (apply Ok1.move; exact rfl)) <;> (apply A.take 11; exact rfl; exact rfl; kernel_rfl; kernel_rfl; kernel_rfl; (apply Ok1.indexAddrA; (iterate 5 exact rfl); omega; omega)) <;> (apply A.take 12; exact rfl; exact rfl; kernel_rfl; kernel_rfl; kernel_rfl; (apply Ok1.load; exact rfl; apply Ld.own1; exact rfl; exact rfl; (focus ((repeat' (first | exact At.head | apply At.tail)); done)); with_reducible (exact hbk))) <;> (apply A.take 13; exact rfl; exact rfl; kernel_rfl; kernel_rfl; kernel_rfl; (apply Ok1.mulU; exact rfl; exact rfl; omega; omega)) <;> (apply A.take 14; exact rfl; exact rfl; kernel_rfl; kernel_rfl; kernel_rfl; (apply Ok1.addU; exact rfl; exact rfl; omega; omega)) <;> (apply A.take 15; exact rfl; exact rfl; kernel_rfl; kernel_rfl; kernel_rfl; (apply Ok1.assign; exact rfl)) <;> (apply A.done; kernel_rfl))) | apply T.seq | apply T.region | apply T.block | apply T.skip | (apply T.cond_t; exact rfl)))
          refine ⟨(k + 1, (ov + zk + a * b) / 65536, z.set (i + k) ((ov + zk + a * b) % 65536)), ⟨by simp only; omega, by simp only; omega, by simp only [List.length_set]; exact hz, ?_, hst _ (hvs _) hv⟩, by simp only; omega, ⟨rfl, rfl, rfl, rfl, rfl, congrArg (fun z => some (Value.int .u64 z)) hdiv, rfl, trivial⟩, ?_⟩
          · intro d hdm
            rcases List.mem_or_eq_of_mem_set hdm with h | rfl
            · exact hd d h
            · exact Nat.mod_lt _ (by decide)
          · (focus ((repeat' (first | exact Keep.nil _ | exact Ext.one _ _ | apply Keep.cons)); done))
        · have he : i + k = 12 := by omega
          have hk2 : k = 12 - i := by omega
          rw [he, hk2] at hv
          have hv2 := hout _ _ hv
          repeat' (first | (apply R.is1; first | (apply R.isBin; (apply R.pure; exact rfl; first | (apply Ok1.add64; exact rfl; exact rfl; omega; omega) | (apply Ok1.lss_f; exact rfl; exact rfl; omega))) | (apply R.pure; exact rfl; first | (apply Ok1.move; exact rfl) | (apply Ok1.assign; exact rfl))) | apply R.nil | (apply T.is; first | apply T.seq | apply T.region | apply T.exit | (apply T.cond_f; exact rfl)))
          exact ⟨(i + 1, z), ⟨by simp only; omega, hz, hd, hv2⟩, by simp only; omega, ⟨rfl, rfl, rfl, rfl, rfl, trivial⟩, by (focus ((repeat' (first | exact Keep.nil _ | exact Ext.one _ _ | apply Keep.cons)); done))⟩
    · have he : i = 12 := by omega
      subst he
      have hfin : u64n z0 = u64n (dig 12 (U * V)) := by
        have h1 := dig_val hd0
        rw [hz0] at h1
        rw [← h1, ← dig_mod 12 (val z0), hv0, Nat.mod_mul_mod, dig_mod]
      rw [← hfin]
      have hl : (u64n z0).length = 12 := by rw [u64n_len, hz0]
      have ho := u64n_one z0
      repeat' (first | (apply R.is1; first | (apply R.isBin; (apply R.pure; exact rfl; (apply Ok1.lss_f; exact rfl; exact rfl; omega))) | (apply R.pure; exact rfl; first | (apply Ok1.load; exact rfl; apply Ld.ownk; exact rfl; exact rfl; exact At.head; exact subE_all hl) | (apply Ok1.move; exact rfl))) | (apply R.is0; (apply R.store; (iterate 4 exact rfl); exact hl; exact ho; (focus ((repeat' (first | exact Upd.head | apply Upd.tail)); done)); exact setE_all hl)) | apply R.nil | (apply T.is; first | apply T.seq | apply T.region | apply T.exit | apply T.ret | (apply T.cond_f; exact rfl)))
      apply RetOk.c
      exact rfl
      apply Ld.ownk
      exact rfl
      exact rfl
      (focus ((repeat' (first | exact At.head | apply At.tail)); done))
      exact subE_all hl
      rfl
end Go.Proofs.YtligngjcnlbgmaaGreat
set_option linter.unusedSimpArgs false
set_option linter.unusedVariables false
namespace Go.Proofs.YtligngjcnlbgmaaGreat
open Go.RowKit Go.Shelf
set_option maxRecDepth 100000
theorem dig_shift (n v : Nat) : dig (n + 1) (65536 * v) = 0 :: dig n v := by
  simp only [dig]
  rw [Nat.mul_mod_right, Nat.mul_div_cancel_left v (by decide)]
theorem dig_zero (n : Nat) : dig n 0 = List.replicate n 0 := by
  induction n with
  | zero => rfl
  | succ n ih => simp [dig, ih, List.replicate_succ]
theorem dig_one (n p : Nat) (h : p < 65536) : dig (n + 1) p = p :: List.replicate n 0 := by
  simp only [dig]
  rw [Nat.mod_eq_of_lt h, Nat.div_eq_of_lt h, dig_zero]
theorem top4 (p : Nat) (h : p < 65536) : dig 12 (p * 65536 ^ 4) = [0, 0, 0, 0, p, 0, 0, 0, 0, 0, 0, 0] := by
  rw [show p * 65536 ^ 4 = 65536 * (65536 * (65536 * (65536 * p))) by omega, dig_shift, dig_shift, dig_shift, dig_shift, dig_one _ _ h]
  rfl
theorem top6 (p : Nat) (h : p < 65536) : dig 12 (p * 65536 ^ 6) = [0, 0, 0, 0, 0, 0, p, 0, 0, 0, 0, 0] := by
  rw [show p * 65536 ^ 6 = 65536 * (65536 * (65536 * (65536 * (65536 * (65536 * p))))) by omega, dig_shift, dig_shift, dig_shift, dig_shift, dig_shift, dig_shift, dig_one _ _ h]
  rfl
theorem cmp_step {X T i : Nat} (h : X / 65536 ^ (i + 1) = T / 65536 ^ (i + 1)) :
    (X / 65536 ^ i % 65536 = T / 65536 ^ i % 65536 → X / 65536 ^ i = T / 65536 ^ i) ∧ (X / 65536 ^ i % 65536 < T / 65536 ^ i % 65536 → X ≤ T) ∧ (T / 65536 ^ i % 65536 < X / 65536 ^ i % 65536 → ¬ X ≤ T) := by
  rw [Nat.pow_succ, ← Nat.div_div_eq_div_mul, ← Nat.div_div_eq_div_mul] at h
  have hm : ∀ {a b : Nat}, a / 65536 ^ i < b / 65536 ^ i → a < b := by
    intro a b hab
    apply Nat.lt_of_not_le
    intro hba
    have := Nat.div_le_div_right (c := 65536 ^ i) hba
    omega
  refine ⟨fun e => by omega, fun e => Nat.le_of_lt (hm (by omega)), fun e => Nat.not_le_of_lt (hm (by omega))⟩
theorem small_2 (y p X TT : Nat) (hy : y < 137438953472) (hp : p < 65536) (hX : X = y * y) (hT : TT = p * 65536 ^ 4) : CallP Tryz.prog 69 [.int .u64 y, .int .u64 2, .int .u64 p] (.bool (decide (X ≤ TT))) := by
  refine enterP (tb := tb) Tryz.func69 rfl Tryz.ntmps69 rfl fun w => ?_
  obtain ⟨D, hD⟩ : ∃ D : Nat → List Value, D = fun v => u64n (dig 12 v) := ⟨_, rfl⟩
  have hpa : CallP Tryz.prog 110 [.int .u64 y] (.agg ⟨D y⟩) := by rw [hD]; exact parts_ok y (by omega)
  have hti : ∀ a b, CallP Tryz.prog 111 [.agg ⟨D a⟩, .agg ⟨D b⟩] (.agg ⟨D (a * b)⟩) := by intro a b; rw [hD]; exact times_ok a b
  have hDl : ∀ v, (D v).length = 12 := by intro v; rw [hD]; simp only [u64n_len, dig_len]
  have hDo : ∀ v, (D v).all Value.oneCell' = true := by intro v; rw [hD]; exact u64n_one _
  have hDg : ∀ (v i : Nat), i < 12 → ∀ j : Int, j = (i : Int) → (D v)[0 + j.toNat * 1]? = some (.int .u64 (v / 65536 ^ i % 65536 : Nat)) := by
    intro v i hi j hj
    subst hj
    rw [hD, ← dig_get 12 v i hi, show 0 + (i : Int).toNat * 1 = i by omega]; exact u64n_get (by rw [dig_len]; exact hi)
  have ht4 : setE [.int .u64 0, .int .u64 0, .int .u64 0, .int .u64 0, .int .u64 0, .int .u64 0, .int .u64 0, .int .u64 0, .int .u64 0, .int .u64 0, .int .u64 0, .int .u64 0] 4 [.int .u64 (p : Int)] = some (D TT) := by
    rw [hD, hT]; simp only [top4 p hp]; rfl
  have hb1 : y * y < 137438953472 * 137438953472 := Nat.mul_lt_mul'' hy hy
  have hb2 : y * y * y < 137438953472 * 137438953472 * 137438953472 := Nat.mul_lt_mul'' hb1 hy
  have hXb : X < 65536 ^ 12 := by rw [hX]; omega
  have hTb : TT < 65536 ^ 12 := by rw [hT]; omega
  have hti1 := hti y y
  rw [← hX] at hti1
  clear hD hti hT hX hb1 hb2
  repeat' (first | (apply R.is1; first | (apply R.isCall; apply R.callP rfl rfl rfl hpa) | (apply R.pure; exact rfl; first | (apply Ok1.move; exact rfl) | (apply Ok1.assign; exact rfl)) | (apply R.alloc; (iterate 3 exact rfl); intro)) | (apply R.is0; (apply R.store; (iterate 4 exact rfl); exact hDl _; exact hDo _; exact Upd.head; exact setE_all (hDl _))) | apply R.nil | (apply T.is; first | apply T.seq | apply T.region | apply T.block))
  apply T.rounds 3
  repeat' (first | (apply R.is1; first | (apply R.isBin; (apply R.pure; exact rfl; first | (apply Ok1.mulU; exact rfl; exact rfl; omega; omega) | (apply Ok1.addU; exact rfl; exact rfl; omega; omega) | (apply Ok1.lss_t; exact rfl; exact rfl; omega) | (apply Ok1.lss_f; exact rfl; exact rfl; omega))) | (apply R.pure; exact rfl; first | (apply Ok1.move; exact rfl) | (apply Ok1.assign; exact rfl) | (apply Ok1.indexAddrA; (iterate 5 exact rfl); omega; omega) | (apply Ok1.buildA; (iterate 6 exact rfl))) | (apply R.alloc; (iterate 3 exact rfl); intro)) | (apply R.is0; first | (apply R.store; (iterate 6 exact rfl); exact Upd.head; exact ht4) | (apply R.store; (iterate 6 exact rfl); exact Upd.head; exact rfl)) | apply R.nil | (apply T.is; first | (apply T.drawC (id := 5) [] (by decide); ((apply A.take 1; exact rfl; exact rfl; kernel_rfl; kernel_rfl; kernel_rfl; (apply Ok1.move; exact rfl)) <;> (apply A.call 2; exact rfl; exact rfl; kernel_rfl; kernel_rfl; kernel_rfl; exact rfl; exact rfl; (exact fun w1 _ => hpa.w w1)) <;> (apply A.one 0; kernel_rfl; exact rfl; (((apply R.pure; exact rfl; (apply Ok1.load; exact rfl; apply Ld.ownk; exact rfl; exact rfl; exact At.head; exact subE_all (hDl _))))); apply R.nil; refine ⟨?_, ?_⟩; (focus ((repeat' (exact trivial))))) <;> (apply A.call 3; exact rfl; exact rfl; kernel_rfl; kernel_rfl; kernel_rfl; exact rfl; exact rfl; (exact fun w1 _ => hti1.w w1)) <;> (apply A.one 4; kernel_rfl; exact rfl; (((apply R.store; (iterate 4 exact rfl); exact hDl _; exact hDo _; exact Upd.head; exact setE_all ((hDl _).trans (hDl _).symm)))); apply R.nil; refine ⟨?_, ?_⟩; (focus ((repeat' (exact trivial))))) <;> (apply A.done; kernel_rfl))) | apply T.seq | apply T.region | apply T.block | apply T.skip | apply T.exit | (apply T.cond_t; exact rfl) | (apply T.cond_f; exact rfl)))
  rename_i bX bT
  have hb0 : X / 65536 ^ 12 = TT / 65536 ^ 12 := by rw [Nat.div_eq_of_lt hXb, Nat.div_eq_of_lt hTb]
  apply T.loopK (α := Nat) (I := fun m => m ≤ 12 ∧ X / 65536 ^ m = TT / 65536 ^ m) (σi := fun m => [(7, .pointer (some ⟨bX, 0, none⟩)), (9, .pointer (some ⟨bT, 0, none⟩)), (10, .int .i64 ((m : Int) - 1))])
    (Li := fun _ => [(bT, .cells ⟨D TT⟩ 205 (0, 0)), (bX, .cells ⟨D X⟩ 205 (0, 0))]) (μ := fun m => m) (i0 := 12)
  · exact ⟨Nat.le_refl _, hb0⟩
  · exact ⟨rfl, rfl, rfl, trivial⟩
  · (focus ((repeat' (first | exact Keep.nil _ | exact Ext.one _ _ | apply Keep.cons)); done))
  · rintro m ⟨hm, hq⟩
    cases m with
    | zero =>
      repeat' (first | (apply R.is1; first | (apply R.isBin; (apply R.pure; exact rfl; (apply Ok1.geq_f; exact rfl; exact rfl; omega))) | (apply R.pure; exact rfl; first | (apply Ok1.move; exact rfl) | (apply Ok1.assign; exact rfl))) | apply R.nil | (apply T.is; first | apply T.seq | apply T.region | apply T.exit | apply T.ret | (apply T.cond_f; exact rfl)))
      (apply RetOk.t; exact rfl)
      simp only [Nat.pow_zero, Nat.div_one] at hq
      rw [decide_eq_true (Nat.le_of_eq hq)]
    | succ i =>
      obtain ⟨h1, h2, h3⟩ := cmp_step hq
      have gx := hDg X i (by omega) (((i + 1 : Nat) : Int) - 1) (by omega)
      have gt := hDg TT i (by omega) (((i + 1 : Nat) : Int) - 1) (by omega)
      generalize X / 65536 ^ i % 65536 = xi at *
      generalize TT / 65536 ^ i % 65536 = ti at *
      rcases Nat.lt_trichotomy xi ti with hc | hc | hc
      · repeat' (first | (apply R.is1; first | (apply R.isBin; (apply R.pure; exact rfl; (apply Ok1.geq_t; exact rfl; exact rfl; omega))) | (apply R.pure; exact rfl; (apply Ok1.move; exact rfl))) | apply R.nil | (apply T.is; first | (apply T.drawC (id := 11) [0,1] (by decide); ((apply A.take 0; exact rfl; exact rfl; kernel_rfl; kernel_rfl; kernel_rfl; (apply Ok1.move; exact rfl)) <;> (apply A.take 1; exact rfl; exact rfl; kernel_rfl; kernel_rfl; kernel_rfl; (apply Ok1.indexAddrA; (iterate 5 exact rfl); omega; omega)) <;> (apply A.take 2; exact rfl; exact rfl; kernel_rfl; kernel_rfl; kernel_rfl; (apply Ok1.load; exact rfl; apply Ld.own1; exact rfl; exact rfl; (focus ((repeat' (first | exact At.head | apply At.tail)); done)); with_reducible (exact gx))) <;> (apply A.take 3; exact rfl; exact rfl; kernel_rfl; kernel_rfl; kernel_rfl; (apply Ok1.move; exact rfl)) <;> (apply A.take 4; exact rfl; exact rfl; kernel_rfl; kernel_rfl; kernel_rfl; (apply Ok1.indexAddrA; (iterate 5 exact rfl); omega; omega)) <;> (apply A.take 5; exact rfl; exact rfl; kernel_rfl; kernel_rfl; kernel_rfl; (apply Ok1.load; exact rfl; apply Ld.own1; exact rfl; exact rfl; exact At.head; with_reducible (exact gt))) <;> ((apply A.take 6; exact rfl; exact rfl; kernel_rfl; kernel_rfl; kernel_rfl; (apply Ok1.neq_t; exact rfl; exact rfl; omega))) <;> (apply A.done; kernel_rfl))) | (apply T.drawC (id := 12) [0,1] (by decide); ((apply A.take 0; exact rfl; exact rfl; kernel_rfl; kernel_rfl; kernel_rfl; (apply Ok1.move; exact rfl)) <;> (apply A.take 1; exact rfl; exact rfl; kernel_rfl; kernel_rfl; kernel_rfl; (apply Ok1.indexAddrA; (iterate 5 exact rfl); omega; omega)) <;> (apply A.take 2; exact rfl; exact rfl; kernel_rfl; kernel_rfl; kernel_rfl; (apply Ok1.load; exact rfl; apply Ld.own1; exact rfl; exact rfl; (focus ((repeat' (first | exact At.head | apply At.tail)); done)); with_reducible (exact gx))) <;> (apply A.take 3; exact rfl; exact rfl; kernel_rfl; kernel_rfl; kernel_rfl; (apply Ok1.move; exact rfl)) <;> (apply A.take 4; exact rfl; exact rfl; kernel_rfl; kernel_rfl; kernel_rfl; (apply Ok1.indexAddrA; (iterate 5 exact rfl); omega; omega)) <;> (apply A.take 5; exact rfl; exact rfl; kernel_rfl; kernel_rfl; kernel_rfl; (apply Ok1.load; exact rfl; apply Ld.own1; exact rfl; exact rfl; exact At.head; with_reducible (exact gt))) <;> ((apply A.take 6; exact rfl; exact rfl; kernel_rfl; kernel_rfl; kernel_rfl; (apply Ok1.lss_t; exact rfl; exact rfl; omega))) <;> (apply A.take 7; exact rfl; exact rfl; kernel_rfl; kernel_rfl; kernel_rfl; (apply Ok1.assign; exact rfl)) <;> (apply A.done; kernel_rfl))) | apply T.seq | apply T.region | apply T.block | apply T.skip | apply T.ret | (apply T.cond_t; exact rfl)))
        (apply RetOk.t; exact rfl)
        rw [decide_eq_true (h2 hc)]
      · repeat' (first | (apply R.is1; first | (apply R.isBin; (apply R.pure; exact rfl; first | (apply Ok1.sub64; exact rfl; exact rfl; omega; omega) | (apply Ok1.geq_t; exact rfl; exact rfl; omega))) | (apply R.pure; exact rfl; first | (apply Ok1.move; exact rfl) | (apply Ok1.assign; exact rfl))) | apply R.nil | (apply T.is; first | (apply T.drawC (id := 11) [0,1] (by decide); ((apply A.take 0; exact rfl; exact rfl; kernel_rfl; kernel_rfl; kernel_rfl; (apply Ok1.move; exact rfl)) <;> (apply A.take 1; exact rfl; exact rfl; kernel_rfl; kernel_rfl; kernel_rfl; (apply Ok1.indexAddrA; (iterate 5 exact rfl); omega; omega)) <;> (apply A.take 2; exact rfl; exact rfl; kernel_rfl; kernel_rfl; kernel_rfl; (apply Ok1.load; exact rfl; apply Ld.own1; exact rfl; exact rfl; (focus ((repeat' (first | exact At.head | apply At.tail)); done)); with_reducible (exact gx))) <;> (apply A.take 3; exact rfl; exact rfl; kernel_rfl; kernel_rfl; kernel_rfl; (apply Ok1.move; exact rfl)) <;> (apply A.take 4; exact rfl; exact rfl; kernel_rfl; kernel_rfl; kernel_rfl; (apply Ok1.indexAddrA; (iterate 5 exact rfl); omega; omega)) <;> (apply A.take 5; exact rfl; exact rfl; kernel_rfl; kernel_rfl; kernel_rfl; (apply Ok1.load; exact rfl; apply Ld.own1; exact rfl; exact rfl; exact At.head; with_reducible (exact gt))) <;> ((apply A.take 6; exact rfl; exact rfl; kernel_rfl; kernel_rfl; kernel_rfl; (apply Ok1.neq_f; exact rfl; exact rfl; omega))) <;> (apply A.done; kernel_rfl))) | apply T.seq | apply T.region | apply T.block | apply T.skip | (apply T.cond_t; exact rfl) | (apply T.cond_f; exact rfl)))
        refine ⟨i, ⟨by omega, h1 hc⟩, by omega, ⟨rfl, rfl, ?_, trivial⟩, by (focus ((repeat' (first | exact Keep.nil _ | exact Ext.one _ _ | apply Keep.cons)); done))⟩
        exact congrArg (fun z => some (Value.int .i64 z)) (by omega)
      · repeat' (first | (apply R.is1; first | (apply R.isBin; (apply R.pure; exact rfl; (apply Ok1.geq_t; exact rfl; exact rfl; omega))) | (apply R.pure; exact rfl; (apply Ok1.move; exact rfl))) | apply R.nil | (apply T.is; first | (apply T.drawC (id := 11) [0,1] (by decide); ((apply A.take 0; exact rfl; exact rfl; kernel_rfl; kernel_rfl; kernel_rfl; (apply Ok1.move; exact rfl)) <;> (apply A.take 1; exact rfl; exact rfl; kernel_rfl; kernel_rfl; kernel_rfl; (apply Ok1.indexAddrA; (iterate 5 exact rfl); omega; omega)) <;> (apply A.take 2; exact rfl; exact rfl; kernel_rfl; kernel_rfl; kernel_rfl; (apply Ok1.load; exact rfl; apply Ld.own1; exact rfl; exact rfl; (focus ((repeat' (first | exact At.head | apply At.tail)); done)); with_reducible (exact gx))) <;> (apply A.take 3; exact rfl; exact rfl; kernel_rfl; kernel_rfl; kernel_rfl; (apply Ok1.move; exact rfl)) <;> (apply A.take 4; exact rfl; exact rfl; kernel_rfl; kernel_rfl; kernel_rfl; (apply Ok1.indexAddrA; (iterate 5 exact rfl); omega; omega)) <;> (apply A.take 5; exact rfl; exact rfl; kernel_rfl; kernel_rfl; kernel_rfl; (apply Ok1.load; exact rfl; apply Ld.own1; exact rfl; exact rfl; exact At.head; with_reducible (exact gt))) <;> ((apply A.take 6; exact rfl; exact rfl; kernel_rfl; kernel_rfl; kernel_rfl; (apply Ok1.neq_t; exact rfl; exact rfl; omega))) <;> (apply A.done; kernel_rfl))) | (apply T.drawC (id := 12) [0,1] (by decide); ((apply A.take 0; exact rfl; exact rfl; kernel_rfl; kernel_rfl; kernel_rfl; (apply Ok1.move; exact rfl)) <;> (apply A.take 1; exact rfl; exact rfl; kernel_rfl; kernel_rfl; kernel_rfl; (apply Ok1.indexAddrA; (iterate 5 exact rfl); omega; omega)) <;> (apply A.take 2; exact rfl; exact rfl; kernel_rfl; kernel_rfl; kernel_rfl; (apply Ok1.load; exact rfl; apply Ld.own1; exact rfl; exact rfl; (focus ((repeat' (first | exact At.head | apply At.tail)); done)); with_reducible (exact gx))) <;> (apply A.take 3; exact rfl; exact rfl; kernel_rfl; kernel_rfl; kernel_rfl; (apply Ok1.move; exact rfl)) <;> (apply A.take 4; exact rfl; exact rfl; kernel_rfl; kernel_rfl; kernel_rfl; (apply Ok1.indexAddrA; (iterate 5 exact rfl); omega; omega)) <;> (apply A.take 5; exact rfl; exact rfl; kernel_rfl; kernel_rfl; kernel_rfl; (apply Ok1.load; exact rfl; apply Ld.own1; exact rfl; exact rfl; exact At.head; with_reducible (exact gt))) <;> ((apply A.take 6; exact rfl; exact rfl; kernel_rfl; kernel_rfl; kernel_rfl; (apply Ok1.lss_f; exact rfl; exact rfl; omega))) <;> (apply A.take 7; exact rfl; exact rfl; kernel_rfl; kernel_rfl; kernel_rfl; (apply Ok1.assign; exact rfl)) <;> (apply A.done; kernel_rfl))) | apply T.seq | apply T.region | apply T.block | apply T.skip | apply T.ret | (apply T.cond_t; exact rfl)))
        (apply RetOk.t; exact rfl)
        rw [decide_eq_false (h3 hc)]
theorem small_3 (y p X TT : Nat) (hy : y < 137438953472) (hp : p < 65536) (hX : X = y * y * y) (hT : TT = p * 65536 ^ 6) : CallP Tryz.prog 69 [.int .u64 y, .int .u64 3, .int .u64 p] (.bool (decide (X ≤ TT))) := by
  refine enterP (tb := tb) Tryz.func69 rfl Tryz.ntmps69 rfl fun w => ?_
  obtain ⟨D, hD⟩ : ∃ D : Nat → List Value, D = fun v => u64n (dig 12 v) := ⟨_, rfl⟩
  have hpa : CallP Tryz.prog 110 [.int .u64 y] (.agg ⟨D y⟩) := by rw [hD]; exact parts_ok y (by omega)
  have hti : ∀ a b, CallP Tryz.prog 111 [.agg ⟨D a⟩, .agg ⟨D b⟩] (.agg ⟨D (a * b)⟩) := by intro a b; rw [hD]; exact times_ok a b
  have hDl : ∀ v, (D v).length = 12 := by intro v; rw [hD]; simp only [u64n_len, dig_len]
  have hDo : ∀ v, (D v).all Value.oneCell' = true := by intro v; rw [hD]; exact u64n_one _
  have hDg : ∀ (v i : Nat), i < 12 → ∀ j : Int, j = (i : Int) → (D v)[0 + j.toNat * 1]? = some (.int .u64 (v / 65536 ^ i % 65536 : Nat)) := by
    intro v i hi j hj
    subst hj
    rw [hD, ← dig_get 12 v i hi, show 0 + (i : Int).toNat * 1 = i by omega]; exact u64n_get (by rw [dig_len]; exact hi)
  have ht6 : setE [.int .u64 0, .int .u64 0, .int .u64 0, .int .u64 0, .int .u64 0, .int .u64 0, .int .u64 0, .int .u64 0, .int .u64 0, .int .u64 0, .int .u64 0, .int .u64 0] 6 [.int .u64 (p : Int)] = some (D TT) := by
    rw [hD, hT]; simp only [top6 p hp]; rfl
  have hb1 : y * y < 137438953472 * 137438953472 := Nat.mul_lt_mul'' hy hy
  have hb2 : y * y * y < 137438953472 * 137438953472 * 137438953472 := Nat.mul_lt_mul'' hb1 hy
  have hXb : X < 65536 ^ 12 := by rw [hX]; omega
  have hTb : TT < 65536 ^ 12 := by rw [hT]; omega
  have hti1 := hti y y
  have hti2 := hti (y * y) y
  rw [← hX] at hti2
  generalize y * y = yy at *
  clear hD hti hT hX hb1 hb2
  repeat' (first | (apply R.is1; first | (apply R.isCall; apply R.callP rfl rfl rfl hpa) | (apply R.pure; exact rfl; first | (apply Ok1.move; exact rfl) | (apply Ok1.assign; exact rfl)) | (apply R.alloc; (iterate 3 exact rfl); intro)) | (apply R.is0; (apply R.store; (iterate 4 exact rfl); exact hDl _; exact hDo _; exact Upd.head; exact setE_all (hDl _))) | apply R.nil | (apply T.is; first | apply T.seq | apply T.region | apply T.block))
  apply T.rounds 3
  repeat' (first | (apply R.is1; first | (apply R.isBin; (apply R.pure; exact rfl; first | (apply Ok1.mulU; exact rfl; exact rfl; omega; omega) | (apply Ok1.addU; exact rfl; exact rfl; omega; omega) | (apply Ok1.lss_t; exact rfl; exact rfl; omega) | (apply Ok1.lss_f; exact rfl; exact rfl; omega))) | (apply R.pure; exact rfl; first | (apply Ok1.move; exact rfl) | (apply Ok1.assign; exact rfl) | (apply Ok1.indexAddrA; (iterate 5 exact rfl); omega; omega) | (apply Ok1.buildA; (iterate 6 exact rfl))) | (apply R.alloc; (iterate 3 exact rfl); intro)) | (apply R.is0; first | (apply R.store; (iterate 6 exact rfl); exact Upd.head; exact ht6) | (apply R.store; (iterate 6 exact rfl); exact Upd.head; exact rfl)) | apply R.nil | (apply T.is; first | (apply T.drawC (id := 5) [] (by decide); ((apply A.take 1; exact rfl; exact rfl; kernel_rfl; kernel_rfl; kernel_rfl; (apply Ok1.move; exact rfl)) <;> (apply A.call 2; exact rfl; exact rfl; kernel_rfl; kernel_rfl; kernel_rfl; exact rfl; exact rfl; (exact fun w1 _ => hpa.w w1)) <;> (apply A.one 0; kernel_rfl; exact rfl; (((apply R.pure; exact rfl; (apply Ok1.load; exact rfl; apply Ld.ownk; exact rfl; exact rfl; exact At.head; exact subE_all (hDl _))))); apply R.nil; refine ⟨?_, ?_⟩; (focus ((repeat' (exact trivial))))) <;> (apply A.call 3; exact rfl; exact rfl; kernel_rfl; kernel_rfl; kernel_rfl; exact rfl; exact rfl; first | (exact fun w1 _ => hti1.w w1) | (exact fun w1 _ => hti2.w w1)) <;> (apply A.one 4; kernel_rfl; exact rfl; (((apply R.store; (iterate 4 exact rfl); exact hDl _; exact hDo _; exact Upd.head; exact setE_all ((hDl _).trans (hDl _).symm)))); apply R.nil; refine ⟨?_, ?_⟩; (focus ((repeat' (exact trivial))))) <;> (apply A.done; kernel_rfl))) | apply T.seq | apply T.region | apply T.block | apply T.skip | apply T.exit | (apply T.cond_t; exact rfl) | (apply T.cond_f; exact rfl)))
  rename_i bX bT
  have hb0 : X / 65536 ^ 12 = TT / 65536 ^ 12 := by rw [Nat.div_eq_of_lt hXb, Nat.div_eq_of_lt hTb]
  apply T.loopK (α := Nat) (I := fun m => m ≤ 12 ∧ X / 65536 ^ m = TT / 65536 ^ m) (σi := fun m => [(7, .pointer (some ⟨bX, 0, none⟩)), (9, .pointer (some ⟨bT, 0, none⟩)), (10, .int .i64 ((m : Int) - 1))])
    (Li := fun _ => [(bT, .cells ⟨D TT⟩ 205 (0, 0)), (bX, .cells ⟨D X⟩ 205 (0, 0))]) (μ := fun m => m) (i0 := 12)
  · exact ⟨Nat.le_refl _, hb0⟩
  · exact ⟨rfl, rfl, rfl, trivial⟩
  · (focus ((repeat' (first | exact Keep.nil _ | exact Ext.one _ _ | apply Keep.cons)); done))
  · rintro m ⟨hm, hq⟩
    cases m with
    | zero =>
      repeat' (first | (apply R.is1; first | (apply R.isBin; (apply R.pure; exact rfl; (apply Ok1.geq_f; exact rfl; exact rfl; omega))) | (apply R.pure; exact rfl; first | (apply Ok1.move; exact rfl) | (apply Ok1.assign; exact rfl))) | apply R.nil | (apply T.is; first | apply T.seq | apply T.region | apply T.exit | apply T.ret | (apply T.cond_f; exact rfl)))
      (apply RetOk.t; exact rfl)
      simp only [Nat.pow_zero, Nat.div_one] at hq
      rw [decide_eq_true (Nat.le_of_eq hq)]
    | succ i =>
      obtain ⟨h1, h2, h3⟩ := cmp_step hq
      have gx := hDg X i (by omega) (((i + 1 : Nat) : Int) - 1) (by omega)
      have gt := hDg TT i (by omega) (((i + 1 : Nat) : Int) - 1) (by omega)
      generalize X / 65536 ^ i % 65536 = xi at *
      generalize TT / 65536 ^ i % 65536 = ti at *
      rcases Nat.lt_trichotomy xi ti with hc | hc | hc
      · repeat' (first | (apply R.is1; first | (apply R.isBin; (apply R.pure; exact rfl; (apply Ok1.geq_t; exact rfl; exact rfl; omega))) | (apply R.pure; exact rfl; (apply Ok1.move; exact rfl))) | apply R.nil | (apply T.is; first | (apply T.drawC (id := 11) [0,1] (by decide); ((apply A.take 0; exact rfl; exact rfl; kernel_rfl; kernel_rfl; kernel_rfl; (apply Ok1.move; exact rfl)) <;> (apply A.take 1; exact rfl; exact rfl; kernel_rfl; kernel_rfl; kernel_rfl; (apply Ok1.indexAddrA; (iterate 5 exact rfl); omega; omega)) <;> (apply A.take 2; exact rfl; exact rfl; kernel_rfl; kernel_rfl; kernel_rfl; (apply Ok1.load; exact rfl; apply Ld.own1; exact rfl; exact rfl; (focus ((repeat' (first | exact At.head | apply At.tail)); done)); with_reducible (exact gx))) <;> (apply A.take 3; exact rfl; exact rfl; kernel_rfl; kernel_rfl; kernel_rfl; (apply Ok1.move; exact rfl)) <;> (apply A.take 4; exact rfl; exact rfl; kernel_rfl; kernel_rfl; kernel_rfl; (apply Ok1.indexAddrA; (iterate 5 exact rfl); omega; omega)) <;> (apply A.take 5; exact rfl; exact rfl; kernel_rfl; kernel_rfl; kernel_rfl; (apply Ok1.load; exact rfl; apply Ld.own1; exact rfl; exact rfl; exact At.head; with_reducible (exact gt))) <;> ((apply A.take 6; exact rfl; exact rfl; kernel_rfl; kernel_rfl; kernel_rfl; (apply Ok1.neq_t; exact rfl; exact rfl; omega))) <;> (apply A.done; kernel_rfl))) | (apply T.drawC (id := 12) [0,1] (by decide); ((apply A.take 0; exact rfl; exact rfl; kernel_rfl; kernel_rfl; kernel_rfl; (apply Ok1.move; exact rfl)) <;> (apply A.take 1; exact rfl; exact rfl; kernel_rfl; kernel_rfl; kernel_rfl; (apply Ok1.indexAddrA; (iterate 5 exact rfl); omega; omega)) <;> (apply A.take 2; exact rfl; exact rfl; kernel_rfl; kernel_rfl; kernel_rfl; (apply Ok1.load; exact rfl; apply Ld.own1; exact rfl; exact rfl; (focus ((repeat' (first | exact At.head | apply At.tail)); done)); with_reducible (exact gx))) <;> (apply A.take 3; exact rfl; exact rfl; kernel_rfl; kernel_rfl; kernel_rfl; (apply Ok1.move; exact rfl)) <;> (apply A.take 4; exact rfl; exact rfl; kernel_rfl; kernel_rfl; kernel_rfl; (apply Ok1.indexAddrA; (iterate 5 exact rfl); omega; omega)) <;> (apply A.take 5; exact rfl; exact rfl; kernel_rfl; kernel_rfl; kernel_rfl; (apply Ok1.load; exact rfl; apply Ld.own1; exact rfl; exact rfl; exact At.head; with_reducible (exact gt))) <;> ((apply A.take 6; exact rfl; exact rfl; kernel_rfl; kernel_rfl; kernel_rfl; (apply Ok1.lss_t; exact rfl; exact rfl; omega))) <;> (apply A.take 7; exact rfl; exact rfl; kernel_rfl; kernel_rfl; kernel_rfl; (apply Ok1.assign; exact rfl)) <;> (apply A.done; kernel_rfl))) | apply T.seq | apply T.region | apply T.block | apply T.skip | apply T.ret | (apply T.cond_t; exact rfl)))
        (apply RetOk.t; exact rfl)
        rw [decide_eq_true (h2 hc)]
      · repeat' (first | (apply R.is1; first | (apply R.isBin; (apply R.pure; exact rfl; first | (apply Ok1.sub64; exact rfl; exact rfl; omega; omega) | (apply Ok1.geq_t; exact rfl; exact rfl; omega))) | (apply R.pure; exact rfl; first | (apply Ok1.move; exact rfl) | (apply Ok1.assign; exact rfl))) | apply R.nil | (apply T.is; first | (apply T.drawC (id := 11) [0,1] (by decide); ((apply A.take 0; exact rfl; exact rfl; kernel_rfl; kernel_rfl; kernel_rfl; (apply Ok1.move; exact rfl)) <;> (apply A.take 1; exact rfl; exact rfl; kernel_rfl; kernel_rfl; kernel_rfl; (apply Ok1.indexAddrA; (iterate 5 exact rfl); omega; omega)) <;> (apply A.take 2; exact rfl; exact rfl; kernel_rfl; kernel_rfl; kernel_rfl; (apply Ok1.load; exact rfl; apply Ld.own1; exact rfl; exact rfl; (focus ((repeat' (first | exact At.head | apply At.tail)); done)); with_reducible (exact gx))) <;> (apply A.take 3; exact rfl; exact rfl; kernel_rfl; kernel_rfl; kernel_rfl; (apply Ok1.move; exact rfl)) <;> (apply A.take 4; exact rfl; exact rfl; kernel_rfl; kernel_rfl; kernel_rfl; (apply Ok1.indexAddrA; (iterate 5 exact rfl); omega; omega)) <;> (apply A.take 5; exact rfl; exact rfl; kernel_rfl; kernel_rfl; kernel_rfl; (apply Ok1.load; exact rfl; apply Ld.own1; exact rfl; exact rfl; exact At.head; with_reducible (exact gt))) <;> ((apply A.take 6; exact rfl; exact rfl; kernel_rfl; kernel_rfl; kernel_rfl; (apply Ok1.neq_f; exact rfl; exact rfl; omega))) <;> (apply A.done; kernel_rfl))) | apply T.seq | apply T.region | apply T.block | apply T.skip | (apply T.cond_t; exact rfl) | (apply T.cond_f; exact rfl)))
        refine ⟨i, ⟨by omega, h1 hc⟩, by omega, ⟨rfl, rfl, ?_, trivial⟩, by (focus ((repeat' (first | exact Keep.nil _ | exact Ext.one _ _ | apply Keep.cons)); done))⟩
        exact congrArg (fun z => some (Value.int .i64 z)) (by omega)
      · repeat' (first | (apply R.is1; first | (apply R.isBin; (apply R.pure; exact rfl; (apply Ok1.geq_t; exact rfl; exact rfl; omega))) | (apply R.pure; exact rfl; (apply Ok1.move; exact rfl))) | apply R.nil | (apply T.is; first | (apply T.drawC (id := 11) [0,1] (by decide); ((apply A.take 0; exact rfl; exact rfl; kernel_rfl; kernel_rfl; kernel_rfl; (apply Ok1.move; exact rfl)) <;> (apply A.take 1; exact rfl; exact rfl; kernel_rfl; kernel_rfl; kernel_rfl; (apply Ok1.indexAddrA; (iterate 5 exact rfl); omega; omega)) <;> (apply A.take 2; exact rfl; exact rfl; kernel_rfl; kernel_rfl; kernel_rfl; (apply Ok1.load; exact rfl; apply Ld.own1; exact rfl; exact rfl; (focus ((repeat' (first | exact At.head | apply At.tail)); done)); with_reducible (exact gx))) <;> (apply A.take 3; exact rfl; exact rfl; kernel_rfl; kernel_rfl; kernel_rfl; (apply Ok1.move; exact rfl)) <;> (apply A.take 4; exact rfl; exact rfl; kernel_rfl; kernel_rfl; kernel_rfl; (apply Ok1.indexAddrA; (iterate 5 exact rfl); omega; omega)) <;> (apply A.take 5; exact rfl; exact rfl; kernel_rfl; kernel_rfl; kernel_rfl; (apply Ok1.load; exact rfl; apply Ld.own1; exact rfl; exact rfl; exact At.head; with_reducible (exact gt))) <;> ((apply A.take 6; exact rfl; exact rfl; kernel_rfl; kernel_rfl; kernel_rfl; (apply Ok1.neq_t; exact rfl; exact rfl; omega))) <;> (apply A.done; kernel_rfl))) | (apply T.drawC (id := 12) [0,1] (by decide); ((apply A.take 0; exact rfl; exact rfl; kernel_rfl; kernel_rfl; kernel_rfl; (apply Ok1.move; exact rfl)) <;> (apply A.take 1; exact rfl; exact rfl; kernel_rfl; kernel_rfl; kernel_rfl; (apply Ok1.indexAddrA; (iterate 5 exact rfl); omega; omega)) <;> (apply A.take 2; exact rfl; exact rfl; kernel_rfl; kernel_rfl; kernel_rfl; (apply Ok1.load; exact rfl; apply Ld.own1; exact rfl; exact rfl; (focus ((repeat' (first | exact At.head | apply At.tail)); done)); with_reducible (exact gx))) <;> (apply A.take 3; exact rfl; exact rfl; kernel_rfl; kernel_rfl; kernel_rfl; (apply Ok1.move; exact rfl)) <;> (apply A.take 4; exact rfl; exact rfl; kernel_rfl; kernel_rfl; kernel_rfl; (apply Ok1.indexAddrA; (iterate 5 exact rfl); omega; omega)) <;> (apply A.take 5; exact rfl; exact rfl; kernel_rfl; kernel_rfl; kernel_rfl; (apply Ok1.load; exact rfl; apply Ld.own1; exact rfl; exact rfl; exact At.head; with_reducible (exact gt))) <;> ((apply A.take 6; exact rfl; exact rfl; kernel_rfl; kernel_rfl; kernel_rfl; (apply Ok1.lss_f; exact rfl; exact rfl; omega))) <;> (apply A.take 7; exact rfl; exact rfl; kernel_rfl; kernel_rfl; kernel_rfl; (apply Ok1.assign; exact rfl)) <;> (apply A.done; kernel_rfl))) | apply T.seq | apply T.region | apply T.block | apply T.skip | apply T.ret | (apply T.cond_t; exact rfl)))
        (apply RetOk.t; exact rfl)
        rw [decide_eq_false (h3 hc)]
theorem small_ok (y n p : Nat) (hy : y < 137438953472) (hn : n = 2 ∨ n = 3) (hp : p < 65536) : CallP Tryz.prog 69 [.int .u64 y, .int .u64 n, .int .u64 p] (.bool (decide (y ^ n ≤ p * 65536 ^ (2 * n)))) := by
  rcases hn with rfl | rfl
  · exact small_2 y p (y ^ 2) _ hy hp (Nat.pow_two y) rfl
  · exact small_3 y p (y ^ 3) _ hy hp (by rw [Nat.pow_succ, Nat.pow_two]) rfl
end Go.Proofs.YtligngjcnlbgmaaGreat
set_option linter.unusedSimpArgs false
set_option linter.unusedVariables false
namespace Go.Proofs.YtligngjcnlbgmaaGreat
open Go.RowKit Go.Shelf
set_option maxRecDepth 100000
def rootI (p n : Nat) : Nat → Nat → Nat
  | 0, x => x
  | k + 1, x => if (x + 2 ^ k) ^ n ≤ p * 65536 ^ (2 * n) then rootI p n k (x + 2 ^ k) else rootI p n k x
def rootR (p n : Nat) : Nat := rootI p n 36 0 % 4294967296
theorem root_ok (p n : Nat) (hn : n = 2 ∨ n = 3) (hp : p < 65536) : CallP Tryz.prog 45 [.int .u64 p, .int .u64 n] (.int .u32 (rootR p n)) := by
  refine enterP (tb := tb) Tryz.func45 rfl Tryz.ntmps45 rfl fun w => ?_
  obtain ⟨V, hV⟩ : ∃ V, V = rootI p n 36 0 := ⟨_, rfl⟩
  have hVr : rootR p n = V % 4294967296 := by rw [hV]; rfl
  rw [hVr]
  repeat' (first | (apply R.is1; (apply R.pure; exact rfl; (apply Ok1.assign; exact rfl))) | apply R.nil | (apply T.is; first | apply T.seq | apply T.region | apply T.block))
  apply T.loopK (α := Nat × Nat) (I := fun x => x.1 ≤ 36 ∧ x.2 + 2 ^ x.1 ≤ 68719476736 ∧ rootI p n x.1 x.2 = V) (σi := fun x => [(0, .int .u64 p), (1, .int .u64 n), (5, .int .u64 x.2), (6, .int .i64 ((x.1 : Int) - 1))]) (Li := fun _ => []) (μ := fun x => x.1) (i0 := (36, 0))
  · exact ⟨by simp only; omega, by simp only; omega, hV.symm⟩
  · exact ⟨rfl, rfl, rfl, rfl, trivial⟩
  · (focus ((repeat' (exact Keep.nil _)); done))
  · rintro ⟨k, x⟩ ⟨hk, hb, hr⟩
    simp only at hk hb hr ⊢
    cases k with
    | zero =>
      have hx : x = V := hr
      subst hx
      rw [Nat.pow_zero] at hb
      repeat' (first | (apply R.is1; first | (apply R.isBin; (apply R.pure; exact rfl; first | (apply Ok1.geq_f; exact rfl; exact rfl; omega) | (apply Ok1.remN; exact rfl; exact rfl; omega; omega))) | (apply R.pure; exact rfl; first | (apply Ok1.convU32; (iterate 5 exact rfl); omega; omega) | (apply Ok1.move; exact rfl) | (apply Ok1.assign; exact rfl))) | apply R.nil | (apply T.is; first | apply T.seq | apply T.region | apply T.exit | apply T.ret | (apply T.cond_f; exact rfl)))
      (apply RetOk.t; exact rfl)
      rw [Int.natCast_emod]
      rfl
    | succ k =>
      have hpw : 2 ^ (k + 1) = 2 * 2 ^ k := by rw [Nat.pow_succ, Nat.mul_comm]
      have hr2 : rootI p n (k + 1) x = if (x + 2 ^ k) ^ n ≤ p * 65536 ^ (2 * n) then rootI p n k (x + 2 ^ k) else rootI p n k x := rfl
      rw [hr] at hr2
      rw [hpw] at hb
      have hpos : 0 < 2 ^ k := Nat.pow_pos (by decide)
      have hsm := small_ok (x + 2 ^ k) n p (by omega) hn hp
      have hkn : (((k + 1 : Nat) : Int) - 1).toNat = k := by omega
      have hk0 : 0 ≤ ((k + 1 : Nat) : Int) - 1 := by omega
      have hk64 : (((k + 1 : Nat) : Int) - 1).toNat ≤ IntKind.u64.bits := by rw [hkn]; show k ≤ 64; omega
      have hpk : pw (((k + 1 : Nat) : Int) - 1).toNat = ((2 ^ k : Nat) : Int) := by rw [hkn, pw_eq, Int.natCast_pow]; rfl
      have hI : ∀ x', x' + 2 * 2 ^ k ≤ 68719476736 + 2 ^ k → x' + 2 ^ k ≤ 68719476736 := fun x' h => by omega
      have hx0 : x + 2 ^ k ≤ 68719476736 := by omega
      have hx1 : x + 2 ^ k + 2 ^ k ≤ 68719476736 := by omega
      have hnxt : ((k + 1 : Nat) : Int) - 1 - 1 = (k : Int) - 1 := by omega
      generalize hq : 2 ^ k = q at *
      have hwr : IntKind.u64.wrap (1 * (q : Int)) = (q : Int) := by rw [Int.one_mul]; exact wrap_u64 (by omega) (by omega)
      have hsum : (x : Int) + (q : Int) = ((x + q : Nat) : Int) := by omega
      rw [← hsum] at hsm
      by_cases hle : (x + q) ^ n ≤ p * 65536 ^ (2 * n)
      · rw [if_pos hle] at hr2
        rw [decide_eq_true hle] at hsm
        repeat' (first | (apply R.is1; first | (apply R.isBin; (apply R.pure; exact rfl; first | (apply Ok1.shlE; exact rfl; exact rfl; exact hk0; exact hk64; exact hpk; exact hwr) | (apply Ok1.addU; exact rfl; exact rfl; omega; omega) | (apply Ok1.sub64; exact rfl; exact rfl; omega; omega) | (apply Ok1.geq_t; exact rfl; exact rfl; omega))) | (apply R.isCall; apply R.callP rfl rfl rfl hsm) | (apply R.pure; exact rfl; first | (apply Ok1.move; exact rfl) | (apply Ok1.assign; exact rfl))) | apply R.nil | (apply T.is; first | apply T.seq | apply T.region | apply T.block | apply T.skip | (apply T.cond_t; exact rfl)))
        exact ⟨(k, x + q), ⟨by simp only; omega, by simp only [hq]; exact hx1, hr2.symm⟩, by simp only; omega, ⟨rfl, rfl, congrArg (fun z => some (Value.int .u64 z)) hsum, congrArg (fun z => some (Value.int .i64 z)) hnxt, trivial⟩, by (focus ((repeat' (exact Keep.nil _)); done))⟩
      · rw [if_neg hle] at hr2
        rw [decide_eq_false hle] at hsm
        repeat' (first | (apply R.is1; first | (apply R.isBin; (apply R.pure; exact rfl; first | (apply Ok1.shlE; exact rfl; exact rfl; exact hk0; exact hk64; exact hpk; exact hwr) | (apply Ok1.addU; exact rfl; exact rfl; omega; omega) | (apply Ok1.sub64; exact rfl; exact rfl; omega; omega) | (apply Ok1.geq_t; exact rfl; exact rfl; omega))) | (apply R.isCall; apply R.callP rfl rfl rfl hsm) | (apply R.pure; exact rfl; first | (apply Ok1.move; exact rfl) | (apply Ok1.assign; exact rfl))) | apply R.nil | (apply T.is; first | apply T.seq | apply T.region | apply T.block | apply T.skip | (apply T.cond_t; exact rfl) | (apply T.cond_f; exact rfl)))
        exact ⟨(k, x), ⟨by simp only; omega, by simp only [hq]; exact hx0, hr2.symm⟩, by simp only; omega, ⟨rfl, rfl, rfl, congrArg (fun z => some (Value.int .i64 z)) hnxt, trivial⟩, by (focus ((repeat' (exact Keep.nil _)); done))⟩
end Go.Proofs.YtligngjcnlbgmaaGreat
set_option linter.unusedSimpArgs false
set_option linter.unusedVariables false
namespace Go.Proofs.YtligngjcnlbgmaaGreat
open Go.RowKit Go.Shelf
set_option maxRecDepth 100000
def pl (p : Nat) : Nat → Nat → Bool → Bool
  | 0, _, b => b
  | f + 1, q, b => if q * q ≤ p then pl p f (q + 1) (b && !decide (p % q = 0)) else b
def isP (p : Nat) : Bool := pl p 18 2 true
def PL : List Nat := [2, 3, 5, 7, 11, 13, 17, 19, 23, 29, 31, 37, 41, 43, 47, 53, 59, 61, 67, 71, 73, 79, 83, 89, 97, 101, 103, 107, 109, 113, 127, 131, 137, 139, 149, 151, 157, 163, 167, 173, 179, 181, 191, 193, 197, 199, 211, 223, 227, 229, 233, 239, 241, 251, 257, 263, 269, 271, 277, 281, 283, 293, 307, 311]
def Fp (p : Nat) : List Nat := PL.filter fun x => Nat.blt x p
theorem Fp_step : ∀ p, p < 312 → 2 ≤ p → Fp (p + 1) = (if isP p then Fp p ++ [p] else Fp p) ∧ (Fp p).length < 64 := by decide +kernel
theorem Fp_end : Fp 312 = PL := by decide +kernel
theorem roots3 : PL.map (fun p => ((rootR p 3 : Nat) : Int)) = kI := by decide +kernel
theorem roots2 : (PL.take 8).map (fun p => ((rootR p 2 : Nat) : Int)) = h0I.l := by decide +kernel
def zs (n : Nat) : List Value := List.replicate n (.int .u32 0)
def tbC (l : List Nat) : List Value := u32s (l.map fun p => ((rootR p 3 : Nat) : Int)) ++ (zs (64 - l.length) ++ (u32s ((l.take 8).map fun p => ((rootR p 2 : Nat) : Int)) ++ zs (8 - l.length)))
theorem tbC_end : tbC PL = tabV := by
  unfold tbC
  rw [roots3, roots2]
  rfl
theorem put_mid {o : List Value} {n k i : Nat} {x z : Value} {r : List Value} (hl : o.length = n) (hi : i = n) : setE (o ++ (List.replicate (k + 1) z ++ r)) i [x] = some (o ++ [x] ++ (List.replicate k z ++ r)) := by
  subst hl hi
  rw [setE_mid o (by simp; omega)]
  simp [List.replicate_succ]
theorem tb_put {l : List Nat} {p : Nat} (h : l.length < 64) (h8 : ¬ l.length < 8) : setE (tbC l) l.length [.int .u32 ((rootR p 3 : Nat) : Int)] = some (tbC (l ++ [p])) := by
  unfold tbC zs
  obtain ⟨k, hk⟩ : ∃ k, 64 - l.length = k + 1 := ⟨63 - l.length, by omega⟩
  rw [hk, put_mid (by rw [u32s_len, List.length_map]) rfl, List.map_append, u32s_app, List.length_append, List.length_singleton, show 64 - (l.length + 1) = k by omega, List.take_append_of_le_length (by omega), show 8 - (l.length + 1) = 8 - l.length by omega]
  rfl
def tbM (l : List Nat) (p : Nat) : List Value := u32s ((l ++ [p]).map fun p => ((rootR p 3 : Nat) : Int)) ++ (zs (64 - (l.length + 1)) ++ (u32s ((l.take 8).map fun p => ((rootR p 2 : Nat) : Int)) ++ zs (8 - l.length)))
theorem tb_put1 {l : List Nat} {p : Nat} (h : l.length < 8) : setE (tbC l) l.length [.int .u32 ((rootR p 3 : Nat) : Int)] = some (tbM l p) := by
  unfold tbC tbM zs
  obtain ⟨k, hk⟩ : ∃ k, 64 - l.length = k + 1 := ⟨63 - l.length, by omega⟩
  rw [hk, put_mid (by rw [u32s_len, List.length_map]) rfl, List.map_append, u32s_app, show 64 - (l.length + 1) = k by omega]
  rfl
theorem tb_put2 {l : List Nat} {p : Nat} (h : l.length < 8) : setE (tbM l p) (64 + l.length) [.int .u32 ((rootR p 2 : Nat) : Int)] = some (tbC (l ++ [p])) := by
  unfold tbC tbM zs
  obtain ⟨k, hk⟩ : ∃ k, 8 - l.length = k + 1 := ⟨7 - l.length, by omega⟩
  rw [hk, ← List.append_assoc, ← List.append_assoc]
  have h1 := put_mid (k := k) (z := .int .u32 0) (x := .int .u32 ((rootR p 2 : Nat) : Int)) (r := []) (i := 64 + l.length) (n := 64 + l.length) (o := u32s ((l ++ [p]).map fun p => ((rootR p 3 : Nat) : Int)) ++ List.replicate (64 - (l.length + 1)) (.int .u32 0) ++ u32s ((l.take 8).map fun p => ((rootR p 2 : Nat) : Int))) (by
    simp only [List.length_append, u32s_len, List.length_map, List.length_replicate, List.length_take, List.length_singleton]; omega) rfl
  rw [List.append_nil, List.append_nil] at h1
  rw [h1, List.length_append, List.length_singleton, List.take_of_length_le (by omega : l.length ≤ 8), List.take_of_length_le (by rw [List.length_append, List.length_singleton]; omega), List.map_append (f := fun p => ((rootR p 2 : Nat) : Int)), u32s_app (List.map (fun p => ((rootR p 2 : Nat) : Int)) l), show 8 - (l.length + 1) = k by omega]
  simp only [List.append_assoc]
  rfl
theorem tb_len {l : List Nat} (h : l.length ≤ 64) : (tbC l).length = 72 := by
  unfold tbC zs
  simp only [List.length_append, u32s_len, List.length_map, List.length_replicate, List.length_take]; omega
theorem tb_one (l : List Nat) : (tbC l).all Value.oneCell' = true := by
  have hz : ∀ n, (zs n).all Value.oneCell' = true := by intro n; rw [List.all_eq_true]; intro x hx; rw [List.eq_of_mem_replicate hx]; rfl
  unfold tbC
  simp only [List.all_append, u32s_one, hz, Bool.and_true]
theorem vmake_ok : CallP Tryz.prog 8 [] (.agg ⟨tabV⟩) := by
  refine enterP (tb := tb) Tryz.func8 rfl Tryz.ntmps8 rfl fun w => ?_
  repeat' (first | (apply R.is1; first | (apply R.pure; exact rfl; first | (apply Ok1.assign; exact rfl) | (apply Ok1.build; (iterate 5 exact rfl))) | (apply R.alloc; (iterate 3 exact rfl); intro)) | (apply R.is0; (apply R.store; (iterate 6 exact rfl); exact Upd.head; exact rfl)) | apply R.nil | (apply T.is; first | apply T.seq | apply T.region | apply T.block))
  rename_i bR bT
  apply T.loopK (α := Nat) (I := fun p => 2 ≤ p ∧ p ≤ 312) (σi := fun p => [(0, .pointer (some ⟨bR, 0, none⟩)), (1, .pointer (some ⟨bT, 0, none⟩)), (2, .int .i64 ((Fp p).length : Nat)), (3, .int .u64 p)])
    (Li := fun p => [(bT, .cells ⟨tbC (Fp p)⟩ 34 (0, 0)), (bR, .cells ⟨List.replicate 72 (.int .u32 0)⟩ 34 (0, 0))]) (μ := fun p => 312 - p) (i0 := 2)
  · exact ⟨by decide, by decide⟩
  · exact ⟨rfl, rfl, rfl, rfl, trivial⟩
  · (focus ((repeat' (first | exact Keep.nil _ | exact Ext.one _ _ | apply Keep.cons)); done))
  · rintro p ⟨h2, h3⟩
    rcases Nat.lt_or_ge p 312 with hlt | hge
    · obtain ⟨hst, h64⟩ := Fp_step p hlt h2
      have hr3 := root_ok p 3 (.inr rfl) (by omega)
      have hr2 := root_ok p 2 (.inl rfl) (by omega)
      generalize Fp p = l at *
      repeat' (first | (apply R.is1; first | (apply R.isBin; (apply R.pure; exact rfl; (apply Ok1.lss_t; exact rfl; exact rfl; omega))) | (apply R.pure; exact rfl; first | (apply Ok1.move; exact rfl) | (apply Ok1.assign; exact rfl))) | apply R.nil | (apply T.is; first | apply T.seq | apply T.region | apply T.block | apply T.skip | (apply T.cond_t; exact rfl)))
      apply T.loopK (α := Nat × Bool) (I := fun x => 2 ≤ x.1 ∧ x.1 ≤ 20 ∧ pl p (20 - x.1) x.1 x.2 = isP p) (σi := fun x => [(0, .pointer (some ⟨bR, 0, none⟩)), (1, .pointer (some ⟨bT, 0, none⟩)), (2, .int .i64 (l.length : Nat)), (3, .int .u64 p), (4, .bool x.2), (5, .int .u64 x.1)])
        (Li := fun _ => [(bT, .cells ⟨tbC l⟩ 34 (0, 0)), (bR, .cells ⟨List.replicate 72 (.int .u32 0)⟩ 34 (0, 0))]) (μ := fun x => 20 - x.1) (i0 := (2, true))
      · exact ⟨by decide, by decide, rfl⟩
      · exact ⟨rfl, rfl, rfl, rfl, rfl, rfl, trivial⟩
      · (focus ((repeat' (first | exact Keep.nil _ | exact Ext.one _ _ | apply Keep.cons)); done))
      · rintro ⟨q, b⟩ ⟨hq2, hq20, hpl⟩
        simp only at hq2 hq20 hpl ⊢
        have hqq : ((q * q : Nat) : Int) = (q : Int) * (q : Int) := by rw [Int.natCast_mul]
        have hqb : q * q ≤ 20 * 20 := Nat.mul_le_mul hq20 hq20
        have hpq : ((p % q : Nat) : Int) = (p : Int) % (q : Int) := Int.natCast_emod p q
        rcases Nat.lt_or_ge p (q * q) with hgt | hle
        · have hb : b = isP p := by
            rw [← hpl]
            cases hf : 20 - q with
            | zero => rfl
            | succ f => simp only [pl]; rw [if_neg (by omega)]
          rw [← hb] at hst
          cases b with
          | false =>
            repeat' (first | (apply R.is1; first | (apply R.isBin; (apply R.pure; exact rfl; first | (apply Ok1.mulU; exact rfl; exact rfl; omega; omega) | (apply Ok1.addU; exact rfl; exact rfl; omega; omega) | (apply Ok1.leq_f; exact rfl; exact rfl; omega))) | (apply R.pure; exact rfl; first | (apply Ok1.move; exact rfl) | (apply Ok1.assign; exact rfl) | (apply Ok1.not_f; exact rfl))) | apply R.nil | (apply T.is; first | apply T.seq | apply T.region | apply T.exit | (apply T.cond_t; exact rfl) | (apply T.cond_f; exact rfl)))
            refine ⟨p + 1, ⟨by omega, by omega⟩, by omega, ⟨rfl, rfl, ?_, rfl, trivial⟩, ?_⟩
            · rw [hst]; rfl
            · rw [hst]; (focus ((repeat' (first | exact Keep.nil _ | exact Ext.one _ _ | apply Keep.cons)); done))
          | true =>
            have hst2 : Fp (p + 1) = l ++ [p] := hst
            have hn1 : ((l.length : Nat) : Int) + 1 = (((l ++ [p]).length : Nat) : Int) := by simp
            have ho1 : (0 + 0) + ((l.length : Nat) : Int).toNat * 1 = l.length := by omega
            have ho2 : (0 + 64) + ((l.length : Nat) : Int).toNat * 1 = 64 + l.length := by omega
            by_cases h8 : l.length < 8
            · have hp1 := tb_put1 (p := p) h8
              have hp2 := tb_put2 (p := p) h8
              rw [← ho1] at hp1
              rw [← ho2] at hp2
              repeat' (first | (apply R.is1; first | (apply R.isBin; (apply R.pure; exact rfl; first | (apply Ok1.mulU; exact rfl; exact rfl; omega; omega) | (apply Ok1.addU; exact rfl; exact rfl; omega; omega) | (apply Ok1.add64; exact rfl; exact rfl; omega; omega) | (apply Ok1.lss_t; exact rfl; exact rfl; omega) | (apply Ok1.leq_f; exact rfl; exact rfl; omega))) | (apply R.isCall; first | apply R.callP rfl rfl rfl hr3 | apply R.callP rfl rfl rfl hr2) | (apply R.pure; exact rfl; first | (apply Ok1.move; exact rfl) | (apply Ok1.fieldAddr; (iterate 5 exact rfl)) | (apply Ok1.assign; exact rfl) | (apply Ok1.indexAddrA; (iterate 5 exact rfl); omega; omega) | (apply Ok1.not_t; exact rfl))) | (apply R.is0; (apply R.store; (iterate 6 exact rfl); exact Upd.head; first | exact hp1 | exact hp2)) | apply R.nil | (apply T.is; first | apply T.seq | apply T.region | apply T.skip | apply T.exit | (apply T.cond_t; exact rfl) | (apply T.cond_f; exact rfl)))
              refine ⟨p + 1, ⟨by omega, by omega⟩, by omega, ⟨rfl, rfl, ?_, rfl, trivial⟩, ?_⟩
              · rw [hst2]; exact congrArg (fun z => some (Value.int .i64 z)) hn1
              · rw [hst2]; (focus ((repeat' (first | exact Keep.nil _ | exact Ext.one _ _ | apply Keep.cons)); done))
            · have hp1 := tb_put (p := p) h64 h8
              rw [← ho1] at hp1
              repeat' (first | (apply R.is1; first | (apply R.isBin; (apply R.pure; exact rfl; first | (apply Ok1.mulU; exact rfl; exact rfl; omega; omega) | (apply Ok1.addU; exact rfl; exact rfl; omega; omega) | (apply Ok1.add64; exact rfl; exact rfl; omega; omega) | (apply Ok1.lss_f; exact rfl; exact rfl; omega) | (apply Ok1.leq_f; exact rfl; exact rfl; omega))) | (apply R.isCall; apply R.callP rfl rfl rfl hr3) | (apply R.pure; exact rfl; first | (apply Ok1.move; exact rfl) | (apply Ok1.fieldAddr; (iterate 5 exact rfl)) | (apply Ok1.assign; exact rfl) | (apply Ok1.indexAddrA; (iterate 5 exact rfl); omega; omega) | (apply Ok1.not_t; exact rfl))) | (apply R.is0; (apply R.store; (iterate 6 exact rfl); exact Upd.head; exact hp1)) | apply R.nil | (apply T.is; first | apply T.seq | apply T.region | apply T.skip | apply T.exit | (apply T.cond_f; exact rfl)))
              refine ⟨p + 1, ⟨by omega, by omega⟩, by omega, ⟨rfl, rfl, ?_, rfl, trivial⟩, ?_⟩
              · rw [hst2]; exact congrArg (fun z => some (Value.int .i64 z)) hn1
              · rw [hst2]; (focus ((repeat' (first | exact Keep.nil _ | exact Ext.one _ _ | apply Keep.cons)); done))
        · have hq19 : q < 20 := by
            rcases Nat.lt_or_ge q 20 with h | h
            · exact h
            · have : q = 20 := by omega
              subst this; omega
          have hpl2 : pl p (20 - (q + 1)) (q + 1) (b && !decide (p % q = 0)) = isP p := by
            rw [← hpl, show 20 - q = (20 - (q + 1)) + 1 by omega]
            simp only [pl]
            rw [if_pos hle]
          cases b with
          | false =>
            repeat' (first | (apply R.is1; first | (apply R.isBin; (apply R.pure; exact rfl; first | (apply Ok1.mulU; exact rfl; exact rfl; omega; omega) | (apply Ok1.addU; exact rfl; exact rfl; omega; omega) | (apply Ok1.leq_t; exact rfl; exact rfl; omega))) | (apply R.pure; exact rfl; first | (apply Ok1.move; exact rfl) | (apply Ok1.assign; exact rfl) | (apply Ok1.pick_f; exact rfl; exact rfl))) | (apply R.isG; (apply R.guard_not; (iterate 3 exact rfl))) | apply R.nil | (apply T.is; first | apply T.seq | apply T.region | apply T.block | apply T.skip | (apply T.cond_t; exact rfl)))
            exact ⟨(q + 1, false), ⟨by simp only; omega, by simp only; omega, hpl2⟩, by simp only; omega, ⟨rfl, rfl, rfl, rfl, rfl, rfl, trivial⟩, by (focus ((repeat' (first | exact Keep.nil _ | exact Ext.one _ _ | apply Keep.cons)); done))⟩
          | true =>
            by_cases hz : p % q = 0
            · rw [decide_eq_true hz] at hpl2
              have hz2 : (p : Int) % (q : Int) = 0 := by omega
              repeat' (first | (apply R.is1; first | (apply R.isBin; (apply R.pure; exact rfl; first | (apply Ok1.mulU; exact rfl; exact rfl; omega; omega) | (apply Ok1.addU; exact rfl; exact rfl; omega; omega) | (apply Ok1.leq_t; exact rfl; exact rfl; omega) | (apply Ok1.neq_f; exact rfl; exact rfl; omega) | (apply Ok1.remN; exact rfl; exact rfl; omega; omega))) | (apply R.pure; exact rfl; first | (apply Ok1.move; exact rfl) | (apply Ok1.assign; exact rfl) | (apply Ok1.pick_t; exact rfl; exact rfl))) | (apply R.isG; (apply R.guard_run; exact rfl; exact rfl)) | apply R.nil | (apply T.is; first | apply T.seq | apply T.region | apply T.block | apply T.skip | (apply T.cond_t; exact rfl)))
              exact ⟨(q + 1, false), ⟨by simp only; omega, by simp only; omega, hpl2⟩, by simp only; omega, ⟨rfl, rfl, rfl, rfl, rfl, rfl, trivial⟩, by (focus ((repeat' (first | exact Keep.nil _ | exact Ext.one _ _ | apply Keep.cons)); done))⟩
            · rw [decide_eq_false hz] at hpl2
              have hz2 : (p : Int) % (q : Int) ≠ 0 := by omega
              repeat' (first | (apply R.is1; first | (apply R.isBin; (apply R.pure; exact rfl; first | (apply Ok1.mulU; exact rfl; exact rfl; omega; omega) | (apply Ok1.addU; exact rfl; exact rfl; omega; omega) | (apply Ok1.leq_t; exact rfl; exact rfl; omega) | (apply Ok1.neq_t; exact rfl; exact rfl; omega) | (apply Ok1.remN; exact rfl; exact rfl; omega; omega))) | (apply R.pure; exact rfl; first | (apply Ok1.move; exact rfl) | (apply Ok1.assign; exact rfl) | (apply Ok1.pick_t; exact rfl; exact rfl))) | (apply R.isG; (apply R.guard_run; exact rfl; exact rfl)) | apply R.nil | (apply T.is; first | apply T.seq | apply T.region | apply T.block | apply T.skip | (apply T.cond_t; exact rfl)))
              exact ⟨(q + 1, true), ⟨by simp only; omega, by simp only; omega, hpl2⟩, by simp only; omega, ⟨rfl, rfl, rfl, rfl, rfl, rfl, trivial⟩, by (focus ((repeat' (first | exact Keep.nil _ | exact Ext.one _ _ | apply Keep.cons)); done))⟩
    · have he : p = 312 := by omega
      subst he
      have hl : (tbC PL).length = 72 := tb_len (by decide)
      have ho := tb_one PL
      have h64 : (Fp 312).length = 64 := by rw [Fp_end]; rfl
      rw [h64, Fp_end]
      have hend := tbC_end
      generalize tbC PL = tv at *
      repeat' (first | (apply R.is1; first | (apply R.isBin; (apply R.pure; exact rfl; (apply Ok1.lss_f; exact rfl; exact rfl; omega))) | (apply R.pure; exact rfl; first | (apply Ok1.load; exact rfl; apply Ld.ownk; exact rfl; exact rfl; exact At.head; exact subE_all hl) | (apply Ok1.move; exact rfl))) | (apply R.is0; (apply R.store; (iterate 4 exact rfl); exact hl; exact ho; (focus ((repeat' (first | exact Upd.head | apply Upd.tail)); done)); exact setE_all hl)) | apply R.nil | (apply T.is; first | apply T.seq | apply T.region | apply T.exit | apply T.ret | (apply T.cond_f; exact rfl)))
      apply RetOk.c
      exact rfl
      apply Ld.ownk
      exact rfl
      exact rfl
      (focus ((repeat' (first | exact At.head | apply At.tail)); done))
      exact subE_all hl
      rw [hend]
end Go.Proofs.YtligngjcnlbgmaaGreat
