/- Plain: a delta applied to the beginnings, and again. -/
import Derived.Test.YtligpachgcmkcaaRv9
set_option linter.unusedSimpArgs false
set_option linter.unusedVariables false
namespace Go.Proofs.Ytligpachgcmkcaa
open Go.RowKit Go.Shelf

/-- Logs as they must be. -/
def LOk (ls : List (List Int)) : Prop := ∀ xs ∈ ls, SR xs ∧ xs.Nodup ∧ xs.length ≤ 256
theorem LOk.rev {ls : List (List Int)} (h : LOk ls) (seed : Int) (xs : List Int) : LOk (revL ls seed xs) := by
  unfold revL
  by_cases h0 : revE ls seed xs = 0
  · rw [if_pos h0]
    unfold revE at h0
    split at h0
    · cases h0
    · rename_i hr
      split at h0
      · cases h0
      · rename_i hn
        split at h0
        · cases h0
        · rename_i hf
          intro ys hy
          rcases List.mem_or_eq_of_mem_set hy with h1 | rfl
          · exact h ys h1
          · refine ⟨fun y hy => ?_, Classical.not_not.1 hn, by omega⟩
            rcases List.mem_append.1 hy with h2 | h2
            · rw [List.getD_eq_getElem?_getD] at h2
              cases hg : ls[seed.toNat]? with
              | none => rw [hg] at h2; simp at h2
              | some zs =>
                rw [hg] at h2
                exact (h zs (List.mem_of_getElem? hg)).1 y h2
            · exact (Classical.not_not.1 fun hs => hr (.inr (.inr hs))) y h2
  · rw [if_neg h0]; exact h
def preD (ls : List (List Int)) (vs : List Int) : List (List Int) := (ls.zip vs).map fun x => x.1.take x.2.toNat
theorem pre_get {ls : List (List Int)} {vs : List Int} {i : Nat} {xs : List Int} {v : Int} (h1 : ls[i]? = some xs) (h2 : vs[i]? = some v) : (preD ls vs)[i]? = some (xs.take v.toNat) := by
  have h3 : (ls.zip vs)[i]? = some (xs, v) := by rw [List.getElem?_zip_eq_some]; exact ⟨h1, h2⟩
  rw [preD, List.getElem?_map, h3]; rfl
theorem je_pre {xs : List Int} {k : Nat} (hk : k ≤ xs.length) (hn : xs.Nodup) (hl : xs.length ≤ 256) : jE (xs.take k) (xs.drop k) k = 0 ∧ jL (xs.take k) (xs.drop k) k = xs := by
  have h1 : (xs.take k).length = k := by rw [List.length_take]; omega
  have hb : both (xs.take k) (xs.drop k) k = 0 := by unfold both; omega
  have ha : jAll (xs.take k) (xs.drop k) k = xs := by rw [jAll, hb, List.drop_zero, List.take_append_drop]
  have he : jE (xs.take k) (xs.drop k) k = 0 := by
    unfold jE
    rw [hb, ha, List.take_zero, List.take_zero, if_neg (fun h => h rfl), if_neg (fun h => h hn), if_neg (by omega)]
  exact ⟨he, by rw [jL, if_pos he, ha]⟩
theorem je_whole {xs : List Int} {k : Nat} (hk : k ≤ xs.length) (hn : xs.Nodup) (hl : xs.length ≤ 256) : jE xs (xs.drop k) k = 0 ∧ jL xs (xs.drop k) k = xs := by
  have hb : both xs (xs.drop k) k = xs.length - k := by unfold both; rw [List.length_drop]; omega
  have ha : jAll xs (xs.drop k) k = xs := by rw [jAll, hb, List.drop_drop, List.drop_of_length_le (by omega), List.append_nil]
  have he : jE xs (xs.drop k) k = 0 := by
    unfold jE
    rw [hb, ha, if_neg (fun h => h rfl), if_neg (fun h => h hn), if_neg (by omega)]
  exact ⟨he, by rw [jL, if_pos he, ha]⟩
theorem app_eq {ls : List (List Int)} {dd : List (Int × List Int)} (hd : DR dd) (h9 : ∀ x ∈ ls.zip dd, x.2.1 ≤ (x.1.length : Int)) (h0 : ∀ x ∈ ls.zip dd, JE x = 0) : appX ls dd = 0 := by
  unfold appX
  rw [if_pos hd, appE, if_neg, if_neg, if_neg]
  · rintro ⟨x, hx, h⟩; rw [h0 x hx] at h; cases h
  · rintro ⟨x, hx, h⟩; rw [h0 x hx] at h; cases h
  · rintro ⟨x, hx, h⟩; have := h9 x hx; omega
theorem sin_dr {ls : List (List Int)} {vs : List Int} (h : LOk ls) (hv : VOk ls vs) : DR (sinD ls vs) := by
  intro y hy
  obtain ⟨x, hx, rfl⟩ := List.mem_map.1 hy
  have h1 := h x.1 (List.of_mem_zip hx).1
  have h2 := hv x hx
  refine ⟨h2.1, by omega, by simp only [List.length_drop]; omega, fun z hz => h1.1 z (List.mem_of_mem_drop hz)⟩
/-- How many serials a delta holds. -/
def cntD (dd : List (Int × List Int)) : Int := (dd.map fun x => (x.2.length : Int)).sum
theorem app_pre {ls : List (List Int)} {vs : List Int} (hl : vs.length = ls.length) (h : LOk ls) (hv : VOk ls vs) : appX (preD ls vs) (sinD ls vs) = 0 ∧ appL (preD ls vs) (sinD ls vs) = ls ∧ appN (preD ls vs) (sinD ls vs) = cntD (sinD ls vs) := by
  have hz : (preD ls vs).zip (sinD ls vs) = (ls.zip vs).map fun x => (x.1.take x.2.toNat, x.2, x.1.drop x.2.toNat) := by
    unfold preD sinD
    rw [List.zip_map']
  have hk : ∀ x ∈ ls.zip vs, x.2.toNat ≤ x.1.length ∧ (x.2.toNat : Int) = x.2 := fun x hx => by have := hv x hx; omega
  have hj : ∀ x ∈ ls.zip vs, JE (x.1.take x.2.toNat, x.2, x.1.drop x.2.toNat) = 0 ∧ JL (x.1.take x.2.toNat, x.2, x.1.drop x.2.toNat) = x.1 := fun x hx => by
    have h1 := h x.1 (List.of_mem_zip hx).1
    exact je_pre (hk x hx).1 h1.2.1 h1.2.2
  have hx0 : appX (preD ls vs) (sinD ls vs) = 0 := by
    refine app_eq (sin_dr h hv) ?_ ?_
    · rw [hz]
      intro y hy
      obtain ⟨x, hx, rfl⟩ := List.mem_map.1 hy
      have := hk x hx
      simp only [List.length_take]
      omega
    · rw [hz]
      intro y hy
      obtain ⟨x, hx, rfl⟩ := List.mem_map.1 hy
      exact (hj x hx).1
  refine ⟨hx0, ?_, ?_⟩
  · rw [appL, if_pos hx0, hz, List.map_map]
    have : (ls.zip vs).map (JL ∘ fun x => (x.1.take x.2.toNat, x.2, x.1.drop x.2.toNat)) = (ls.zip vs).map (·.1) := List.map_congr_left fun x hx => (hj x hx).2
    rw [this, List.map_fst_zip (by omega)]
  · rw [appN, if_pos hx0, hz, List.map_map, cntD, sinD, List.map_map]
    congr 1
    refine List.map_congr_left fun x hx => ?_
    have := hk x hx
    simp only [Function.comp_apply, (hj x hx).2, List.length_take, List.length_drop]
    omega
theorem app_whole {ls : List (List Int)} {vs : List Int} (hl : vs.length = ls.length) (h : LOk ls) (hv : VOk ls vs) : appX ls (sinD ls vs) = 0 ∧ appL ls (sinD ls vs) = ls ∧ appN ls (sinD ls vs) = 0 := by
  have hz : ls.zip (sinD ls vs) = (ls.zip vs).map fun x => (x.1, x.2, x.1.drop x.2.toNat) := by
    have : ls = (ls.zip vs).map (·.1) := by rw [List.map_fst_zip (by omega)]
    conv => lhs; rw [this]; arg 2; unfold sinD; rw [← this]
    rw [List.zip_map']
  have hk : ∀ x ∈ ls.zip vs, x.2.toNat ≤ x.1.length ∧ (x.2.toNat : Int) = x.2 := fun x hx => by have := hv x hx; omega
  have hj : ∀ x ∈ ls.zip vs, JE (x.1, x.2, x.1.drop x.2.toNat) = 0 ∧ JL (x.1, x.2, x.1.drop x.2.toNat) = x.1 := fun x hx => by
    have h1 := h x.1 (List.of_mem_zip hx).1
    exact je_whole (hk x hx).1 h1.2.1 h1.2.2
  have hx0 : appX ls (sinD ls vs) = 0 := by
    refine app_eq (sin_dr h hv) ?_ ?_
    · rw [hz]
      intro y hy
      obtain ⟨x, hx, rfl⟩ := List.mem_map.1 hy
      exact (hv x hx).2
    · rw [hz]
      intro y hy
      obtain ⟨x, hx, rfl⟩ := List.mem_map.1 hy
      exact (hj x hx).1
  refine ⟨hx0, ?_, ?_⟩
  · rw [appL, if_pos hx0, hz, List.map_map]
    have : (ls.zip vs).map (JL ∘ fun x => (x.1, x.2, x.1.drop x.2.toNat)) = (ls.zip vs).map (·.1) := List.map_congr_left fun x hx => (hj x hx).2
    rw [this, List.map_fst_zip (by omega)]
  · rw [appN, if_pos hx0, hz, List.map_map]
    have : (ls.zip vs).map ((fun x : Jx => ((JL x).length : Int) - x.1.length) ∘ fun x => (x.1, x.2, x.1.drop x.2.toNat)) = (ls.zip vs).map fun _ => (0 : Int) := List.map_congr_left fun x hx => by simp only [Function.comp_apply, (hj x hx).2]; omega
    rw [this]
    generalize ls.zip vs = l
    induction l with
    | nil => rfl
    | cons a l ih => simpa using ih
end Go.Proofs.Ytligpachgcmkcaa
/- Contracts: the document's Same, the statements' same and Of at no delta. -/
set_option linter.unusedSimpArgs false
set_option linter.unusedVariables false
namespace Go.Proofs.Ytligpachgcmkcaa
open Go.RowKit Go.Shelf
set_option maxRecDepth 100000

theorem isame_ok (p1 p2 : Option Addr) (n1 n2 c1 c2 : Nat) (xs ys : List Int) (hn1 : n1 = xs.length) (hn2 : n2 = ys.length) (hbig : n1 ≤ 1000000000) (w : World) (h1 : RdSl w p1 iV xs) (h2 : RdSl w p2 iV ys) : CallW Try.prog 25 [.slice p1 n1 c1, .slice p2 n2 c2] w fun v _ => v = .bool (decide (xs = ys)) := by
  subst hn1 hn2
  refine enterW (tb := tb) Try.func25 rfl Try.ntmps25 rfl ?_
  by_cases hne : xs.length = ys.length
  · repeat' (first | (apply R.is1; first | (apply R.isBin; (apply R.pure; exact rfl; (apply Ok1.neq_f; exact rfl; exact rfl; omega))) | (apply R.isCall; (apply R.pure; exact rfl; (apply Ok1.lenS; (iterate 3 exact rfl)))) | (apply R.pure; exact rfl; first | (apply Ok1.move; exact rfl) | (apply Ok1.assign; exact rfl))) | apply R.nil | (apply T.is; first | apply T.seq | apply T.region | apply T.block | apply T.skip | (apply T.cond_f; exact rfl)))
    apply T.loopK (α := Nat) (I := fun i => i ≤ xs.length ∧ xs.take i = ys.take i) (σi := fun i => [(0, .slice p1 xs.length c1), (1, .slice p2 ys.length c2), (5, .int .i64 i)]) (Li := fun _ => []) (μ := fun i => xs.length - i) (i0 := 0)
    · exact ⟨Nat.zero_le _, rfl⟩
    · exact ⟨rfl, rfl, rfl, trivial⟩
    · (focus ((repeat' (exact Keep.nil _)); done))
    · intro i ⟨hi, htk⟩
      rcases Nat.lt_or_ge i xs.length with hlt | hge
      · obtain ⟨x, hx⟩ : ∃ x, xs[i]? = some x := ⟨_, List.getElem?_eq_getElem (by omega)⟩
        obtain ⟨y, hy⟩ : ∃ y, ys[i]? = some y := ⟨_, List.getElem?_eq_getElem (by omega)⟩
        obtain ⟨b1, o1, hpe1, H1⟩ := h1.at hx
        obtain ⟨b2, o2, hpe2, H2⟩ := h2.at hy
        replace H1 := H1 1 iV_len
        replace H2 := H2 1 iV_len
        by_cases hxy : x = y
        · repeat' (first | (apply R.is1; first | (apply R.isBin; (apply R.pure; exact rfl; first | (apply Ok1.add64; exact rfl; exact rfl; omega; omega) | (apply Ok1.lss_t; exact rfl; exact rfl; omega))) | (apply R.isCall; (apply R.pure; exact rfl; (apply Ok1.lenS; (iterate 3 exact rfl)))) | (apply R.pure; exact rfl; first | (apply Ok1.move; exact rfl) | (apply Ok1.assign; exact rfl))) | apply R.nil | (apply T.is; first | (apply T.drawC (id := 6) [] (by decide); ((apply A.take 0; exact rfl; exact rfl; kernel_rfl; kernel_rfl; kernel_rfl; (apply Ok1.move; exact rfl)) <;> (apply A.take 1; exact rfl; exact rfl; kernel_rfl; kernel_rfl; kernel_rfl; (apply Ok1.move; exact rfl)) <;> (apply A.take 2; exact rfl; exact rfl; kernel_rfl; kernel_rfl; kernel_rfl; (apply Ok1.indexAddrP; (iterate 4 exact rfl); (exact hpe1); exact rfl; omega; omega)) <;> (apply A.take 3; exact rfl; exact rfl; kernel_rfl; kernel_rfl; kernel_rfl; (apply Ok1.load; exact rfl; (apply Ld.row0 H1; exact rfl; exact List.not_mem_nil; (iterate 3 exact rfl)))) <;> (apply A.take 4; exact rfl; exact rfl; kernel_rfl; kernel_rfl; kernel_rfl; (apply Ok1.move; exact rfl)) <;> (apply A.take 5; exact rfl; exact rfl; kernel_rfl; kernel_rfl; kernel_rfl; (apply Ok1.move; exact rfl)) <;> (apply A.take 6; exact rfl; exact rfl; kernel_rfl; kernel_rfl; kernel_rfl; (apply Ok1.indexAddrP; (iterate 4 exact rfl); (exact hpe2); exact rfl; omega; omega)) <;> (apply A.take 7; exact rfl; exact rfl; kernel_rfl; kernel_rfl; kernel_rfl; (apply Ok1.load; exact rfl; (apply Ld.row0 H2; exact rfl; exact List.not_mem_nil; (iterate 3 exact rfl)))) <;> ((apply A.take 8; exact rfl; exact rfl; kernel_rfl; kernel_rfl; kernel_rfl; (apply Ok1.neq_f; exact rfl; exact rfl; omega))) <;> (apply A.done; kernel_rfl))) | apply T.seq | apply T.region | apply T.block | apply T.skip | (apply T.cond_t; exact rfl) | (apply T.cond_f; exact rfl)))
          refine ⟨i + 1, ⟨by omega, ?_⟩, by omega, ⟨rfl, rfl, rfl, trivial⟩, by (focus ((repeat' (exact Keep.nil _)); done))⟩
          rw [List.take_add_one, List.take_add_one, htk, hx, hy, hxy]
        · repeat' (first | (apply R.is1; first | (apply R.isBin; (apply R.pure; exact rfl; (apply Ok1.lss_t; exact rfl; exact rfl; omega))) | (apply R.isCall; (apply R.pure; exact rfl; (apply Ok1.lenS; (iterate 3 exact rfl)))) | (apply R.pure; exact rfl; first | (apply Ok1.move; exact rfl) | (apply Ok1.assign; exact rfl))) | apply R.nil | (apply T.is; first | (apply T.drawC (id := 6) [] (by decide); ((apply A.take 0; exact rfl; exact rfl; kernel_rfl; kernel_rfl; kernel_rfl; (apply Ok1.move; exact rfl)) <;> (apply A.take 1; exact rfl; exact rfl; kernel_rfl; kernel_rfl; kernel_rfl; (apply Ok1.move; exact rfl)) <;> (apply A.take 2; exact rfl; exact rfl; kernel_rfl; kernel_rfl; kernel_rfl; (apply Ok1.indexAddrP; (iterate 4 exact rfl); (exact hpe1); exact rfl; omega; omega)) <;> (apply A.take 3; exact rfl; exact rfl; kernel_rfl; kernel_rfl; kernel_rfl; (apply Ok1.load; exact rfl; (apply Ld.row0 H1; exact rfl; exact List.not_mem_nil; (iterate 3 exact rfl)))) <;> (apply A.take 4; exact rfl; exact rfl; kernel_rfl; kernel_rfl; kernel_rfl; (apply Ok1.move; exact rfl)) <;> (apply A.take 5; exact rfl; exact rfl; kernel_rfl; kernel_rfl; kernel_rfl; (apply Ok1.move; exact rfl)) <;> (apply A.take 6; exact rfl; exact rfl; kernel_rfl; kernel_rfl; kernel_rfl; (apply Ok1.indexAddrP; (iterate 4 exact rfl); (exact hpe2); exact rfl; omega; omega)) <;> (apply A.take 7; exact rfl; exact rfl; kernel_rfl; kernel_rfl; kernel_rfl; (apply Ok1.load; exact rfl; (apply Ld.row0 H2; exact rfl; exact List.not_mem_nil; (iterate 3 exact rfl)))) <;> ((apply A.take 8; exact rfl; exact rfl; kernel_rfl; kernel_rfl; kernel_rfl; (apply Ok1.neq_t; exact rfl; exact rfl; omega))) <;> (apply A.done; kernel_rfl))) | apply T.seq | apply T.region | apply T.block | apply T.skip | apply T.ret | (apply T.cond_t; exact rfl)))
          all_goals (apply RetOk.t; exact rfl)
          all_goals rw [decide_eq_false]
          intro e
          rw [e, hy] at hx
          cases hx
          exact hxy rfl
      · repeat' (first | (apply R.is1; first | (apply R.isBin; (apply R.pure; exact rfl; (apply Ok1.lss_f; exact rfl; exact rfl; omega))) | (apply R.isCall; (apply R.pure; exact rfl; (apply Ok1.lenS; (iterate 3 exact rfl)))) | (apply R.pure; exact rfl; first | (apply Ok1.move; exact rfl) | (apply Ok1.assign; exact rfl))) | apply R.nil | (apply T.is; first | apply T.seq | apply T.region | apply T.exit | apply T.ret | (apply T.cond_f; exact rfl)))
        (apply RetOk.t; exact rfl)
        rw [List.take_of_length_le hge, List.take_of_length_le (by omega)] at htk
        rw [decide_eq_true htk]
  · repeat' (first | (apply R.is1; first | (apply R.isBin; (apply R.pure; exact rfl; (apply Ok1.neq_t; exact rfl; exact rfl; omega))) | (apply R.isCall; (apply R.pure; exact rfl; (apply Ok1.lenS; (iterate 3 exact rfl)))) | (apply R.pure; exact rfl; first | (apply Ok1.move; exact rfl) | (apply Ok1.assign; exact rfl))) | apply R.nil | (apply T.is; first | apply T.seq | apply T.region | apply T.ret | (apply T.cond_t; exact rfl)))
    all_goals (apply RetOk.t; exact rfl)
    all_goals rw [decide_eq_false]
    exact fun e => hne (by rw [e])
theorem of8_zero : CallP Try.prog 24 [.agg ⟨noD⟩] (.agg ⟨noD⟩) := by
  refine enterP (tb := tb) Try.func24 rfl Try.ntmps24 rfl fun w => ?_
  simp only [noD]
  repeat' (first | (apply R.is1; first | (apply R.pure; exact rfl; first | (apply Ok1.fieldAddr; (iterate 5 exact rfl)) | (apply Ok1.load; exact rfl; (apply Ld.ownk; exact rfl; exact rfl; (focus ((repeat' (first | exact At.head | apply At.tail)); done)); exact rfl)) | (apply Ok1.build; (iterate 5 exact rfl))) | (apply R.box; (iterate 3 exact rfl); intro) | (apply R.alloc; (iterate 3 exact rfl); intro)) | (apply R.is0; (apply R.store; (iterate 6 exact rfl); exact Upd.head; exact rfl)) | apply R.nil | (apply T.is; first | apply T.seq | apply T.region | apply T.ret))
  all_goals (apply RetOk.c; exact rfl; ((apply Ld.ownk; exact rfl; exact rfl; exact At.head; exact rfl)))
  all_goals rfl
theorem same8_zero (w : World) : CallW Try.prog 23 [.agg ⟨noD⟩, .agg ⟨noD⟩] w fun v _ => v = .bool true := by
  have hs := fun w1 => isame_ok none none 0 0 0 0 [] [] rfl rfl (by decide) w1 (.inl rfl) (.inl rfl)
  refine enterW (tb := tb) Try.func23 rfl Try.ntmps23 rfl ?_
  simp only [noD]
  repeat' (first | (apply R.is1; first | (apply R.isBin; (apply R.pure; exact rfl; first | (apply Ok1.add64; exact rfl; exact rfl; omega; omega) | (apply Ok1.lss_t; exact rfl; exact rfl; omega) | (apply Ok1.lss_f; exact rfl; exact rfl; omega))) | (apply R.pure; exact rfl; first | (apply Ok1.move; exact rfl) | (apply Ok1.assign; exact rfl)) | (apply R.box; (iterate 3 exact rfl); intro)) | apply R.nil | (apply T.is; first | apply T.rounds 5 | (apply T.drawC (id := 4) [0,1] (by decide); ((apply A.take 0; exact rfl; exact rfl; kernel_rfl; kernel_rfl; kernel_rfl; (apply Ok1.move; exact rfl)) <;> (apply A.take 1; exact rfl; exact rfl; kernel_rfl; kernel_rfl; kernel_rfl; (apply Ok1.fieldAddr; (iterate 5 exact rfl))) <;> (apply A.take 2; exact rfl; exact rfl; kernel_rfl; kernel_rfl; kernel_rfl; (apply Ok1.indexAddrA; (iterate 5 exact rfl); omega; omega)) <;> (apply A.take 3; exact rfl; exact rfl; kernel_rfl; kernel_rfl; kernel_rfl; (apply Ok1.load; exact rfl; (apply Ld.own1; exact rfl; exact rfl; (focus ((repeat' (first | exact At.head | apply At.tail)); done)); exact rfl))) <;> (apply A.take 4; exact rfl; exact rfl; kernel_rfl; kernel_rfl; kernel_rfl; (apply Ok1.move; exact rfl)) <;> (apply A.take 5; exact rfl; exact rfl; kernel_rfl; kernel_rfl; kernel_rfl; (apply Ok1.fieldAddr; (iterate 5 exact rfl))) <;> (apply A.take 6; exact rfl; exact rfl; kernel_rfl; kernel_rfl; kernel_rfl; (apply Ok1.indexAddrA; (iterate 5 exact rfl); omega; omega)) <;> (apply A.take 7; exact rfl; exact rfl; kernel_rfl; kernel_rfl; kernel_rfl; (apply Ok1.load; exact rfl; (apply Ld.own1; exact rfl; exact rfl; exact At.head; exact rfl))) <;> ((apply A.take 8; exact rfl; exact rfl; kernel_rfl; kernel_rfl; kernel_rfl; (apply Ok1.neq_f; exact rfl; exact rfl; omega))) <;> (apply A.take 9; exact rfl; exact rfl; kernel_rfl; kernel_rfl; kernel_rfl; (apply Ok1.move; exact rfl)) <;> ((apply A.takeG 10; exact rfl; exact rfl; rotate_left 3; exact rfl; exact rfl; rotate_right 3; kernel_rfl; kernel_rfl; kernel_rfl; (apply Ok1.move; exact rfl))) <;> ((apply A.takeG 11; exact rfl; exact rfl; rotate_left 3; exact rfl; exact rfl; rotate_right 3; kernel_rfl; kernel_rfl; kernel_rfl; (apply Ok1.fieldAddr; (iterate 5 exact rfl)))) <;> ((apply A.takeG 12; exact rfl; exact rfl; rotate_left 3; exact rfl; exact rfl; rotate_right 3; kernel_rfl; kernel_rfl; kernel_rfl; (apply Ok1.indexAddrA; (iterate 5 exact rfl); omega; omega))) <;> ((apply A.takeG 13; exact rfl; exact rfl; rotate_left 3; exact rfl; exact rfl; rotate_right 3; kernel_rfl; kernel_rfl; kernel_rfl; (apply Ok1.load; exact rfl; (apply Ld.own1; exact rfl; exact rfl; (focus ((repeat' (first | exact At.head | apply At.tail)); done)); exact rfl)))) <;> ((apply A.takeG 14; exact rfl; exact rfl; rotate_left 3; exact rfl; exact rfl; rotate_right 3; kernel_rfl; kernel_rfl; kernel_rfl; (apply Ok1.move; exact rfl))) <;> ((apply A.takeG 15; exact rfl; exact rfl; rotate_left 3; exact rfl; exact rfl; rotate_right 3; kernel_rfl; kernel_rfl; kernel_rfl; (apply Ok1.fieldAddr; (iterate 5 exact rfl)))) <;> ((apply A.takeG 16; exact rfl; exact rfl; rotate_left 3; exact rfl; exact rfl; rotate_right 3; kernel_rfl; kernel_rfl; kernel_rfl; (apply Ok1.indexAddrA; (iterate 5 exact rfl); omega; omega))) <;> ((apply A.takeG 17; exact rfl; exact rfl; rotate_left 3; exact rfl; exact rfl; rotate_right 3; kernel_rfl; kernel_rfl; kernel_rfl; (apply Ok1.load; exact rfl; (apply Ld.own1; exact rfl; exact rfl; exact At.head; exact rfl)))) <;> (apply A.one 18; kernel_rfl; exact rfl; (((apply R.isG; apply R.guard_run; exact rfl; exact rfl; ((apply R.callV (vs := [.slice none 0 0, .slice none 0 0]); (iterate 3 exact rfl); intro w1 hw1; exact hs w1))))); apply R.nil; refine ⟨?_, ?_⟩; (focus ((repeat' (first | exact trivial | (refine ⟨?_, ?_⟩; (focus ((repeat' (first | exact At.head | apply At.tail)); done)))))))) <;> ((apply A.takeG 19; exact rfl; exact rfl; rotate_left 3; exact rfl; exact rfl; rotate_right 3; kernel_rfl; kernel_rfl; kernel_rfl; (apply Ok1.not_t; exact rfl))) <;> (apply A.take 20; exact rfl; exact rfl; kernel_rfl; kernel_rfl; kernel_rfl; (apply Ok1.pick_f; exact rfl; exact rfl)) <;> (apply A.done; kernel_rfl))) | apply T.seq | apply T.region | apply T.block | apply T.skip | apply T.exit | apply T.ret | (apply T.cond_t; exact rfl) | (apply T.cond_f; exact rfl)))
  all_goals (apply RetOk.t; exact rfl)
  all_goals rfl
end Go.Proofs.Ytligpachgcmkcaa
