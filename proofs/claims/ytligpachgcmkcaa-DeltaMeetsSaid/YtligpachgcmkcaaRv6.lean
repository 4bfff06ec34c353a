/- Contracts of revoke: a log joined with what a delta has of it. -/
import Derived.Test.YtligpachgcmkcaaRv5
set_option linter.unusedSimpArgs false
set_option linter.unusedVariables false
namespace Go.Proofs.Ytligpachgcmkcaa
open Go.RowKit Go.Shelf
set_option maxRecDepth 100000

/-- How much of it both have; the error; the log. -/
def both (xs ys : List Int) (k : Nat) : Nat := min (xs.length - k) ys.length
def jAll (xs ys : List Int) (k : Nat) : List Int := xs ++ ys.drop (both xs ys k)
def jE (xs ys : List Int) (k : Nat) : Int :=
  if (xs.drop k).take (both xs ys k) ≠ ys.take (both xs ys k) then 3 else if ¬ (jAll xs ys k).Nodup then 3 else if 256 < (jAll xs ys k).length then 6 else 0
def jL (xs ys : List Int) (k : Nat) : List Int := if jE xs ys k = 0 then jAll xs ys k else []
theorem mid_take (xs : List Int) (k b : Nat) (h : k + b ≤ xs.length) : ((xs.drop k).take b).length = b := by rw [List.length_take, List.length_drop]; omega
theorem joined_ok (p1 : Option Addr) (n1 c1 : Nat) (xs : List Int) (hn1 : n1 = xs.length) (hc1 : n1 ≤ c1) (hb1 : n1 ≤ 256) (k : Nat) (hk : k ≤ n1) (p2 : Option Addr) (n2 c2 : Nat) (ys : List Int) (hn2 : n2 = ys.length) (hc2 : n2 ≤ c2) (hb2 : n2 ≤ 256) (w : World) (h1 : RdSl w p1 iV xs) (h2 : RdSl w p2 iV ys) :
    CallM Try.prog 60 [.slice p1 n1 c1, .int .i64 k, .slice p2 n2 c2] [] w fun v L => ∃ ov, v = .tuple #[slV ov (jL xs ys k).length, .int .i64 (jE xs ys k)] ∧ OvOk 1 ov (jL xs ys k).length (iis (jL xs ys k)) ∧ L = blkL 3 ov (iis (jL xs ys k)) := by
  subst hn1 hn2
  obtain ⟨b, hb⟩ : ∃ b, both xs ys k = b := ⟨_, rfl⟩
  have hbx : k + b ≤ xs.length := by unfold both at hb; omega
  have hby : b ≤ ys.length := by unfold both at hb; omega
  have hmin : min ((xs.length : Int) - k) ys.length = (b : Int) := by unfold both at hb; omega
  have hja : jAll xs ys k = xs ++ ys.drop b := by rw [jAll, hb]
  have hje : jE xs ys k = if (xs.drop k).take b ≠ ys.take b then 3 else if ¬ (xs ++ ys.drop b).Nodup then 3 else if 256 < (xs ++ ys.drop b).length then 6 else 0 := by rw [jE, hja, hb]
  have hml := mid_take xs k b hbx
  have hdl : (ys.drop b).length = ys.length - b := List.length_drop
  have hr1 : RdSl w (sufP p1 c1 k 1) iV ((xs.drop k).take b) := (h1.suf iV_len (by omega) hc1).pre iV_len b
  have hr2 : RdSl w p2 iV (ys.take b) := h2.pre iV_len b
  have hr3 : RdSl w (sufP p2 c2 b 1) iV (ys.drop b) := h2.suf iV_len hby hc2
  have heq := fun w1 (hc : Chg [] w w1) => ieqs_ok (sufP p1 c1 k 1) p2 (k + b - k) b (c1 - k) c2 ((xs.drop k).take b) (ys.take b) (by rw [hml]; omega) (by rw [List.length_take]; omega) (by omega) w1 (hr1.chg' hc (fun _ => Off.nil _)) (hr2.chg' hc (fun _ => Off.nil _))
  have hcat : icat [⟨p1, c1, xs⟩, ⟨sufP p2 c2 b 1, c2 - b, ys.drop b⟩] = xs ++ ys.drop b := by simp [icat]
  have hal : (xs ++ ys.drop b).length ≤ 512 := by rw [List.length_append]; omega
  have hcon : ∀ bq w1, Hp w [] [(bq, .cells ⟨[.slice p1 xs.length c1, .slice (sufP p2 c2 b 1) (ys.length - b) (c2 - b)]⟩ 25 (0, 0))] w1 → CallM Try.prog 57 [.slice (some ⟨bq, 0, none⟩) 2 2] [] w1 fun v L => ∃ ov, OvOk 1 ov (xs ++ ys.drop b).length (iis (xs ++ ys.drop b)) ∧ v = slV ov (xs ++ ys.drop b).length ∧ L = blkL 3 ov (iis (xs ++ ys.drop b)) := by
    intro bq w1 hw1
    have := iconcat_ok (some ⟨bq, 0, none⟩) 2 2 [⟨p1, c1, xs⟩, ⟨sufP p2 c2 b 1, c2 - b, ys.drop b⟩] rfl (by rw [hcat]; omega) (by decide) w1 (RdSl.of (junk := []) hw1 .head (by simp [fl, Pi.v, hdl])) (by
      intro z hz
      simp only [List.mem_cons, List.not_mem_nil, or_false] at hz
      rcases hz with rfl | rfl
      · exact h1.chg' hw1.chg (fun _ => Off.nil _)
      · exact hr3.chg' hw1.chg (fun _ => Off.nil _))
    rw [hcat] at this
    exact this
  have htw := fun p cap w1 hh => twice_ok p (xs ++ ys.drop b).length cap (xs ++ ys.drop b) rfl (by omega) w1 hh
  have hjl : jL xs ys k = if jE xs ys k = 0 then xs ++ ys.drop b else [] := by rw [jL, hja]
  refine enterK (tb := tb) Try.func60 rfl Try.ntmps60 rfl ?_
  repeat' (first | (apply R.is1; first | (apply R.isBin; (apply R.pure; exact rfl; (apply Ok1.sub64; exact rfl; exact rfl; omega; omega))) | (apply R.isCall; (apply R.pure; exact rfl; first | (apply Ok1.lenS; (iterate 3 exact rfl)) | (apply Ok1.min2; exact rfl; exact rfl))) | (apply R.pure; exact rfl; first | (apply Ok1.move; exact rfl) | (apply Ok1.assign; exact rfl))) | apply R.nil | (apply T.is; first | apply T.seq | apply T.region))
  rw [hmin]
  by_cases c : (xs.drop k).take b = ys.take b
  · rw [decide_eq_true c] at heq
    rw [if_neg (fun h => h c)] at hje
    generalize xs ++ ys.drop b = all at *
    by_cases hnd : all.Nodup
    · rw [decide_eq_false (fun h => h hnd)] at htw
      rw [if_neg (fun h => h hnd)] at hje
      by_cases hf : 256 < all.length
      · rw [if_pos hf] at hje
        rw [hje, if_neg (by decide)] at hjl
        rw [hje, hjl]
        repeat' (first | (apply R.is1; first | (apply R.isBin; (apply R.pure; exact rfl; (apply Ok1.gtr_t; exact rfl; exact rfl; omega))) | (apply R.isCall; first | (apply R.callE (vs := [.slice (some ⟨_, 0, none⟩) 2 2]); (iterate 3 exact rfl); exact Ext.none _; intro w1 hw1; exact hcon _ w1 hw1; rintro v Lo ⟨ov, hov, rfl, rfl⟩; rw [slV_eq hov]) | (apply R.callE (vs := [.slice (ovp ov) all.length (ovc ov all.length)]); (iterate 3 exact rfl); exact Ext.none _; intro w1 hw1; exact htw (ovp ov) (ovc ov all.length) w1 (irdown hov hw1 (Ext.mem (by (focus ((repeat' (exact Ext.here _ _)); done))))); rintro v Lo ⟨rfl, rfl⟩) | (apply R.pure; exact rfl; (apply Ok1.lenS; (iterate 3 exact rfl)))) | (apply R.pure; exact rfl; first | (apply Ok1.sufR (i := b) (sz := 1); (iterate 6 exact rfl); omega; omega) | (apply Ok1.move; exact rfl) | (apply Ok1.assign; exact rfl)) | (apply R.buildSlice; (iterate 12 exact rfl); intro)) | apply R.nil | (apply T.is; first | (apply T.drawC (id := 2) [] (by decide); ((apply A.take 0; exact rfl; exact rfl; kernel_rfl; kernel_rfl; kernel_rfl; (apply Ok1.move; exact rfl)) <;> (apply A.take 1; exact rfl; exact rfl; kernel_rfl; kernel_rfl; kernel_rfl; (apply Ok1.move; exact rfl)) <;> (apply A.take 2; exact rfl; exact rfl; kernel_rfl; kernel_rfl; kernel_rfl; (apply Ok1.move; exact rfl)) <;> (apply A.take 3; exact rfl; exact rfl; kernel_rfl; kernel_rfl; kernel_rfl; (apply Ok1.move; exact rfl)) <;> (apply A.take 4; exact rfl; exact rfl; kernel_rfl; kernel_rfl; kernel_rfl; (apply Ok1.add64; exact rfl; exact rfl; omega; omega)) <;> (apply A.take 5; exact rfl; exact rfl; kernel_rfl; kernel_rfl; kernel_rfl; (apply Ok1.midR (i := k) (j := k + b) (sz := 1); (iterate 6 exact rfl); exact congrArg (fun z : Int => some (Value.int .i64 z)) (Int.natCast_add k b).symm; omega; omega)) <;> (apply A.take 6; exact rfl; exact rfl; kernel_rfl; kernel_rfl; kernel_rfl; (apply Ok1.move; exact rfl)) <;> (apply A.take 7; exact rfl; exact rfl; kernel_rfl; kernel_rfl; kernel_rfl; (apply Ok1.move; exact rfl)) <;> (apply A.take 8; exact rfl; exact rfl; kernel_rfl; kernel_rfl; kernel_rfl; (apply Ok1.preR (i := b); (iterate 5 exact rfl); omega)) <;> (apply A.one 9; kernel_rfl; exact rfl; (((apply R.callV (vs := [.slice (sufP p1 c1 k 1) (k + b - k) (c1 - k), .slice p2 b c2]); (iterate 3 exact rfl); intro w1 hw1; exact heq w1 hw1.chg))); apply R.nil; refine ⟨?_, ?_⟩; (focus ((repeat' (exact trivial))))) <;> (apply A.take 10; exact rfl; exact rfl; kernel_rfl; kernel_rfl; kernel_rfl; (apply Ok1.not_t; exact rfl)) <;> (apply A.done; kernel_rfl))) | apply T.seq | apply T.region | apply T.block | apply T.skip | apply T.ret | (apply T.cond_t; exact rfl) | (apply T.cond_f; exact rfl)))
        (apply RetOk.tt; exact rfl; exact rfl)
        exact ⟨_, Keep.nil _, none, rfl, ⟨rfl, rfl⟩, rfl⟩
      · rw [if_neg hf] at hje
        rw [hje, if_pos rfl] at hjl
        rw [hje, hjl]
        repeat' (first | (apply R.is1; first | (apply R.isBin; (apply R.pure; exact rfl; (apply Ok1.gtr_f; exact rfl; exact rfl; omega))) | (apply R.isCall; first | (apply R.callE (vs := [.slice (some ⟨_, 0, none⟩) 2 2]); (iterate 3 exact rfl); exact Ext.none _; intro w1 hw1; exact hcon _ w1 hw1; rintro v Lo ⟨ov, hov, rfl, rfl⟩; rw [slV_eq hov]) | (apply R.callE (vs := [.slice (ovp ov) all.length (ovc ov all.length)]); (iterate 3 exact rfl); exact Ext.none _; intro w1 hw1; exact htw (ovp ov) (ovc ov all.length) w1 (irdown hov hw1 (Ext.mem (by (focus ((repeat' (exact Ext.here _ _)); done))))); rintro v Lo ⟨rfl, rfl⟩) | (apply R.pure; exact rfl; (apply Ok1.lenS; (iterate 3 exact rfl)))) | (apply R.pure; exact rfl; first | (apply Ok1.sufR (i := b) (sz := 1); (iterate 6 exact rfl); omega; omega) | (apply Ok1.move; exact rfl) | (apply Ok1.assign; exact rfl)) | (apply R.buildSlice; (iterate 12 exact rfl); intro)) | apply R.nil | (apply T.is; first | (apply T.drawC (id := 2) [] (by decide); ((apply A.take 0; exact rfl; exact rfl; kernel_rfl; kernel_rfl; kernel_rfl; (apply Ok1.move; exact rfl)) <;> (apply A.take 1; exact rfl; exact rfl; kernel_rfl; kernel_rfl; kernel_rfl; (apply Ok1.move; exact rfl)) <;> (apply A.take 2; exact rfl; exact rfl; kernel_rfl; kernel_rfl; kernel_rfl; (apply Ok1.move; exact rfl)) <;> (apply A.take 3; exact rfl; exact rfl; kernel_rfl; kernel_rfl; kernel_rfl; (apply Ok1.move; exact rfl)) <;> (apply A.take 4; exact rfl; exact rfl; kernel_rfl; kernel_rfl; kernel_rfl; (apply Ok1.add64; exact rfl; exact rfl; omega; omega)) <;> (apply A.take 5; exact rfl; exact rfl; kernel_rfl; kernel_rfl; kernel_rfl; (apply Ok1.midR (i := k) (j := k + b) (sz := 1); (iterate 6 exact rfl); exact congrArg (fun z : Int => some (Value.int .i64 z)) (Int.natCast_add k b).symm; omega; omega)) <;> (apply A.take 6; exact rfl; exact rfl; kernel_rfl; kernel_rfl; kernel_rfl; (apply Ok1.move; exact rfl)) <;> (apply A.take 7; exact rfl; exact rfl; kernel_rfl; kernel_rfl; kernel_rfl; (apply Ok1.move; exact rfl)) <;> (apply A.take 8; exact rfl; exact rfl; kernel_rfl; kernel_rfl; kernel_rfl; (apply Ok1.preR (i := b); (iterate 5 exact rfl); omega)) <;> (apply A.one 9; kernel_rfl; exact rfl; (((apply R.callV (vs := [.slice (sufP p1 c1 k 1) (k + b - k) (c1 - k), .slice p2 b c2]); (iterate 3 exact rfl); intro w1 hw1; exact heq w1 hw1.chg))); apply R.nil; refine ⟨?_, ?_⟩; (focus ((repeat' (exact trivial))))) <;> (apply A.take 10; exact rfl; exact rfl; kernel_rfl; kernel_rfl; kernel_rfl; (apply Ok1.not_t; exact rfl)) <;> (apply A.done; kernel_rfl))) | apply T.seq | apply T.region | apply T.block | apply T.skip | apply T.ret | (apply T.cond_f; exact rfl)))
        (apply RetOk.tt; exact rfl; exact rfl)
        refine ⟨_, ?_, ov, by rw [slV_eq hov], hov, rfl⟩
        (focus ((repeat' (first | exact Ext.here _ _ | apply Keep.last | apply Ext.app)); done))
    · rw [decide_eq_true hnd] at htw
      rw [if_pos hnd] at hje
      rw [hje, if_neg (by decide)] at hjl
      rw [hje, hjl]
      repeat' (first | (apply R.is1; first | (apply R.isCall; first | (apply R.callE (vs := [.slice (some ⟨_, 0, none⟩) 2 2]); (iterate 3 exact rfl); exact Ext.none _; intro w1 hw1; exact hcon _ w1 hw1; rintro v Lo ⟨ov, hov, rfl, rfl⟩; rw [slV_eq hov]) | (apply R.callE (vs := [.slice (ovp ov) all.length (ovc ov all.length)]); (iterate 3 exact rfl); exact Ext.none _; intro w1 hw1; exact htw (ovp ov) (ovc ov all.length) w1 (irdown hov hw1 (Ext.mem (by (focus ((repeat' (exact Ext.here _ _)); done))))); rintro v Lo ⟨rfl, rfl⟩)) | (apply R.pure; exact rfl; first | (apply Ok1.sufR (i := b) (sz := 1); (iterate 6 exact rfl); omega; omega) | (apply Ok1.move; exact rfl) | (apply Ok1.assign; exact rfl)) | (apply R.buildSlice; (iterate 12 exact rfl); intro)) | apply R.nil | (apply T.is; first | (apply T.drawC (id := 2) [] (by decide); ((apply A.take 0; exact rfl; exact rfl; kernel_rfl; kernel_rfl; kernel_rfl; (apply Ok1.move; exact rfl)) <;> (apply A.take 1; exact rfl; exact rfl; kernel_rfl; kernel_rfl; kernel_rfl; (apply Ok1.move; exact rfl)) <;> (apply A.take 2; exact rfl; exact rfl; kernel_rfl; kernel_rfl; kernel_rfl; (apply Ok1.move; exact rfl)) <;> (apply A.take 3; exact rfl; exact rfl; kernel_rfl; kernel_rfl; kernel_rfl; (apply Ok1.move; exact rfl)) <;> (apply A.take 4; exact rfl; exact rfl; kernel_rfl; kernel_rfl; kernel_rfl; (apply Ok1.add64; exact rfl; exact rfl; omega; omega)) <;> (apply A.take 5; exact rfl; exact rfl; kernel_rfl; kernel_rfl; kernel_rfl; (apply Ok1.midR (i := k) (j := k + b) (sz := 1); (iterate 6 exact rfl); exact congrArg (fun z : Int => some (Value.int .i64 z)) (Int.natCast_add k b).symm; omega; omega)) <;> (apply A.take 6; exact rfl; exact rfl; kernel_rfl; kernel_rfl; kernel_rfl; (apply Ok1.move; exact rfl)) <;> (apply A.take 7; exact rfl; exact rfl; kernel_rfl; kernel_rfl; kernel_rfl; (apply Ok1.move; exact rfl)) <;> (apply A.take 8; exact rfl; exact rfl; kernel_rfl; kernel_rfl; kernel_rfl; (apply Ok1.preR (i := b); (iterate 5 exact rfl); omega)) <;> (apply A.one 9; kernel_rfl; exact rfl; (((apply R.callV (vs := [.slice (sufP p1 c1 k 1) (k + b - k) (c1 - k), .slice p2 b c2]); (iterate 3 exact rfl); intro w1 hw1; exact heq w1 hw1.chg))); apply R.nil; refine ⟨?_, ?_⟩; (focus ((repeat' (exact trivial))))) <;> (apply A.take 10; exact rfl; exact rfl; kernel_rfl; kernel_rfl; kernel_rfl; (apply Ok1.not_t; exact rfl)) <;> (apply A.done; kernel_rfl))) | apply T.seq | apply T.region | apply T.block | apply T.skip | apply T.ret | (apply T.cond_t; exact rfl) | (apply T.cond_f; exact rfl)))
      (apply RetOk.tt; exact rfl; exact rfl)
      exact ⟨_, Keep.nil _, none, rfl, ⟨rfl, rfl⟩, rfl⟩
  · rw [decide_eq_false c] at heq
    rw [if_pos c] at hje
    rw [hje, if_neg (by decide)] at hjl
    rw [hje, hjl]
    repeat' (first | (apply R.is1; (apply R.pure; exact rfl; (apply Ok1.assign; exact rfl))) | apply R.nil | (apply T.is; first | (apply T.drawC (id := 2) [] (by decide); ((apply A.take 0; exact rfl; exact rfl; kernel_rfl; kernel_rfl; kernel_rfl; (apply Ok1.move; exact rfl)) <;> (apply A.take 1; exact rfl; exact rfl; kernel_rfl; kernel_rfl; kernel_rfl; (apply Ok1.move; exact rfl)) <;> (apply A.take 2; exact rfl; exact rfl; kernel_rfl; kernel_rfl; kernel_rfl; (apply Ok1.move; exact rfl)) <;> (apply A.take 3; exact rfl; exact rfl; kernel_rfl; kernel_rfl; kernel_rfl; (apply Ok1.move; exact rfl)) <;> (apply A.take 4; exact rfl; exact rfl; kernel_rfl; kernel_rfl; kernel_rfl; (apply Ok1.add64; exact rfl; exact rfl; omega; omega)) <;> (apply A.take 5; exact rfl; exact rfl; kernel_rfl; kernel_rfl; kernel_rfl; (apply Ok1.midR (i := k) (j := k + b) (sz := 1); (iterate 6 exact rfl); exact congrArg (fun z : Int => some (Value.int .i64 z)) (Int.natCast_add k b).symm; omega; omega)) <;> (apply A.take 6; exact rfl; exact rfl; kernel_rfl; kernel_rfl; kernel_rfl; (apply Ok1.move; exact rfl)) <;> (apply A.take 7; exact rfl; exact rfl; kernel_rfl; kernel_rfl; kernel_rfl; (apply Ok1.move; exact rfl)) <;> (apply A.take 8; exact rfl; exact rfl; kernel_rfl; kernel_rfl; kernel_rfl; (apply Ok1.preR (i := b); (iterate 5 exact rfl); omega)) <;> (apply A.one 9; kernel_rfl; exact rfl; (((apply R.callV (vs := [.slice (sufP p1 c1 k 1) (k + b - k) (c1 - k), .slice p2 b c2]); (iterate 3 exact rfl); intro w1 hw1; exact heq w1 hw1.chg))); apply R.nil; refine ⟨?_, ?_⟩; (focus ((repeat' (exact trivial))))) <;> (apply A.take 10; exact rfl; exact rfl; kernel_rfl; kernel_rfl; kernel_rfl; (apply Ok1.not_f; exact rfl)) <;> (apply A.done; kernel_rfl))) | apply T.seq | apply T.region | apply T.ret | (apply T.cond_t; exact rfl)))
    (apply RetOk.tt; exact rfl; exact rfl)
    exact ⟨_, Keep.nil _, none, rfl, ⟨rfl, rfl⟩, rfl⟩
end Go.Proofs.Ytligpachgcmkcaa
