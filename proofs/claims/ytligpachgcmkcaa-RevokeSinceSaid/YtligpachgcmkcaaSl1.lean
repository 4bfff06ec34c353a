/- Slices of integers: cloned, grown, joined. -/
import Derived.Test.YtligpachgcmkcaaI0
import Derived.Test.YtligpachgcmkcaaEng26
set_option linter.unusedSimpArgs false
set_option linter.unusedVariables false
namespace Go.Proofs.Ytligpachgcmkcaa
open Go.RowKit Go.Shelf
set_option maxRecDepth 100000

theorem irdnone {n : Nat} {xs : List Int} {w : World} (hn : n = xs.length) (h : RdSl w none iV xs) : n = 0 := by
  rcases h with h | ⟨b, o, h, _⟩
  · rw [hn, h]; rfl
  · cases h
theorem iclone_ok (p : Option Addr) (n cap : Nat) (xs : List Int) (hn : n = xs.length) (hbig : n ≤ 1000000000) (w : World) (hp : RdSl w p iV xs) : CallM Try.prog 62 [.slice p n cap] [] w fun v L => ∃ ov, OvOk 1 ov n (iis xs) ∧ ov.isSome = p.isSome ∧ v = slV ov n ∧ L = blkL 3 ov (iis xs) := by
  refine enterK (tb := tb) Try.func62 rfl Try.ntmps62 rfl ?_
  cases p with
  | none =>
    have h0 := irdnone hn hp
    have hx : xs = [] := List.eq_nil_of_length_eq_zero (by omega)
    subst hx
    repeat' (first | (apply R.is1; first | (apply R.isBin; (apply R.pure; exact rfl; (apply Ok1.eqlS; (iterate 5 exact rfl)))) | (apply R.pure; exact rfl; first | (apply Ok1.move; exact rfl) | (apply Ok1.assign; exact rfl))) | apply R.nil | (apply T.is; first | apply T.seq | apply T.region | apply T.ret | (apply T.cond_t; exact rfl)))
    (apply RetOk.t; exact rfl)
    exact ⟨_, by (focus ((repeat' (exact Keep.nil _)); done)), none, by rw [h0]; exact OvOk.start 1, rfl, rfl, rfl⟩
  | some a =>
    repeat' (first | (apply R.is1; first | (apply R.buildSlice0; (iterate 4 exact rfl); intro b0) | (apply R.isBin; (apply R.pure; exact rfl; (apply Ok1.eqlS; (iterate 5 exact rfl)))) | (apply R.isCall; (apply R.appendRd (xs := xs) (v := iV) (sz := 1) (ov := some (b0, 0, [])) (n := 0) (old := []); (iterate 12 exact rfl); exact ⟨rfl, rfl⟩; (focus ((repeat' (exact Ext.one _ _)); done)); exact hn; exact iV_len; exact rfl; (intro w1 hw1; exact hp.chg hw1.chg (Off.nil _)); (focus (rw [fl_i]; exact iis_one xs)); omega; intro ov1 hov1 hsome)) | (apply R.pure; exact rfl; first | (apply Ok1.move; exact rfl) | (apply Ok1.assign; exact rfl))) | apply R.nil | (apply T.is; first | apply T.seq | apply T.region | apply T.skip | apply T.ret | (apply T.cond_f; exact rfl)))
    rw [Nat.zero_add, List.nil_append, fl_i] at hov1
    rw [Nat.zero_add, List.nil_append, fl_i]
    repeat' (fail)
    (apply RetOk.t; exact rfl)
    refine ⟨_, ?_, ov1, hov1, by rw [hsome rfl]; rfl, rfl, rfl⟩
    (focus ((repeat' (first | exact Ext.here _ _ | apply Keep.last)); done))
theorem igrow_ok (n : Nat) (hbig : n ≤ 1000000000) (w : World) : CallM Try.prog 82 [.slice none 0 0, .int .i64 n] [] w fun v L => ∃ ov, OvOk 1 ov 0 [] ∧ v = slV ov 0 ∧ L = blkL 3 ov [] := by
  refine enterK (tb := tb) Try.func82 rfl Try.ntmps82 rfl ?_
  rcases Nat.eq_zero_or_pos n with h0 | h0
  · subst h0
    repeat' (first | (apply R.is1; first | (apply R.isBin; (apply R.pure; exact rfl; first | (apply Ok1.sub64; exact rfl; exact rfl; omega; omega) | (apply Ok1.lss_f; exact rfl; exact rfl; omega) | (apply Ok1.gtr_f; exact rfl; exact rfl; omega))) | (apply R.isCall; (apply R.pure; exact rfl; (apply Ok1.lenS; (iterate 3 exact rfl)))) | (apply R.pure; exact rfl; first | (apply Ok1.capS; (iterate 3 exact rfl)) | (apply Ok1.move; exact rfl) | (apply Ok1.assign; exact rfl))) | apply R.nil | (apply T.is; first | apply T.seq | apply T.region | apply T.skip | apply T.ret | (apply T.cond_f; exact rfl)))
    (apply RetOk.t; exact rfl)
    exact ⟨_, by (focus ((repeat' (exact Keep.nil _)); done)), none, OvOk.start 1, rfl, rfl⟩
  · repeat' (first | (apply R.is1; first | (apply R.isBin; (apply R.pure; exact rfl; first | (apply Ok1.sub64; exact rfl; exact rfl; omega; omega) | (apply Ok1.lss_f; exact rfl; exact rfl; omega) | (apply Ok1.gtr_t; exact rfl; exact rfl; omega))) | (apply R.isCall; first | (apply R.growMk (n := n); (iterate 12 exact rfl); omega; omega; intro b0 j0) | (apply R.pure; exact rfl; (apply Ok1.lenS; (iterate 3 exact rfl)))) | (apply R.pure; exact rfl; first | (apply Ok1.capS; (iterate 3 exact rfl)) | (apply Ok1.move; exact rfl) | (apply Ok1.assign; exact rfl) | (apply Ok1.slice0; (iterate 7 exact rfl); (refine ⟨?_, ?_, ?_⟩ <;> omega); (exact Or.inl rfl)) | (apply Ok1.sliceTo; (iterate 6 exact rfl); omega; omega; omega; (exact Or.inl rfl)))) | apply R.nil | (apply T.is; first | apply T.seq | apply T.region | apply T.skip | apply T.ret | (apply T.cond_t; exact rfl) | (apply T.cond_f; exact rfl)))
    (apply RetOk.t; exact rfl)
    refine ⟨_, ?_, some (b0, n + j0, List.replicate (n + j0) (.int .i64 0)), ⟨rfl, by simp⟩, by simp [slV]; omega, rfl⟩
    simp only [blkL, List.nil_append]
    (focus ((repeat' (first | exact Keep.nil _ | exact Ext.one _ _ | apply Keep.cons)); done))
/-- A part: a slice of integers. -/
structure Pi where
  p : Option Addr
  cap : Nat
  xs : List Int
deriving Inhabited
def Pi.v (x : Pi) : List Value := [.slice x.p x.xs.length x.cap]
theorem Pi.v_len (x : Pi) : x.v.length = 1 := rfl
def icat (ps : List Pi) : List Int := ps.flatMap (·.xs)
theorem icat_nil : icat [] = [] := rfl
theorem icat_snoc {ps : List Pi} {i : Nat} {x : Pi} (h : ps[i]? = some x) : icat (ps.take (i + 1)) = icat (ps.take i) ++ x.xs := by
  unfold icat
  rw [List.take_add_one, h, List.flatMap_append]
  simp
theorem icat_le (ps : List Pi) (i : Nat) : (icat (ps.take i)).length ≤ (icat ps).length := by
  conv => rhs; rw [← List.take_append_drop i ps]
  unfold icat
  rw [List.flatMap_append, List.length_append]
  omega
theorem iconcat_ok (p : Option Addr) (n cap : Nat) (ps : List Pi) (hn : n = ps.length) (hbig : (icat ps).length ≤ 1000000000) (hbig2 : n ≤ 1000000000) (w : World) (hp : RdSl w p Pi.v ps) (hall : ∀ x ∈ ps, RdSl w x.p iV x.xs) :
    CallM Try.prog 57 [.slice p n cap] [] w fun v L => ∃ ov, OvOk 1 ov (icat ps).length (iis (icat ps)) ∧ v = slV ov (icat ps).length ∧ L = blkL 3 ov (iis (icat ps)) := by
  subst hn
  refine enterK (tb := tb) Try.func57 rfl Try.ntmps57 rfl ?_
  repeat' (first | (apply R.is1; first | (apply R.isCall; (apply R.pure; exact rfl; (apply Ok1.lenS; (iterate 3 exact rfl)))) | (apply R.pure; exact rfl; first | (apply Ok1.move; exact rfl) | (apply Ok1.assign; exact rfl))) | apply R.nil | (apply T.is; first | apply T.seq | apply T.region | apply T.block))
  apply T.loopK (α := Nat) (I := fun i => i ≤ ps.length) (σi := fun i => [(0, .slice p ps.length cap), (3, .int .i64 (icat (ps.take i)).length), (9, .slice p ps.length cap), (10, .int .i64 ps.length), (11, .int .i64 i)]) (Li := fun _ => []) (μ := fun i => ps.length - i) (i0 := 0)
  · exact Nat.zero_le _
  · exact ⟨rfl, rfl, rfl, rfl, rfl, trivial⟩
  · (focus ((repeat' (exact Keep.nil _)); done))
  · intro i hi
    have hle := icat_le ps i
    rcases Nat.lt_or_ge i ps.length with hlt | hge
    · obtain ⟨x, hx⟩ : ∃ x, ps[i]? = some x := ⟨_, List.getElem?_eq_getElem (by omega)⟩
      obtain ⟨b, o, hpe, H⟩ := hp.at hx
      replace H := H 1 Pi.v_len
      have hs := icat_snoc hx
      have hl := congrArg List.length hs
      rw [List.length_append] at hl
      have hle2 := icat_le ps (i + 1)
      repeat' (first | (apply R.is1; first | (apply R.isBin; (apply R.pure; exact rfl; first | (apply Ok1.add64; exact rfl; exact rfl; omega; omega) | (apply Ok1.lss_t; exact rfl; exact rfl; omega) | (apply Ok1.lss_f; exact rfl; exact rfl; omega))) | (apply R.isCall; (apply R.pure; exact rfl; (apply Ok1.lenS; (iterate 3 exact rfl)))) | (apply R.pure; exact rfl; first | (apply Ok1.indexAddrP; (iterate 4 exact rfl); exact hpe; exact rfl; omega; omega) | (apply Ok1.load; exact rfl; apply Ld.row0 H; exact rfl; exact List.not_mem_nil; (iterate 3 exact rfl)) | (apply Ok1.move; exact rfl) | (apply Ok1.assign; exact rfl))) | apply R.nil | (apply T.is; first | apply T.seq | apply T.region | apply T.block | apply T.skip | (apply T.cond_t; exact rfl) | (apply T.cond_f; exact rfl)))
      refine ⟨i + 1, by omega, by omega, ⟨rfl, ?_, rfl, rfl, rfl, trivial⟩, by (focus ((repeat' (exact Keep.nil _)); done))⟩
      rw [hl]
      rfl
    · have him : i = ps.length := by omega
      subst him
      rw [List.take_length]
      have hgr := fun w1 => igrow_ok (icat ps).length hbig w1
      repeat' (first | (apply R.is1; first | (apply R.isBin; (apply R.pure; exact rfl; (apply Ok1.lss_f; exact rfl; exact rfl; omega))) | (apply R.isCall; first | (apply R.callE; (iterate 3 exact rfl); exact Ext.none _; intro w1 hw1; exact hgr w1; rintro v Lo ⟨ov0, hov0, rfl, rfl⟩) | (apply R.pure; exact rfl; (apply Ok1.lenS; (iterate 3 exact rfl)))) | (apply R.pure; exact rfl; first | (apply Ok1.move; exact rfl) | (apply Ok1.assign; exact rfl))) | apply R.nil | (apply T.is; first | apply T.seq | apply T.region | apply T.block | apply T.exit | (apply T.cond_f; exact rfl)))
      apply T.loopK (α := Nat × Ov) (I := fun y => y.1 ≤ ps.length ∧ OvOk 1 y.2 (icat (ps.take y.1)).length (iis (icat (ps.take y.1)))) (σi := fun y => [(6, slV y.2 (icat (ps.take y.1)).length), (25, .slice p ps.length cap), (26, .int .i64 ps.length), (27, .int .i64 y.1)]) (Li := fun y => blkL 3 y.2 (iis (icat (ps.take y.1)))) (μ := fun y => ps.length - y.1) (i0 := (0, ov0))
      · exact ⟨Nat.zero_le _, hov0⟩
      · exact ⟨rfl, rfl, rfl, rfl, trivial⟩
      · simp only [List.take_zero, icat_nil]
        change Keep _ (blkL 3 ov0 [])
        (focus ((repeat' (first | exact Ext.here _ _ | apply Keep.last)); done))
      · rintro ⟨i, ov⟩ ⟨hi, hov⟩
        simp only at hi hov ⊢
        rcases Nat.lt_or_ge i ps.length with hlt | hge
        · obtain ⟨x, hx⟩ : ∃ x, ps[i]? = some x := ⟨_, List.getElem?_eq_getElem (by omega)⟩
          obtain ⟨b, o, hpe, H⟩ := hp.at hx
          replace H := H 1 Pi.v_len
          have hs := icat_snoc hx
          have hl := congrArg List.length hs
          rw [List.length_append] at hl
          have hle2 := icat_le ps (i + 1)
          have hrd := hall x (List.mem_of_getElem? hx)
          repeat' (first | (apply R.is1; first | (apply R.isBin; (apply R.pure; exact rfl; first | (apply Ok1.add64; exact rfl; exact rfl; omega; omega) | (apply Ok1.lss_t; exact rfl; exact rfl; omega))) | (apply R.isCall; (apply R.appendRd (xs := x.xs) (v := iV) (sz := 1) (ov := ov) (n := (icat (ps.take i)).length) (old := iis (icat (ps.take i))); (iterate 12 exact rfl); exact hov; (focus ((repeat' (exact Ext.all _)); done)); exact rfl; exact iV_len; exact rfl; (intro w1 hw1; exact hrd.chg hw1.chg (Off.nil _)); (focus (rw [fl_i]; exact iis_one x.xs)); omega; intro ov1 hov1 hsome)) | (apply R.pure; exact rfl; first | (apply Ok1.indexAddrP; (iterate 4 exact rfl); exact hpe; exact rfl; omega; omega) | (apply Ok1.load; exact rfl; apply Ld.row0 H; exact rfl; exact List.not_mem_nil; (iterate 3 exact rfl)) | (apply Ok1.move; exact rfl) | (apply Ok1.assign; exact rfl))) | apply R.nil | (apply T.is; first | apply T.seq | apply T.region | apply T.block | apply T.skip | (apply T.cond_t; exact rfl)))
          rw [fl_i, ← iis_app, ← hs, ← hl] at hov1
          rw [fl_i, ← iis_app, ← hs, ← hl]
          repeat' (fail)
          exact ⟨(i + 1, ov1), ⟨by simp only; omega, hov1⟩, by simp only; omega, ⟨rfl, rfl, rfl, rfl, trivial⟩, by (focus ((repeat' (first | exact Ext.here _ _ | apply Keep.last)); done))⟩
        · have him : i = ps.length := by omega
          subst him
          rw [List.take_length] at hov ⊢
          repeat' (first | (apply R.is1; first | (apply R.isBin; (apply R.pure; exact rfl; (apply Ok1.lss_f; exact rfl; exact rfl; omega))) | (apply R.pure; exact rfl; first | (apply Ok1.move; exact rfl) | (apply Ok1.assign; exact rfl))) | apply R.nil | (apply T.is; first | apply T.seq | apply T.region | apply T.exit | apply T.ret | (apply T.cond_f; exact rfl)))
          (apply RetOk.t; exact rfl)
          exact ⟨_, by (focus ((repeat' (first | exact Ext.all _ | apply Keep.last)); done)), ov, hov, rfl, rfl⟩
end Go.Proofs.Ytligpachgcmkcaa
