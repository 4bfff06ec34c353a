/- Integers in slices. -/
import Derived.Test.YtligpachgcmkcaaEng29
import Derived.Test.YtligpachgcmkcaaTab
import Derived.Test.YtligpachgcmkcaaEng26
set_option linter.unusedSimpArgs false
set_option linter.unusedVariables false
namespace Go.Proofs.Ytligpachgcmkcaa
open Go.RowKit Go.Shelf

def iV (x : Int) : List Value := [.int .i64 x]
theorem iV_len (x : Int) : (iV x).length = 1 := rfl
theorem iV_one (x : Int) : (iV x).all Value.oneCell' = true := rfl
def iis (xs : List Int) : List Value := xs.map fun x => .int .i64 x
theorem iis_len (xs : List Int) : (iis xs).length = xs.length := by simp [iis]
theorem iis_one (xs : List Int) : (iis xs).all Value.oneCell' = true := by simp [iis, Value.oneCell']
theorem iis_app (xs ys : List Int) : iis (xs ++ ys) = iis xs ++ iis ys := by simp [iis]
theorem fl_i (xs : List Int) : fl iV xs = iis xs := by
  unfold fl iis
  induction xs with
  | nil => rfl
  | cons a l ih => simp only [List.map_cons, List.flatten_cons, ih]; rfl
theorem irdown {ov : Ov} {xs : List Int} {e : Nat} (hov : OvOk 1 ov xs.length (iis xs)) {w0 w : World} {S : List Nat} {L : Lst} (hw : Hp w0 S L w) (hin : ∀ x ∈ blkL e ov (iis xs), x ∈ L) : RdSl w (ovp ov) iV xs := by
  rw [← fl_i] at hov hin
  exact RdSl.own' hw hin hov iV_len
/-- A log: nothing, or a slice of one's own. -/
structure Lg where
  ov : Ov
  xs : List Int
def Lg.v (g : Lg) : Value := slV g.ov g.xs.length
def Lg.L (g : Lg) : Lst := blkL 3 g.ov (iis g.xs)
def Lg.ok (g : Lg) : Prop := OvOk 1 g.ov g.xs.length (iis g.xs)
theorem Lg.v_eq {g : Lg} (h : g.ok) : g.v = .slice (ovp g.ov) g.xs.length (ovc g.ov g.xs.length) := slV_eq h
def lg0 : Lg := ⟨none, []⟩
theorem lg0_ok : lg0.ok := ⟨rfl, rfl⟩
theorem Lg.rd {g : Lg} (h : g.ok) {w0 w : World} {S : List Nat} {L : Lst} (hw : Hp w0 S L w) (hin : ∀ x ∈ g.L, x ∈ L) : RdSl w (ovp g.ov) iV g.xs := irdown h hw hin
end Go.Proofs.Ytligpachgcmkcaa
/- Slices of integers: cloned, grown, joined. -/
set_option linter.unusedSimpArgs false
set_option linter.unusedVariables false
namespace Go.Proofs.Ytligpachgcmkcaa
open Go.RowKit Go.Shelf
set_option maxRecDepth 100000

theorem irdnone {n : Nat} {xs : List Int} {w : World} (hn : n = xs.length) (h : RdSl w none iV xs) : n = 0 := by
  rcases h with h | ⟨b, o, h, _⟩
  · rw [hn, h]; rfl
  · cases h
theorem iclone_ok (p : Option Addr) (n cap : Nat) (xs : List Int) (hn : n = xs.length) (hbig : n ≤ 1000000000) (w : World) (hp : RdSl w p iV xs) : CallM Try.prog 62 [.slice p n cap] [] w fun v L => ∃ ov, OvOk 1 ov n (iis xs) ∧ ov.isSome = p.isSome ∧ v = slV ov n ∧ L = blkL 3 ov (iis xs) := by
  refine enterK (tb := tb) Try.func62 rfl Try.ntmps62 rfl ?_
  cases p with
  | none =>
    have h0 := irdnone hn hp
    have hx : xs = [] := List.eq_nil_of_length_eq_zero (by omega)
    subst hx
    repeat' (first | (apply R.is1; first | (apply R.isBin; (apply R.pure; exact rfl; (apply Ok1.eqlS; (iterate 5 exact rfl)))) | (apply R.pure; exact rfl; first | (apply Ok1.move; exact rfl) | (apply Ok1.assign; exact rfl))) | apply R.nil | (apply T.is; first | apply T.seq | apply T.region | apply T.ret | (apply T.cond_t; exact rfl)))
    (apply RetOk.t; exact rfl)
    exact ⟨_, by (focus ((repeat' (exact Keep.nil _)); done)), none, by rw [h0]; exact OvOk.start 1, rfl, rfl, rfl⟩
  | some a =>
    repeat' (first | (apply R.is1; first | (apply R.buildSlice0; (iterate 4 exact rfl); intro b0) | (apply R.isBin; (apply R.pure; exact rfl; (apply Ok1.eqlS; (iterate 5 exact rfl)))) | (apply R.isCall; (apply R.appendRd (xs := xs) (v := iV) (sz := 1) (ov := some (b0, 0, [])) (n := 0) (old := []); (iterate 12 exact rfl); exact ⟨rfl, rfl⟩; (focus ((repeat' (exact Ext.one _ _)); done)); exact hn; exact iV_len; exact rfl; (intro w1 hw1; exact hp.chg hw1.chg (Off.nil _)); (focus (rw [fl_i]; exact iis_one xs)); omega; intro ov1 hov1 hsome)) | (apply R.pure; exact rfl; first | (apply Ok1.move; exact rfl) | (apply Ok1.assign; exact rfl))) | apply R.nil | (apply T.is; first | apply T.seq | apply T.region | apply T.skip | apply T.ret | (apply T.cond_f; exact rfl)))
    rw [Nat.zero_add, List.nil_append, fl_i] at hov1
    rw [Nat.zero_add, List.nil_append, fl_i]
    repeat' (fail)
    (apply RetOk.t; exact rfl)
    refine ⟨_, ?_, ov1, hov1, by rw [hsome rfl]; rfl, rfl, rfl⟩
    (focus ((repeat' (first | exact Ext.here _ _ | apply Keep.last)); done))
theorem igrow_ok (n : Nat) (hbig : n ≤ 1000000000) (w : World) : CallM Try.prog 82 [.slice none 0 0, .int .i64 n] [] w fun v L => ∃ ov, OvOk 1 ov 0 [] ∧ v = slV ov 0 ∧ L = blkL 3 ov [] := by
  refine enterK (tb := tb) Try.func82 rfl Try.ntmps82 rfl ?_
  rcases Nat.eq_zero_or_pos n with h0 | h0
  · subst h0
    repeat' (first | (apply R.is1; first | (apply R.isBin; (apply R.pure; exact rfl; first | (apply Ok1.sub64; exact rfl; exact rfl; omega; omega) | (apply Ok1.lss_f; exact rfl; exact rfl; omega) | (apply Ok1.gtr_f; exact rfl; exact rfl; omega))) | (apply R.isCall; (apply R.pure; exact rfl; (apply Ok1.lenS; (iterate 3 exact rfl)))) | (apply R.pure; exact rfl; first | (apply Ok1.capS; (iterate 3 exact rfl)) | (apply Ok1.move; exact rfl) | (apply Ok1.assign; exact rfl))) | apply R.nil | (apply T.is; first | apply T.seq | apply T.region | apply T.skip | apply T.ret | (apply T.cond_f; exact rfl)))
    (apply RetOk.t; exact rfl)
    exact ⟨_, by (focus ((repeat' (exact Keep.nil _)); done)), none, OvOk.start 1, rfl, rfl⟩
  · repeat' (first | (apply R.is1; first | (apply R.isBin; (apply R.pure; exact rfl; first | (apply Ok1.sub64; exact rfl; exact rfl; omega; omega) | (apply Ok1.lss_f; exact rfl; exact rfl; omega) | (apply Ok1.gtr_t; exact rfl; exact rfl; omega))) | (apply R.isCall; first | (apply R.growMk (n := n); (iterate 12 exact rfl); omega; omega; intro b0 j0) | (apply R.pure; exact rfl; (apply Ok1.lenS; (iterate 3 exact rfl)))) | (apply R.pure; exact rfl; first | (apply Ok1.capS; (iterate 3 exact rfl)) | (apply Ok1.move; exact rfl) | (apply Ok1.assign; exact rfl) | (apply Ok1.slice0; (iterate 7 exact rfl); (refine ⟨?_, ?_, ?_⟩ <;> omega); (exact Or.inl rfl)) | (apply Ok1.sliceTo; (iterate 6 exact rfl); omega; omega; omega; (exact Or.inl rfl)))) | apply R.nil | (apply T.is; first | apply T.seq | apply T.region | apply T.skip | apply T.ret | (apply T.cond_t; exact rfl) | (apply T.cond_f; exact rfl)))
    (apply RetOk.t; exact rfl)
    refine ⟨_, ?_, some (b0, n + j0, List.replicate (n + j0) (.int .i64 0)), ⟨rfl, by simp⟩, by simp [slV]; omega, rfl⟩
    simp only [blkL, List.nil_append]
    (focus ((repeat' (first | exact Keep.nil _ | exact Ext.one _ _ | apply Keep.cons)); done))
/-- A part: a slice of integers. -/
structure Pi where
  p : Option Addr
  cap : Nat
  xs : List Int
deriving Inhabited
def Pi.v (x : Pi) : List Value := [.slice x.p x.xs.length x.cap]
theorem Pi.v_len (x : Pi) : x.v.length = 1 := rfl
def icat (ps : List Pi) : List Int := ps.flatMap (·.xs)
theorem icat_nil : icat [] = [] := rfl
theorem icat_snoc {ps : List Pi} {i : Nat} {x : Pi} (h : ps[i]? = some x) : icat (ps.take (i + 1)) = icat (ps.take i) ++ x.xs := by
  unfold icat
  rw [List.take_add_one, h, List.flatMap_append]
  simp
theorem icat_le (ps : List Pi) (i : Nat) : (icat (ps.take i)).length ≤ (icat ps).length := by
  conv => rhs; rw [← List.take_append_drop i ps]
  unfold icat
  rw [List.flatMap_append, List.length_append]
  omega
theorem iconcat_ok (p : Option Addr) (n cap : Nat) (ps : List Pi) (hn : n = ps.length) (hbig : (icat ps).length ≤ 1000000000) (hbig2 : n ≤ 1000000000) (w : World) (hp : RdSl w p Pi.v ps) (hall : ∀ x ∈ ps, RdSl w x.p iV x.xs) :
    CallM Try.prog 57 [.slice p n cap] [] w fun v L => ∃ ov, OvOk 1 ov (icat ps).length (iis (icat ps)) ∧ v = slV ov (icat ps).length ∧ L = blkL 3 ov (iis (icat ps)) := by
  subst hn
  refine enterK (tb := tb) Try.func57 rfl Try.ntmps57 rfl ?_
  repeat' (first | (apply R.is1; first | (apply R.isCall; (apply R.pure; exact rfl; (apply Ok1.lenS; (iterate 3 exact rfl)))) | (apply R.pure; exact rfl; first | (apply Ok1.move; exact rfl) | (apply Ok1.assign; exact rfl))) | apply R.nil | (apply T.is; first | apply T.seq | apply T.region | apply T.block))
  apply T.loopK (α := Nat) (I := fun i => i ≤ ps.length) (σi := fun i => [(0, .slice p ps.length cap), (3, .int .i64 (icat (ps.take i)).length), (9, .slice p ps.length cap), (10, .int .i64 ps.length), (11, .int .i64 i)]) (Li := fun _ => []) (μ := fun i => ps.length - i) (i0 := 0)
  · exact Nat.zero_le _
  · exact ⟨rfl, rfl, rfl, rfl, rfl, trivial⟩
  · (focus ((repeat' (exact Keep.nil _)); done))
  · intro i hi
    have hle := icat_le ps i
    rcases Nat.lt_or_ge i ps.length with hlt | hge
    · obtain ⟨x, hx⟩ : ∃ x, ps[i]? = some x := ⟨_, List.getElem?_eq_getElem (by omega)⟩
      obtain ⟨b, o, hpe, H⟩ := hp.at hx
      replace H := H 1 Pi.v_len
      have hs := icat_snoc hx
      have hl := congrArg List.length hs
      rw [List.length_append] at hl
      have hle2 := icat_le ps (i + 1)
      repeat' (first | (apply R.is1; first | (apply R.isBin; (apply R.pure; exact rfl; first | (apply Ok1.add64; exact rfl; exact rfl; omega; omega) | (apply Ok1.lss_t; exact rfl; exact rfl; omega) | (apply Ok1.lss_f; exact rfl; exact rfl; omega))) | (apply R.isCall; (apply R.pure; exact rfl; (apply Ok1.lenS; (iterate 3 exact rfl)))) | (apply R.pure; exact rfl; first | (apply Ok1.indexAddrP; (iterate 4 exact rfl); exact hpe; exact rfl; omega; omega) | (apply Ok1.load; exact rfl; apply Ld.row0 H; exact rfl; exact List.not_mem_nil; (iterate 3 exact rfl)) | (apply Ok1.move; exact rfl) | (apply Ok1.assign; exact rfl))) | apply R.nil | (apply T.is; first | apply T.seq | apply T.region | apply T.block | apply T.skip | (apply T.cond_t; exact rfl) | (apply T.cond_f; exact rfl)))
      refine ⟨i + 1, by omega, by omega, ⟨rfl, ?_, rfl, rfl, rfl, trivial⟩, by (focus ((repeat' (exact Keep.nil _)); done))⟩
      rw [hl]
      rfl
    · have him : i = ps.length := by omega
      subst him
      rw [List.take_length]
      have hgr := fun w1 => igrow_ok (icat ps).length hbig w1
      repeat' (first | (apply R.is1; first | (apply R.isBin; (apply R.pure; exact rfl; (apply Ok1.lss_f; exact rfl; exact rfl; omega))) | (apply R.isCall; first | (apply R.callE; (iterate 3 exact rfl); exact Ext.none _; intro w1 hw1; exact hgr w1; rintro v Lo ⟨ov0, hov0, rfl, rfl⟩) | (apply R.pure; exact rfl; (apply Ok1.lenS; (iterate 3 exact rfl)))) | (apply R.pure; exact rfl; first | (apply Ok1.move; exact rfl) | (apply Ok1.assign; exact rfl))) | apply R.nil | (apply T.is; first | apply T.seq | apply T.region | apply T.block | apply T.exit | (apply T.cond_f; exact rfl)))
      apply T.loopK (α := Nat × Ov) (I := fun y => y.1 ≤ ps.length ∧ OvOk 1 y.2 (icat (ps.take y.1)).length (iis (icat (ps.take y.1)))) (σi := fun y => [(6, slV y.2 (icat (ps.take y.1)).length), (25, .slice p ps.length cap), (26, .int .i64 ps.length), (27, .int .i64 y.1)]) (Li := fun y => blkL 3 y.2 (iis (icat (ps.take y.1)))) (μ := fun y => ps.length - y.1) (i0 := (0, ov0))
      · exact ⟨Nat.zero_le _, hov0⟩
      · exact ⟨rfl, rfl, rfl, rfl, trivial⟩
      · simp only [List.take_zero, icat_nil]
        change Keep _ (blkL 3 ov0 [])
        (focus ((repeat' (first | exact Ext.here _ _ | apply Keep.last)); done))
      · rintro ⟨i, ov⟩ ⟨hi, hov⟩
        simp only at hi hov ⊢
        rcases Nat.lt_or_ge i ps.length with hlt | hge
        · obtain ⟨x, hx⟩ : ∃ x, ps[i]? = some x := ⟨_, List.getElem?_eq_getElem (by omega)⟩
          obtain ⟨b, o, hpe, H⟩ := hp.at hx
          replace H := H 1 Pi.v_len
          have hs := icat_snoc hx
          have hl := congrArg List.length hs
          rw [List.length_append] at hl
          have hle2 := icat_le ps (i + 1)
          have hrd := hall x (List.mem_of_getElem? hx)
          repeat' (first | (apply R.is1; first | (apply R.isBin; (apply R.pure; exact rfl; first | (apply Ok1.add64; exact rfl; exact rfl; omega; omega) | (apply Ok1.lss_t; exact rfl; exact rfl; omega))) | (apply R.isCall; (apply R.appendRd (xs := x.xs) (v := iV) (sz := 1) (ov := ov) (n := (icat (ps.take i)).length) (old := iis (icat (ps.take i))); (iterate 12 exact rfl); exact hov; (focus ((repeat' (exact Ext.all _)); done)); exact rfl; exact iV_len; exact rfl; (intro w1 hw1; exact hrd.chg hw1.chg (Off.nil _)); (focus (rw [fl_i]; exact iis_one x.xs)); omega; intro ov1 hov1 hsome)) | (apply R.pure; exact rfl; first | (apply Ok1.indexAddrP; (iterate 4 exact rfl); exact hpe; exact rfl; omega; omega) | (apply Ok1.load; exact rfl; apply Ld.row0 H; exact rfl; exact List.not_mem_nil; (iterate 3 exact rfl)) | (apply Ok1.move; exact rfl) | (apply Ok1.assign; exact rfl))) | apply R.nil | (apply T.is; first | apply T.seq | apply T.region | apply T.block | apply T.skip | (apply T.cond_t; exact rfl)))
          rw [fl_i, ← iis_app, ← hs, ← hl] at hov1
          rw [fl_i, ← iis_app, ← hs, ← hl]
          repeat' (fail)
          exact ⟨(i + 1, ov1), ⟨by simp only; omega, hov1⟩, by simp only; omega, ⟨rfl, rfl, rfl, rfl, trivial⟩, by (focus ((repeat' (first | exact Ext.here _ _ | apply Keep.last)); done))⟩
        · have him : i = ps.length := by omega
          subst him
          rw [List.take_length] at hov ⊢
          repeat' (first | (apply R.is1; first | (apply R.isBin; (apply R.pure; exact rfl; (apply Ok1.lss_f; exact rfl; exact rfl; omega))) | (apply R.pure; exact rfl; first | (apply Ok1.move; exact rfl) | (apply Ok1.assign; exact rfl))) | apply R.nil | (apply T.is; first | apply T.seq | apply T.region | apply T.exit | apply T.ret | (apply T.cond_f; exact rfl)))
          (apply RetOk.t; exact rfl)
          exact ⟨_, by (focus ((repeat' (first | exact Ext.all _ | apply Keep.last)); done)), ov, hov, rfl, rfl⟩
end Go.Proofs.Ytligpachgcmkcaa
/- Slices of integers: are all as they must be, is one among them, are two alike. -/
set_option linter.unusedSimpArgs false
set_option linter.unusedVariables false
namespace Go.Proofs.Ytligpachgcmkcaa
open Go.RowKit Go.Shelf
set_option maxRecDepth 100000

theorem idxF_ok (p : Option Addr) (n cap : Nat) (xs : List Int) (hn : n = xs.length) (hbig : n ≤ 1000000000) (g : Nat) (hgc : tb.fns.contains g = true) (bad : Int → Bool) (hg : ∀ x, CallP Try.prog g [.int .i64 x] (.bool (bad x))) (w : World) (hp : RdSl w p iV xs) :
    CallW Try.prog 112 [.slice p n cap, .func (.func g) #[] #[]] w fun v _ => ∃ r, v = .int .i64 r ∧ (0 ≤ r ↔ ∃ x ∈ xs, bad x = true) := by
  subst hn
  refine enterW (tb := tb) Try.func112 rfl Try.ntmps112 rfl ?_
  repeat' (first | (apply R.is1; first | (apply R.isCall; (apply R.pure; exact rfl; (apply Ok1.lenS; (iterate 3 exact rfl)))) | (apply R.pure; exact rfl; first | (apply Ok1.move; exact rfl) | (apply Ok1.assign; exact rfl))) | apply R.nil | (apply T.is; first | apply T.seq | apply T.region | apply T.block))
  apply T.loopK (α := Nat) (I := fun i => i ≤ xs.length ∧ ∀ x ∈ xs.take i, bad x = false) (σi := fun i => [(0, .slice p xs.length cap), (1, .func (.func g) #[] #[]), (7, .int .i64 xs.length), (8, .int .i64 i)]) (Li := fun _ => []) (μ := fun i => xs.length - i) (i0 := 0)
  · exact ⟨Nat.zero_le _, by simp⟩
  · exact ⟨rfl, rfl, rfl, rfl, trivial⟩
  · (focus ((repeat' (exact Keep.nil _)); done))
  · intro i ⟨hi, hall⟩
    rcases Nat.lt_or_ge i xs.length with hlt | hge
    · obtain ⟨x, hx⟩ : ∃ x, xs[i]? = some x := ⟨_, List.getElem?_eq_getElem (by omega)⟩
      obtain ⟨b, o, hpe, H⟩ := hp.at hx
      replace H := H 1 iV_len
      have hgx := hg x
      cases hb : bad x with
      | true =>
        rw [hb] at hgx
        repeat' (first | (apply R.is1; first | (apply R.isBin; (apply R.pure; exact rfl; (apply Ok1.lss_t; exact rfl; exact rfl; omega))) | (apply R.isCall; (apply R.callFP (fa := []) (cb := []); exact rfl; exact hgc; exact rfl; exact rfl; exact hgx)) | (apply R.pure; exact rfl; first | (apply Ok1.indexAddrP; (iterate 4 exact rfl); exact hpe; exact rfl; omega; omega) | (apply Ok1.load; exact rfl; apply Ld.row0 H; exact rfl; exact List.not_mem_nil; (iterate 3 exact rfl)) | (apply Ok1.move; exact rfl) | (apply Ok1.assign; exact rfl))) | apply R.nil | (apply T.is; first | apply T.seq | apply T.region | apply T.block | apply T.skip | apply T.ret | (apply T.cond_t; exact rfl)))
        (apply RetOk.t; exact rfl)
        exact ⟨_, rfl, ⟨fun _ => ⟨x, List.mem_of_getElem? hx, hb⟩, fun _ => by omega⟩⟩
      | false =>
        rw [hb] at hgx
        repeat' (first | (apply R.is1; first | (apply R.isBin; (apply R.pure; exact rfl; first | (apply Ok1.add64; exact rfl; exact rfl; omega; omega) | (apply Ok1.lss_t; exact rfl; exact rfl; omega))) | (apply R.isCall; (apply R.callFP (fa := []) (cb := []); exact rfl; exact hgc; exact rfl; exact rfl; exact hgx)) | (apply R.pure; exact rfl; first | (apply Ok1.indexAddrP; (iterate 4 exact rfl); exact hpe; exact rfl; omega; omega) | (apply Ok1.load; exact rfl; apply Ld.row0 H; exact rfl; exact List.not_mem_nil; (iterate 3 exact rfl)) | (apply Ok1.move; exact rfl) | (apply Ok1.assign; exact rfl))) | apply R.nil | (apply T.is; first | apply T.seq | apply T.region | apply T.block | apply T.skip | (apply T.cond_t; exact rfl) | (apply T.cond_f; exact rfl)))
        refine ⟨i + 1, ⟨by omega, ?_⟩, by omega, ⟨rfl, rfl, rfl, rfl, trivial⟩, by (focus ((repeat' (exact Keep.nil _)); done))⟩
        intro y hy
        rw [List.take_add_one, hx, List.mem_append] at hy
        rcases hy with hy | hy
        · exact hall y hy
        · simp only [Option.toList_some, List.mem_singleton] at hy
          rw [hy]; exact hb
    · have him : i = xs.length := by omega
      subst him
      rw [List.take_length] at hall
      repeat' (first | (apply R.is1; first | (apply R.isBin; (apply R.pure; exact rfl; (apply Ok1.lss_f; exact rfl; exact rfl; omega))) | (apply R.pure; exact rfl; (apply Ok1.assign; exact rfl))) | apply R.nil | (apply T.is; first | apply T.seq | apply T.region | apply T.exit | apply T.ret | (apply T.cond_f; exact rfl)))
      (apply RetOk.t; exact rfl)
      refine ⟨_, rfl, ⟨fun h => absurd h (by decide), ?_⟩⟩
      rintro ⟨x, hx, hb⟩
      rw [hall x hx] at hb
      cases hb
theorem conF_ok (p : Option Addr) (n cap : Nat) (xs : List Int) (hn : n = xs.length) (hbig : n ≤ 1000000000) (g : Nat) (hgc : tb.fns.contains g = true) (bad : Int → Bool) (hg : ∀ x, CallP Try.prog g [.int .i64 x] (.bool (bad x))) (w : World) (hp : RdSl w p iV xs) :
    CallW Try.prog 80 [.slice p n cap, .func (.func g) #[] #[]] w fun v _ => v = .bool (xs.any bad) := by
  have h := fun w1 (hc : Chg [] w w1) => idxF_ok p n cap xs hn hbig g hgc bad hg w1 (hp.chg' hc (fun _ => Off.nil _))
  refine enterW (tb := tb) Try.func80 rfl Try.ntmps80 rfl ?_
  repeat' (first | (apply R.is1; first | (apply R.isBin; (apply R.geq rfl rfl rfl <;> intro)) | (apply R.isCall; (apply R.callW (vs := [.slice p n cap, .func (.func g) #[] #[]]); (iterate 3 exact rfl); intro w1 hw1; exact h w1 hw1.chg; rintro v ⟨r, rfl, hr⟩)) | (apply R.pure; exact rfl; first | (apply Ok1.move; exact rfl) | (apply Ok1.assign; exact rfl))) | apply R.nil | (apply T.is; first | apply T.seq | apply T.region | apply T.ret))
  all_goals have hq : 0 ≤ r ↔ xs.any bad = true := hr.trans List.any_eq_true.symm
  all_goals (apply RetOk.t; exact rfl)
  all_goals cases hqq : xs.any bad with
    | true => first | rfl | (have := hq.2 hqq; omega)
    | false => first | rfl | (have h5 := hq.1 ‹0 ≤ r›; rw [hqq] at h5; cases h5)
/-- Serials are as they must be. -/
def SR (xs : List Int) : Prop := ∀ x ∈ xs, 1 ≤ x ∧ x ≤ 65535
instance (xs : List Int) : Decidable (SR xs) := by unfold SR; infer_instance
theorem serials1_ok (x : Int) : CallP Try.prog 81 [.int .i64 x] (.bool (decide (x < 1 ∨ 65535 < x))) := by
  refine enterP (tb := tb) Try.func81 rfl Try.ntmps81 rfl fun w => ?_
  by_cases h1 : x < 1
  · repeat' (first | (apply R.is1; first | (apply R.isBin; (apply R.pure; exact rfl; (apply Ok1.lss_t; exact rfl; exact rfl; omega))) | (apply R.pure; exact rfl; first | (apply Ok1.move; exact rfl) | (apply Ok1.assign; exact rfl) | (apply Ok1.pick_t; exact rfl; exact rfl))) | (apply R.isG; (apply R.guard_not; (iterate 3 exact rfl))) | apply R.nil | (apply T.is; first | apply T.seq | apply T.region | apply T.ret))
    (apply RetOk.t; exact rfl)
    rw [decide_eq_true (.inl h1)]
  · by_cases h2 : 65535 < x
    · repeat' (first | (apply R.is1; first | (apply R.isBin; (apply R.pure; exact rfl; first | (apply Ok1.lss_f; exact rfl; exact rfl; omega) | (apply Ok1.gtr_t; exact rfl; exact rfl; omega))) | (apply R.pure; exact rfl; first | (apply Ok1.move; exact rfl) | (apply Ok1.assign; exact rfl) | (apply Ok1.pick_f; exact rfl; exact rfl))) | (apply R.isG; (apply R.guard_run; exact rfl; exact rfl)) | apply R.nil | (apply T.is; first | apply T.seq | apply T.region | apply T.ret))
      (apply RetOk.t; exact rfl)
      rw [decide_eq_true (.inr h2)]
    · repeat' (first | (apply R.is1; first | (apply R.isBin; (apply R.pure; exact rfl; first | (apply Ok1.lss_f; exact rfl; exact rfl; omega) | (apply Ok1.gtr_f; exact rfl; exact rfl; omega))) | (apply R.pure; exact rfl; first | (apply Ok1.move; exact rfl) | (apply Ok1.assign; exact rfl) | (apply Ok1.pick_f; exact rfl; exact rfl))) | (apply R.isG; (apply R.guard_run; exact rfl; exact rfl)) | apply R.nil | (apply T.is; first | apply T.seq | apply T.region | apply T.ret))
      (apply RetOk.t; exact rfl)
      rw [decide_eq_false (by omega)]
theorem serials_ok (p : Option Addr) (n cap : Nat) (xs : List Int) (hn : n = xs.length) (hbig : n ≤ 1000000000) (w : World) (hp : RdSl w p iV xs) :
    CallW Try.prog 56 [.slice p n cap] w fun v _ => v = .bool (decide (SR xs)) := by
  have h := fun w1 (hc : Chg [] w w1) => conF_ok p n cap xs hn hbig 81 rfl _ serials1_ok w1 (hp.chg' hc (fun _ => Off.nil _))
  have he : (xs.any fun x => decide (x < 1 ∨ 65535 < x)) = !decide (SR xs) := by
    by_cases hs : SR xs
    · rw [decide_eq_true hs]
      cases h4 : xs.any fun x => decide (x < 1 ∨ 65535 < x) with
      | false => rfl
      | true =>
        obtain ⟨x, hx, hb⟩ := List.any_eq_true.1 h4
        have := hs x hx
        have := of_decide_eq_true hb
        omega
    · rw [decide_eq_false hs]
      cases h4 : xs.any fun x => decide (x < 1 ∨ 65535 < x) with
      | true => rfl
      | false =>
        refine absurd (fun x hx => ?_) hs
        have := List.any_eq_false.1 h4 x hx
        simp only [decide_eq_true_eq] at this
        omega
  rw [he] at h
  generalize decide (SR xs) = q at *
  refine enterW (tb := tb) Try.func56 rfl Try.ntmps56 rfl ?_
  cases q
  · repeat' (first | (apply R.is1; first | (apply R.isCall; (apply R.callV (vs := [.slice p n cap, .func (.func 81) #[] #[]]); (iterate 3 exact rfl); intro w1 hw1; exact h w1 hw1.chg)) | (apply R.pure; exact rfl; first | (apply Ok1.move; exact rfl) | (apply Ok1.assign; exact rfl) | (apply Ok1.not_t; exact rfl))) | apply R.nil | (apply T.is; first | apply T.seq | apply T.region | apply T.ret))
    (apply RetOk.t; exact rfl)
    rfl
  · repeat' (first | (apply R.is1; first | (apply R.isCall; (apply R.callV (vs := [.slice p n cap, .func (.func 81) #[] #[]]); (iterate 3 exact rfl); intro w1 hw1; exact h w1 hw1.chg)) | (apply R.pure; exact rfl; first | (apply Ok1.move; exact rfl) | (apply Ok1.assign; exact rfl) | (apply Ok1.not_f; exact rfl))) | apply R.nil | (apply T.is; first | apply T.seq | apply T.region | apply T.ret))
    (apply RetOk.t; exact rfl)
    rfl
end Go.Proofs.Ytligpachgcmkcaa
/- Slices of integers: is one among them, are two alike. -/
set_option linter.unusedSimpArgs false
set_option linter.unusedVariables false
namespace Go.Proofs.Ytligpachgcmkcaa
open Go.RowKit Go.Shelf
set_option maxRecDepth 100000

theorem index_ok (p : Option Addr) (n cap : Nat) (xs : List Int) (hn : n = xs.length) (hbig : n ≤ 1000000000) (y : Int) (w : World) (hp : RdSl w p iV xs) :
    CallW Try.prog 86 [.slice p n cap, .int .i64 y] w fun v _ => ∃ r, v = .int .i64 r ∧ (0 ≤ r ↔ y ∈ xs) := by
  subst hn
  refine enterW (tb := tb) Try.func86 rfl Try.ntmps86 rfl ?_
  repeat' (first | (apply R.is1; first | (apply R.isCall; (apply R.pure; exact rfl; (apply Ok1.lenS; (iterate 3 exact rfl)))) | (apply R.pure; exact rfl; first | (apply Ok1.move; exact rfl) | (apply Ok1.assign; exact rfl))) | apply R.nil | (apply T.is; first | apply T.seq | apply T.region | apply T.block))
  apply T.loopK (α := Nat) (I := fun i => i ≤ xs.length ∧ ∀ x ∈ xs.take i, x ≠ y) (σi := fun i => [(0, .slice p xs.length cap), (1, .int .i64 y), (7, .int .i64 xs.length), (8, .int .i64 i)]) (Li := fun _ => []) (μ := fun i => xs.length - i) (i0 := 0)
  · exact ⟨Nat.zero_le _, by simp⟩
  · exact ⟨rfl, rfl, rfl, rfl, trivial⟩
  · (focus ((repeat' (exact Keep.nil _)); done))
  · intro i ⟨hi, hall⟩
    rcases Nat.lt_or_ge i xs.length with hlt | hge
    · obtain ⟨x, hx⟩ : ∃ x, xs[i]? = some x := ⟨_, List.getElem?_eq_getElem (by omega)⟩
      obtain ⟨b, o, hpe, H⟩ := hp.at hx
      replace H := H 1 iV_len
      by_cases hb : y = x
      · repeat' (first | (apply R.is1; first | (apply R.isBin; (apply R.pure; exact rfl; first | (apply Ok1.lss_t; exact rfl; exact rfl; omega) | (apply Ok1.eql_t; exact rfl; exact rfl; omega))) | (apply R.pure; exact rfl; first | (apply Ok1.indexAddrP; (iterate 4 exact rfl); exact hpe; exact rfl; omega; omega) | (apply Ok1.load; exact rfl; apply Ld.row0 H; exact rfl; exact List.not_mem_nil; (iterate 3 exact rfl)) | (apply Ok1.move; exact rfl) | (apply Ok1.assign; exact rfl))) | apply R.nil | (apply T.is; first | apply T.seq | apply T.region | apply T.block | apply T.skip | apply T.ret | (apply T.cond_t; exact rfl)))
        (apply RetOk.t; exact rfl)
        exact ⟨_, rfl, ⟨fun _ => hb ▸ List.mem_of_getElem? hx, fun _ => by omega⟩⟩
      · repeat' (first | (apply R.is1; first | (apply R.isBin; (apply R.pure; exact rfl; first | (apply Ok1.add64; exact rfl; exact rfl; omega; omega) | (apply Ok1.lss_t; exact rfl; exact rfl; omega) | (apply Ok1.eql_f; exact rfl; exact rfl; omega))) | (apply R.pure; exact rfl; first | (apply Ok1.indexAddrP; (iterate 4 exact rfl); exact hpe; exact rfl; omega; omega) | (apply Ok1.load; exact rfl; apply Ld.row0 H; exact rfl; exact List.not_mem_nil; (iterate 3 exact rfl)) | (apply Ok1.move; exact rfl) | (apply Ok1.assign; exact rfl))) | apply R.nil | (apply T.is; first | apply T.seq | apply T.region | apply T.block | apply T.skip | (apply T.cond_t; exact rfl) | (apply T.cond_f; exact rfl)))
        refine ⟨i + 1, ⟨by omega, ?_⟩, by omega, ⟨rfl, rfl, rfl, rfl, trivial⟩, by (focus ((repeat' (exact Keep.nil _)); done))⟩
        intro z hz
        rw [List.take_add_one, hx, List.mem_append] at hz
        rcases hz with hz | hz
        · exact hall z hz
        · simp only [Option.toList_some, List.mem_singleton] at hz
          rw [hz]; exact fun e => hb e.symm
    · have him : i = xs.length := by omega
      subst him
      rw [List.take_length] at hall
      repeat' (first | (apply R.is1; first | (apply R.isBin; (apply R.pure; exact rfl; (apply Ok1.lss_f; exact rfl; exact rfl; omega))) | (apply R.pure; exact rfl; (apply Ok1.assign; exact rfl))) | apply R.nil | (apply T.is; first | apply T.seq | apply T.region | apply T.exit | apply T.ret | (apply T.cond_f; exact rfl)))
      (apply RetOk.t; exact rfl)
      exact ⟨_, rfl, ⟨fun h => absurd h (by decide), fun h => absurd rfl (hall y h)⟩⟩
theorem contains_ok (p : Option Addr) (n cap : Nat) (xs : List Int) (hn : n = xs.length) (hbig : n ≤ 1000000000) (y : Int) (w : World) (hp : RdSl w p iV xs) :
    CallW Try.prog 61 [.slice p n cap, .int .i64 y] w fun v _ => v = .bool (decide (y ∈ xs)) := by
  have h := fun w1 (hc : Chg [] w w1) => index_ok p n cap xs hn hbig y w1 (hp.chg' hc (fun _ => Off.nil _))
  refine enterW (tb := tb) Try.func61 rfl Try.ntmps61 rfl ?_
  repeat' (first | (apply R.is1; first | (apply R.isBin; (apply R.geq rfl rfl rfl <;> intro)) | (apply R.isCall; (apply R.callW (vs := [.slice p n cap, .int .i64 y]); (iterate 3 exact rfl); intro w1 hw1; exact h w1 hw1.chg; rintro v ⟨r, rfl, hr⟩)) | (apply R.pure; exact rfl; first | (apply Ok1.move; exact rfl) | (apply Ok1.assign; exact rfl))) | apply R.nil | (apply T.is; first | apply T.seq | apply T.region | apply T.ret))
  all_goals have hq : 0 ≤ r ↔ decide (y ∈ xs) = true := hr.trans decide_eq_true_iff.symm
  all_goals (apply RetOk.t; exact rfl)
  all_goals cases hqq : decide (y ∈ xs) with
    | true => first | rfl | (have := hq.2 hqq; omega)
    | false => first | rfl | (have h5 := hq.1 ‹0 ≤ r›; rw [hqq] at h5; cases h5)
theorem ieqs_ok (p1 p2 : Option Addr) (n1 n2 c1 c2 : Nat) (xs ys : List Int) (hn1 : n1 = xs.length) (hn2 : n2 = ys.length) (hbig : n1 ≤ 1000000000) (w : World) (h1 : RdSl w p1 iV xs) (h2 : RdSl w p2 iV ys) : CallW Try.prog 85 [.slice p1 n1 c1, .slice p2 n2 c2] w fun v _ => v = .bool (decide (xs = ys)) := by
  subst hn1 hn2
  refine enterW (tb := tb) Try.func85 rfl Try.ntmps85 rfl ?_
  by_cases hne : xs.length = ys.length
  · repeat' (first | (apply R.is1; first | (apply R.isBin; (apply R.pure; exact rfl; (apply Ok1.neq_f; exact rfl; exact rfl; omega))) | (apply R.isCall; (apply R.pure; exact rfl; (apply Ok1.lenS; (iterate 3 exact rfl)))) | (apply R.pure; exact rfl; first | (apply Ok1.move; exact rfl) | (apply Ok1.assign; exact rfl))) | apply R.nil | (apply T.is; first | apply T.seq | apply T.region | apply T.block | apply T.skip | (apply T.cond_f; exact rfl)))
    apply T.loopK (α := Nat) (I := fun i => i ≤ xs.length ∧ xs.take i = ys.take i) (σi := fun i => [(0, .slice p1 xs.length c1), (1, .slice p2 ys.length c2), (12, .int .i64 xs.length), (13, .int .i64 i)]) (Li := fun _ => []) (μ := fun i => xs.length - i) (i0 := 0)
    · exact ⟨Nat.zero_le _, rfl⟩
    · exact ⟨rfl, rfl, rfl, rfl, trivial⟩
    · (focus ((repeat' (exact Keep.nil _)); done))
    · intro i ⟨hi, htk⟩
      rcases Nat.lt_or_ge i xs.length with hlt | hge
      · obtain ⟨x, hx⟩ : ∃ x, xs[i]? = some x := ⟨_, List.getElem?_eq_getElem (by omega)⟩
        obtain ⟨y, hy⟩ : ∃ y, ys[i]? = some y := ⟨_, List.getElem?_eq_getElem (by omega)⟩
        obtain ⟨b1, o1, hpe1, H1⟩ := h1.at hx
        obtain ⟨b2, o2, hpe2, H2⟩ := h2.at hy
        replace H1 := H1 1 iV_len
        replace H2 := H2 1 iV_len
        by_cases hxy : x = y
        · repeat' (first | (apply R.is1; first | (apply R.isBin; (apply R.pure; exact rfl; first | (apply Ok1.add64; exact rfl; exact rfl; omega; omega) | (apply Ok1.lss_t; exact rfl; exact rfl; omega))) | (apply R.pure; exact rfl; first | (apply Ok1.move; exact rfl) | (apply Ok1.assign; exact rfl))) | apply R.nil | (apply T.is; first | (apply T.drawC (id := 6) [] (by decide); ((apply A.take 0; exact rfl; exact rfl; kernel_rfl; kernel_rfl; kernel_rfl; (apply Ok1.move; exact rfl)) <;> (apply A.take 1; exact rfl; exact rfl; kernel_rfl; kernel_rfl; kernel_rfl; (apply Ok1.move; exact rfl)) <;> (apply A.take 2; exact rfl; exact rfl; kernel_rfl; kernel_rfl; kernel_rfl; (apply Ok1.indexAddrP; (iterate 4 exact rfl); (exact hpe1); exact rfl; omega; omega)) <;> (apply A.take 3; exact rfl; exact rfl; kernel_rfl; kernel_rfl; kernel_rfl; (apply Ok1.load; exact rfl; (apply Ld.row0 H1; exact rfl; exact List.not_mem_nil; (iterate 3 exact rfl)))) <;> (apply A.take 4; exact rfl; exact rfl; kernel_rfl; kernel_rfl; kernel_rfl; (apply Ok1.move; exact rfl)) <;> (apply A.take 5; exact rfl; exact rfl; kernel_rfl; kernel_rfl; kernel_rfl; (apply Ok1.move; exact rfl)) <;> (apply A.take 6; exact rfl; exact rfl; kernel_rfl; kernel_rfl; kernel_rfl; (apply Ok1.indexAddrP; (iterate 4 exact rfl); (exact hpe2); exact rfl; omega; omega)) <;> (apply A.take 7; exact rfl; exact rfl; kernel_rfl; kernel_rfl; kernel_rfl; (apply Ok1.load; exact rfl; (apply Ld.row0 H2; exact rfl; exact List.not_mem_nil; (iterate 3 exact rfl)))) <;> ((apply A.take 8; exact rfl; exact rfl; kernel_rfl; kernel_rfl; kernel_rfl; (apply Ok1.neq_f; exact rfl; exact rfl; omega))) <;> (apply A.done; kernel_rfl))) | apply T.seq | apply T.region | apply T.block | apply T.skip | (apply T.cond_t; exact rfl) | (apply T.cond_f; exact rfl)))
          refine ⟨i + 1, ⟨by omega, ?_⟩, by omega, ⟨rfl, rfl, rfl, rfl, trivial⟩, by (focus ((repeat' (exact Keep.nil _)); done))⟩
          rw [List.take_add_one, List.take_add_one, htk, hx, hy, hxy]
        · repeat' (first | (apply R.is1; first | (apply R.isBin; (apply R.pure; exact rfl; (apply Ok1.lss_t; exact rfl; exact rfl; omega))) | (apply R.pure; exact rfl; first | (apply Ok1.move; exact rfl) | (apply Ok1.assign; exact rfl))) | apply R.nil | (apply T.is; first | (apply T.drawC (id := 6) [] (by decide); ((apply A.take 0; exact rfl; exact rfl; kernel_rfl; kernel_rfl; kernel_rfl; (apply Ok1.move; exact rfl)) <;> (apply A.take 1; exact rfl; exact rfl; kernel_rfl; kernel_rfl; kernel_rfl; (apply Ok1.move; exact rfl)) <;> (apply A.take 2; exact rfl; exact rfl; kernel_rfl; kernel_rfl; kernel_rfl; (apply Ok1.indexAddrP; (iterate 4 exact rfl); (exact hpe1); exact rfl; omega; omega)) <;> (apply A.take 3; exact rfl; exact rfl; kernel_rfl; kernel_rfl; kernel_rfl; (apply Ok1.load; exact rfl; (apply Ld.row0 H1; exact rfl; exact List.not_mem_nil; (iterate 3 exact rfl)))) <;> (apply A.take 4; exact rfl; exact rfl; kernel_rfl; kernel_rfl; kernel_rfl; (apply Ok1.move; exact rfl)) <;> (apply A.take 5; exact rfl; exact rfl; kernel_rfl; kernel_rfl; kernel_rfl; (apply Ok1.move; exact rfl)) <;> (apply A.take 6; exact rfl; exact rfl; kernel_rfl; kernel_rfl; kernel_rfl; (apply Ok1.indexAddrP; (iterate 4 exact rfl); (exact hpe2); exact rfl; omega; omega)) <;> (apply A.take 7; exact rfl; exact rfl; kernel_rfl; kernel_rfl; kernel_rfl; (apply Ok1.load; exact rfl; (apply Ld.row0 H2; exact rfl; exact List.not_mem_nil; (iterate 3 exact rfl)))) <;> ((apply A.take 8; exact rfl; exact rfl; kernel_rfl; kernel_rfl; kernel_rfl; (apply Ok1.neq_t; exact rfl; exact rfl; omega))) <;> (apply A.done; kernel_rfl))) | apply T.seq | apply T.region | apply T.block | apply T.skip | apply T.ret | (apply T.cond_t; exact rfl)))
          all_goals (apply RetOk.t; exact rfl)
          all_goals rw [decide_eq_false]
          intro e
          rw [e, hy] at hx
          cases hx
          exact hxy rfl
      · repeat' (first | (apply R.is1; first | (apply R.isBin; (apply R.pure; exact rfl; (apply Ok1.lss_f; exact rfl; exact rfl; omega))) | (apply R.pure; exact rfl; (apply Ok1.assign; exact rfl))) | apply R.nil | (apply T.is; first | apply T.seq | apply T.region | apply T.exit | apply T.ret | (apply T.cond_f; exact rfl)))
        (apply RetOk.t; exact rfl)
        rw [List.take_of_length_le hge, List.take_of_length_le (by omega)] at htk
        rw [decide_eq_true htk]
  · repeat' (first | (apply R.is1; first | (apply R.isBin; (apply R.pure; exact rfl; (apply Ok1.neq_t; exact rfl; exact rfl; omega))) | (apply R.isCall; (apply R.pure; exact rfl; (apply Ok1.lenS; (iterate 3 exact rfl)))) | (apply R.pure; exact rfl; first | (apply Ok1.move; exact rfl) | (apply Ok1.assign; exact rfl))) | apply R.nil | (apply T.is; first | apply T.seq | apply T.region | apply T.ret | (apply T.cond_t; exact rfl)))
    all_goals (apply RetOk.t; exact rfl)
    all_goals rw [decide_eq_false]
    exact fun e => hne (by rw [e])
end Go.Proofs.Ytligpachgcmkcaa
