/- The digest: a running one is told bytes. -/
import Derived.Test.YtligpachgcmkcaaDg5
import Derived.Test.YtligpachgcmkcaaS0
set_option linter.unusedSimpArgs false
set_option linter.unusedVariables false
namespace Go.Proofs.Ytligpachgcmkcaa
open Go.RowKit Go.Shelf
set_option maxRecDepth 100000

/-- A running digest: on, its words; what is left of it lies in a slice of one's own, from k on. -/
structure RS where
  on : Bool
  s : H8
  ov : Ov
  xs : List Int
  p : Option Addr
  cap : Nat
  k : Nat
  lf : List Int
  n : Nat
def rnC (st : RS) : List Value := [.bool st.on, .slice st.p st.lf.length st.cap, .int .i64 st.n]
def RL (r : Nat) (st : RS) : Lst := (r, .cells ⟨st.s.v ++ rnC st⟩ 115 (0, 0)) :: blkL 5 st.ov (u8s st.xs)
structure RuI (st : RS) (b : List Int) : Prop where
  ov : OvOk 1 st.ov st.xs.length (u8s st.xs)
  sfx : Sfx (ovp st.ov) st.p st.xs.length st.k
  lf : st.lf = st.xs.drop st.k
  cap : st.lf.length ≤ st.cap
  n : st.n = b.length
  left : st.lf = leftI b
  byt : Byt b
  words : st.on = true → st.s = wordsI b
  off : st.on = false → b = []
theorem CallM.imp {P : Program} {f : FuncId} {vs : List Value} {L : Lst} {w : World} {R R' : Value → Lst → Prop} (h : CallM P f vs L w R) (hr : ∀ v L, R v L → R' v L) : CallM P f vs L w R' :=
  ⟨fun hw => (h.run hw).mono fun e w' ⟨v, L', h1, h2, h3⟩ => ⟨v, L', h1, hr _ _ h2, h3⟩⟩
theorem all_own (r : Nat) (s : H8) (rest : List Value) (e e2 : TypeId) {ov : Ov} (b : List Int) {n : Nat} (hov : OvOk 1 ov n (u8s b)) (hbig : n ≤ 1073741824) (hb : Byt b) {w0 w : World} {S : List Nat} {L Lr : Lst} (hw : Hp w0 S L w) (he : Ext L [(r, .cells ⟨s.v ++ rest⟩ e (0, 0))] Lr) (hin : ∀ x ∈ blkL e2 ov (u8s b), x ∈ Lr) :
    CallM Try.prog 88 [.pointer (some ⟨r, 0, none⟩), slV ov n] [(r, .cells ⟨s.v ++ rest⟩ e (0, 0))] w fun v L => ∃ s2 p' cap', s2 = allI kI (n / 64) b s ∧ v = .slice p' (n - 64 * (n / 64)) cap' ∧ n - 64 * (n / 64) ≤ cap' ∧ Sfx (ovp ov) p' n (64 * (n / 64)) ∧ L = [(r, .cells ⟨s2.v ++ rest⟩ e (0, 0))] := by
  have hl : n = b.length := by have := hov.1; rw [u8s_len] at this; omega
  have hov' := hov
  rw [slV_eq hov]
  rw [← fl_u8] at hov' hin
  subst hl
  refine CallM.imp (all_ok r s rest e (ovp ov) b.length _ b rfl ?_ hbig hb w (RdSl.own' hw (fun x hx => he.perm.subset (List.mem_append_right _ (hin x hx))) hov' u8V_len) ?_) fun v L ⟨p', cap', h1, h2, h3, h4⟩ => ⟨_, p', cap', rfl, h1, h2, h3, h4⟩
  · cases ov with
    | none => have : b.length = 0 := hov.2; simp [ovc, this]
    | some z => simp [ovc]
  · cases ov with
    | none => intro a ha; cases ha
    | some z => obtain ⟨b0, j, junk⟩ := z; intro a ha; cases ha; exact RdSl.off hw he (hin _ List.mem_cons_self)
theorem rAdd_ok (r : Nat) (st : RS) (b : List Int) (hI : RuI st b) (pp : Option Addr) (m cap : Nat) (ps : List Pt) (hm : m = ps.length) (hbyt : Byt (cat ps)) (hbig : (b ++ cat ps).length ≤ 1000000000) (hm2 : m ≤ 1000000000) (w : World) (hp : RdSl w pp Pt.v ps) (hoff : ps ≠ [] → Off pp (blks (RL r st))) (hall : ∀ x ∈ ps, RdSl w x.p u8V x.xs ∧ (x.xs ≠ [] → Off x.p (blks (RL r st)))) :
    CallM Try.prog 63 [.pointer (some ⟨r, 0, none⟩), .slice pp m cap] (RL r st) w fun v L => ∃ st', v = .pointer (some ⟨r, 0, none⟩) ∧ L = RL r st' ∧ RuI st' (b ++ cat ps) ∧ st'.on = true := by
  subst hm
  refine enterK (tb := tb) Try.func63 rfl Try.ntmps63 rfl ?_
  obtain ⟨S, hS⟩ : ∃ S, S = blks (RL r st) := ⟨_, rfl⟩
  rw [← hS] at hoff hall ⊢
  rw [List.length_append] at hbig
  repeat' (first | (apply R.is1; first | (apply R.isBin; (apply R.pure; exact rfl; (apply Ok1.eqlP; (iterate 5 exact rfl)))) | (apply R.pure; exact rfl; first | (apply Ok1.move; exact rfl) | (apply Ok1.fieldAddr; (iterate 5 exact rfl)) | (apply Ok1.load; exact rfl; (apply Ld.own1; exact rfl; exact rfl; exact At.head; exact rfl)) | (apply Ok1.assign; exact rfl) | (apply Ok1.not; exact rfl) | (apply Ok1.nilCheck; exact rfl))) | apply R.nil | (apply T.is; first | (refine T.meetK (x := .seq (.region 3 _ _) _) (α := RS) (I := fun x => RuI x b ∧ x.on = true) (σi := fun x => [(0, .pointer (some ⟨r, 0, none⟩)), (1, .slice pp ps.length cap)]) (Li := fun x => RL r x) ?_ ?_) | apply T.seq | apply T.region | apply T.skip | (apply T.cond_f; exact rfl) | (apply T.cond rfl <;> intro)))
  · have hof : st.on = false := by simpa using ‹(!st.on) = true›
    simp only [RL, rnC, H8.v, H8.l, u32s, List.map_cons, List.map_nil, List.cons_append, List.nil_append]
    repeat' (first | (apply R.is1; first | (apply R.isCall; apply R.callP rfl rfl rfl begun_ok) | (apply R.pure; exact rfl; first | (apply Ok1.fieldAddr; (iterate 5 exact rfl)) | (apply Ok1.nilCheck; exact rfl))) | (apply R.is0; (apply R.store; (iterate 6 exact rfl); exact Upd.head; exact rfl)) | apply R.nil)
    refine ⟨⟨true, h0I, st.ov, st.xs, st.p, st.cap, st.k, st.lf, st.n⟩, ⟨⟨hI.ov, hI.sfx, hI.lf, hI.cap, hI.n, hI.left, hI.byt, fun _ => by rw [hI.off hof]; rfl, fun h => by cases h⟩, rfl⟩, ⟨rfl, rfl, trivial⟩, ?_⟩
    (focus ((repeat' (first | exact Ext.one _ _ | exact Ext.all _ | apply Keep.cons | apply Keep.last)); done))
  · have hof : st.on = true := by simpa using ‹(!st.on) = false›
    exact ⟨st, ⟨hI, hof⟩, ⟨rfl, rfl, trivial⟩, by (focus ((repeat' (first | exact Ext.one _ _ | exact Ext.all _ | apply Keep.cons | apply Keep.last)); done))⟩
  · clear hI hS
    rintro st0 ⟨hI0, hon0⟩
    repeat' (first | (apply R.is1; first | (apply R.isCall; (apply R.pure; exact rfl; (apply Ok1.lenS; (iterate 3 exact rfl)))) | (apply R.pure; exact rfl; (apply Ok1.move; exact rfl))) | apply R.nil | (apply T.is; first | apply T.seq | apply T.region | apply T.block))
    apply T.loopK (α := Nat × RS) (I := fun y => y.1 ≤ ps.length ∧ RuI y.2 (b ++ cat (ps.take y.1)) ∧ y.2.on = true) (σi := fun y => [(0, .pointer (some ⟨r, 0, none⟩)), (21, .slice pp ps.length cap), (22, .int .i64 ps.length), (23, .int .i64 y.1)]) (Li := fun y => RL r y.2) (μ := fun y => ps.length - y.1) (i0 := (0, st0))
    · exact ⟨Nat.zero_le _, by simpa [cat_nil] using hI0, hon0⟩
    · exact ⟨rfl, rfl, rfl, rfl, trivial⟩
    · (focus ((repeat' (first | exact Ext.one _ _ | exact Ext.all _ | apply Keep.cons | apply Keep.last)); done))
    · rintro ⟨i, s1⟩ ⟨hi, hI1, hon1⟩
      simp only at hi hI1 hon1 ⊢
      rcases Nat.lt_or_ge i ps.length with hlt | hge
      · obtain ⟨x, hx⟩ : ∃ x, ps[i]? = some x := ⟨_, List.getElem?_eq_getElem (by omega)⟩
        obtain ⟨hrd, hxo⟩ := hall x (List.mem_of_getElem? hx)
        obtain ⟨b', o', hpe, H⟩ := hp.at hx
        replace H := H 1 Pt.v_len
        have hbS := hoff (by intro h; rw [h] at hlt; simp at hlt) _ hpe
        have hs := cat_snoc hx
        have hl := congrArg List.length hs
        rw [List.length_append] at hl
        have hle2 := cat_le ps (i + 1)
        have hbx : Byt x.xs := fun y hy => hbyt y (List.mem_flatMap.2 ⟨x, List.mem_of_getElem? hx, hy⟩)
        have hB : b ++ cat (ps.take (i + 1)) = (b ++ cat (ps.take i)) ++ x.xs := by rw [hs, List.append_assoc]
        have hBl : (b ++ cat (ps.take (i + 1))).length = (b ++ cat (ps.take i)).length + x.xs.length := by rw [hB, List.length_append]
        have hBle : (b ++ cat (ps.take (i + 1))).length ≤ 1000000000 := by rw [List.length_append]; omega
        generalize b ++ cat (ps.take i) = B at *
        obtain ⟨on, s, ov, xs, p1, cap1, k, lf, n⟩ := s1
        obtain ⟨hov, hsfx, hlf, hcap1, hn, hleft, hbB, hw', _⟩ := hI1
        simp only at hov hsfx hlf hcap1 hn hleft hw' hon1
        subst hon1
        have hfeed := feed B x.xs
        rw [← hleft, ← hw' rfl] at hfeed
        have hll := left_len B
        rw [← hleft] at hll
        have hbl : Byt (lf ++ x.xs) := (by rw [hleft]; exact hbB.drop _ : Byt lf).app hbx
        have hrl : ∀ {w0 w1 : World} {S : List Nat} {L : Lst}, Hp w0 S L w1 → (∀ x ∈ blkL 5 ov (u8s xs), x ∈ L) → RdSl w1 p1 u8V lf := fun hw1 hin => by
          rw [hlf]
          refine hsfx.rd _ xs rfl ?_
          rw [← fl_u8] at hin hov
          exact RdSl.own' hw1 hin hov u8V_len
        have hcat : cat [⟨p1, cap1, lf⟩, x] = lf ++ x.xs := by simp [cat]
        have hln : (lf ++ x.xs).length = lf.length + x.xs.length := List.length_append
        simp only [RL, rnC, H8.v, H8.l, u32s, List.map_cons, List.map_nil, List.cons_append, List.nil_append]
        repeat' (first | (apply R.is1; first | (apply R.isBin; (apply R.pure; exact rfl; first | (apply Ok1.add64; exact rfl; exact rfl; omega; omega) | (apply Ok1.lss_t; exact rfl; exact rfl; omega))) | (apply R.isCall; (apply R.pure; exact rfl; (apply Ok1.lenS; (iterate 3 exact rfl)))) | (apply R.pure; exact rfl; first | (apply Ok1.indexAddrP; (iterate 4 exact rfl); exact hpe; exact rfl; omega; omega) | (apply Ok1.load; exact rfl; apply Ld.row0 H; exact rfl; exact hbS; (iterate 3 exact rfl)) | (apply Ok1.move; exact rfl) | (apply Ok1.fieldAddr; (iterate 5 exact rfl)) | (apply Ok1.load; exact rfl; (apply Ld.own1; exact rfl; exact rfl; exact At.head; exact rfl)) | (apply Ok1.assign; exact rfl) | (apply Ok1.nilCheck; exact rfl))) | (apply R.is0; (apply R.store; (iterate 6 exact rfl); exact Upd.head; exact rfl)) | apply R.nil | (apply T.is; first | (apply T.drawC (id := 9) [] (by decide); ((apply A.take 0; exact rfl; exact rfl; kernel_rfl; kernel_rfl; kernel_rfl; (apply Ok1.move; exact rfl)) <;> (apply A.take 1; exact rfl; exact rfl; kernel_rfl; kernel_rfl; kernel_rfl; (apply Ok1.move; exact rfl)) <;> (apply A.take 2; exact rfl; exact rfl; kernel_rfl; kernel_rfl; kernel_rfl; (apply Ok1.nilCheck; exact rfl)) <;> (apply A.take 3; exact rfl; exact rfl; kernel_rfl; kernel_rfl; kernel_rfl; (apply Ok1.fieldAddr; (iterate 5 exact rfl))) <;> (apply A.take 4; exact rfl; exact rfl; kernel_rfl; kernel_rfl; kernel_rfl; (apply Ok1.move; exact rfl)) <;> (apply A.take 5; exact rfl; exact rfl; kernel_rfl; kernel_rfl; kernel_rfl; (apply Ok1.nilCheck; exact rfl)) <;> (apply A.take 6; exact rfl; exact rfl; kernel_rfl; kernel_rfl; kernel_rfl; (apply Ok1.fieldAddr; (iterate 5 exact rfl))) <;> (apply A.take 8; exact rfl; exact rfl; kernel_rfl; kernel_rfl; kernel_rfl; (apply Ok1.move; exact rfl)) <;> (apply A.one 7; kernel_rfl; exact rfl; (((apply R.pure; exact rfl; (apply Ok1.load; exact rfl; (apply Ld.own1; exact rfl; exact rfl; exact At.head; exact rfl))))); apply R.nil; refine ⟨?_, ?_⟩; (focus ((repeat' (exact trivial))))) <;> (apply A.one 9; kernel_rfl; exact rfl; (((apply R.buildSlice; (iterate 12 exact rfl); intro))); apply R.nil; refine ⟨?_, ?_⟩; (focus ((repeat' (exact trivial))))) <;> (apply A.one 10; kernel_rfl; exact rfl; (((apply R.callE; (iterate 3 exact rfl); exact Ext.none _; intro w1 hw1; have h9 := concat_ok (some ⟨_, 0, none⟩) 2 2 [⟨p1, cap1, lf⟩, x] rfl (by rw [hcat]; omega) (by omega) w1 (RdSl.of (v := Pt.v) (rs := [⟨p1, cap1, lf⟩, x]) (junk := []) hw1 (by exact At.head) rfl) (by intro y hy; rcases List.mem_cons.1 hy with rfl | hy; exact hrl hw1 (Ext.mem (by (focus ((repeat' (first | exact Ext.all _ | apply Ext.cons)); done)))); rw [List.mem_singleton.1 hy]; exact hrd.chg' hw1.chg hxo); rw [hcat] at h9; exact h9; rintro v Lo ⟨ovc, hovc, rfl, rfl⟩))); apply R.nil; refine ⟨?_, ?_⟩; (focus ((repeat' (exact trivial))))) <;> (apply A.one 11; kernel_rfl; exact rfl; (((apply R.callE (Li := [(r, .cells ⟨s.v ++ [.bool true, .slice p1 lf.length cap1, .int .i64 (n + x.xs.length)]⟩ 115 (0, 0))]); (iterate 3 exact rfl); (focus ((repeat' (first | exact Ext.one _ _ | apply Ext.cons | apply Ext.app)); done)); intro w1 hw1; exact all_own r s _ _ _ (lf ++ x.xs) hovc (by omega) hbl hw1 (by (focus ((repeat' (first | exact Ext.one _ _ | apply Ext.cons | apply Ext.app)); done))) (Ext.mem (by (focus ((repeat' (exact Ext.here _ _)); done)))); rintro v Lo ⟨s2, p', cap', hs2, rfl, hc2, hsf2, rfl⟩; simp only [H8.v, H8.l, u32s, List.map_cons, List.map_nil, List.cons_append, List.nil_append]))); apply R.nil; refine ⟨?_, ?_⟩; (focus ((repeat' (exact trivial))))) <;> (apply A.take 12; exact rfl; exact rfl; kernel_rfl; kernel_rfl; kernel_rfl; (apply Ok1.nilCheck; exact rfl)) <;> (apply A.take 13; exact rfl; exact rfl; kernel_rfl; kernel_rfl; kernel_rfl; (apply Ok1.fieldAddr; (iterate 5 exact rfl))) <;> (apply A.one 14; kernel_rfl; exact rfl; (((apply R.store; (iterate 6 exact rfl); exact Upd.head; exact rfl))); apply R.nil; refine ⟨?_, ?_⟩; (focus ((repeat' (exact trivial))))) <;> (apply A.done; kernel_rfl))) | apply T.seq | apply T.region | apply T.block | apply T.skip | (apply T.cond_t; exact rfl)))
        rw [← hs2] at hfeed
        refine ⟨(i + 1, ⟨true, s2, ovc, lf ++ x.xs, p', cap', 64 * ((lf ++ x.xs).length / 64), (lf ++ x.xs).drop (64 * ((lf ++ x.xs).length / 64)), n + x.xs.length⟩), ⟨by simp only; omega, ?_, rfl⟩, by simp only; omega, ⟨rfl, rfl, rfl, rfl, trivial⟩, ?_⟩
        · rw [hB]
          exact ⟨hovc, hsf2, rfl, by simp only [List.length_drop]; exact hc2, by simp only [List.length_append]; omega, hfeed.2, hbB.app hbx, fun _ => hfeed.1, fun h => by cases h⟩
        · simp only [RL, rnC, H8.v, H8.l, u32s, List.map_cons, List.map_nil, List.cons_append, List.nil_append, List.length_drop, Int.natCast_add]
          (focus ((repeat' (first | exact Ext.one _ _ | exact Ext.here _ _ | apply Keep.cons | apply Keep.last)); done))
      · have him : i = ps.length := by omega
        subst him
        rw [List.take_length] at hI1
        repeat' (first | (apply R.is1; first | (apply R.isBin; (apply R.pure; exact rfl; (apply Ok1.lss_f; exact rfl; exact rfl; omega))) | (apply R.pure; exact rfl; first | (apply Ok1.move; exact rfl) | (apply Ok1.assign; exact rfl))) | apply R.nil | (apply T.is; first | apply T.seq | apply T.region | apply T.exit | apply T.ret | (apply T.cond_f; exact rfl)))
        (apply RetOk.t; exact rfl)
        exact ⟨_, by (focus ((repeat' (first | exact Ext.one _ _ | exact Ext.all _ | apply Keep.cons | apply Keep.last)); done)), s1, rfl, rfl, hI1, hon1⟩
end Go.Proofs.Ytligpachgcmkcaa
