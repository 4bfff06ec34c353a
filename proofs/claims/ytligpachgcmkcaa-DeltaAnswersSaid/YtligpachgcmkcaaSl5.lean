/- Slices of integers: the values, collected, sorted; does one stand twice. -/
import Derived.Test.YtligpachgcmkcaaSl4
import Derived.Test.YtligpachgcmkcaaEng20
set_option linter.unusedSimpArgs false
set_option linter.unusedVariables false
namespace Go.Proofs.Ytligpachgcmkcaa
open Go.RowKit Go.Shelf
set_option maxRecDepth 100000

theorem CallM.to {P : Program} {f : FuncId} {vs : List Value} {L : Lst} {w : World} {R R' : Value → Lst → Prop} (h : CallM P f vs L w R) (hr : ∀ v L, R v L → R' v L) : CallM P f vs L w R' :=
  ⟨fun hw => (h.run hw).mono fun e w' ⟨v, L', h1, h2, h3⟩ => ⟨v, L', h1, hr _ _ h2, h3⟩⟩
theorem ivalues_ok (p : Option Addr) (n cap : Nat) (w : World) : CallM Try.prog 84 [.slice p n cap] [] w fun v L => ∃ cb, v = .func (.func 114) #[] #[.pointer (some ⟨cb, 0, none⟩)] ∧ L = [(cb, .cells ⟨[.slice p n cap]⟩ 25 (0, 0))] := by
  refine enterK (tb := tb) Try.func84 rfl Try.ntmps84 rfl ?_
  repeat' (first | (apply R.is1; first | (apply R.pure; exact rfl; first | (apply Ok1.assign; exact rfl) | (apply Ok1.makeFunc; exact rfl; exact rfl)) | (apply R.box; (iterate 3 exact rfl); intro)) | apply R.nil | (apply T.is; first | apply T.seq | apply T.region | apply T.ret))
  (apply RetOk.t; exact rfl)
  exact ⟨_, by (focus ((repeat' (first | exact Keep.nil _ | exact Ext.one _ _ | apply Keep.cons)); done)), _, rfl, rfl⟩
theorem ivalues1_ok {β : Type} (I : Nat → β → Prop) (Li : Nat → β → Lst) (l : Nat) (o : Obj) (cb : Nat) (p : Option Addr) (n cap : Nat) (xs : List Int) (hn : n = xs.length) (hbig : n ≤ 1000000000) (y0 : β) (h0 : I 0 y0)
    (hY : ∀ i y x w, I i y → xs[i]? = some x → YieldM Try.prog l [.int .i64 x] ((l, o) :: Li i y) w fun v L => v = .bool true ∧ ∃ L5, (∃ y', I (i + 1) y' ∧ L5 = Li (i + 1) y') ∧ L = (l, o) :: L5) (w : World) (hp : RdSl w p iV xs) (hoff : xs ≠ [] → Off p (blks ((l, o) :: (cb, .cells ⟨[.slice p n cap]⟩ 25 (0, 0)) :: Li 0 y0))) :
    CallM Try.prog 114 [.func (.yield l) #[] #[], .pointer (some ⟨cb, 0, none⟩)] ((l, o) :: (cb, .cells ⟨[.slice p n cap]⟩ 25 (0, 0)) :: Li 0 y0) w fun v L => ∃ y, I n y ∧ L = (l, o) :: (cb, .cells ⟨[.slice p n cap]⟩ 25 (0, 0)) :: Li n y := by
  subst hn
  refine enterK (tb := tb) Try.func114 rfl Try.ntmps114 rfl ?_
  repeat' (first | (apply R.is1; first | (apply R.isCall; (apply R.pure; exact rfl; (apply Ok1.lenS; (iterate 3 exact rfl)))) | (apply R.pure; exact rfl; first | (apply Ok1.move; exact rfl) | (apply Ok1.load; exact rfl; (apply Ld.own1; exact rfl; exact rfl; (focus ((repeat' (first | exact At.head | apply At.tail)); done)); exact rfl)))) | apply R.nil | (apply T.is; first | apply T.seq | apply T.region | apply T.block))
  apply T.loopK (α := Nat × β) (I := fun x => x.1 ≤ xs.length ∧ I x.1 x.2) (σi := fun x => [(0, .func (.yield l) #[] #[]), (5, .slice p xs.length cap), (6, .int .i64 xs.length), (7, .int .i64 x.1)])
    (Li := fun x => (l, o) :: (cb, .cells ⟨[.slice p xs.length cap]⟩ 25 (0, 0)) :: (Li x.1 x.2 ++ [])) (μ := fun x => xs.length - x.1) (i0 := (0, y0))
  · exact ⟨Nat.zero_le _, h0⟩
  · exact ⟨rfl, rfl, rfl, rfl, trivial⟩
  · simp only [List.append_nil]
    (focus ((repeat' (first | exact Ext.one _ _ | exact Ext.all _ | apply Keep.cons | apply Keep.last)); done))
  · rintro ⟨i, y⟩ ⟨hi, hI⟩
    simp only at hi hI ⊢
    rcases Nat.lt_or_ge i xs.length with hlt | hge
    · obtain ⟨x, hx⟩ : ∃ x, xs[i]? = some x := ⟨_, List.getElem?_eq_getElem (by omega)⟩
      have hne : xs ≠ [] := by intro e; rw [e] at hlt; simp at hlt
      obtain ⟨b, ob, hpe, H⟩ := hp.at hx
      replace H := H 1 iV_len
      have hnb : b ∉ blks ((l, o) :: (cb, .cells ⟨[.slice p xs.length cap]⟩ 25 (0, 0)) :: Li 0 y0) := by
        have := hoff hne
        rw [hpe] at this
        exact this _ rfl
      repeat' (first | (apply RI.yield; (iterate 3 exact rfl); (focus (exact Ext.two _ (Ext.one _ _) (Ext.cons _ (Ext.here _ _)))); intro w1 hw1; exact hY i y x w1 hI hx; rintro v Lo ⟨rfl, L5, ⟨y', hI', rfl⟩, rfl⟩) | (apply R.is1; first | (apply R.isBin; (apply R.pure; exact rfl; first | (apply Ok1.add64; exact rfl; exact rfl; omega; omega) | (apply Ok1.lss_t; exact rfl; exact rfl; omega))) | (apply R.pure; exact rfl; first | (apply Ok1.indexAddrP; (iterate 4 exact rfl); exact hpe; exact rfl; omega; omega) | (apply Ok1.load; exact rfl; apply Ld.row0 H; exact rfl; exact hnb; (iterate 3 exact rfl)) | (apply Ok1.move; exact rfl) | (apply Ok1.assign; exact rfl) | (apply Ok1.not_t; exact rfl))) | apply R.nil | (apply T.is; first | apply T.regionIn (id := 3) | apply T.seq | apply T.region | apply T.block | apply T.skip | (apply T.cond_t; exact rfl) | (apply T.cond_f; exact rfl)) | (apply RI.step; exact rfl) | apply RI.nil)
      refine ⟨(i + 1, y'), ⟨by simp only; omega, hI'⟩, by simp only; omega, ⟨rfl, rfl, rfl, rfl, trivial⟩, ?_⟩
      simp only [List.append_nil, List.cons_append]
      (focus ((repeat' (first | exact Ext.one _ _ | exact Ext.here _ _ | apply Keep.cons | apply Keep.last | apply Ext.app)); done))
    · have him : i = xs.length := by omega
      subst him
      repeat' (first | (apply R.is1; (apply R.isBin; (apply R.pure; exact rfl; (apply Ok1.lss_f; exact rfl; exact rfl; omega)))) | apply R.nil | (apply T.is; first | apply T.seq | apply T.region | apply T.exit | (apply T.cond_f; exact rfl)))
      (apply RetOk.n)
      exact ⟨_, by simp only [List.append_nil]; (focus ((repeat' (first | exact Ext.one _ _ | exact Ext.all _ | apply Keep.cons | apply Keep.last)); done)), y, hI, rfl⟩
theorem appendSeq_ok (cb : Nat) (p : Option Addr) (n cap : Nat) (xs : List Int) (hn : n = xs.length) (hbig : n ≤ 1000000) (w : World) (hp : RdSl w p iV xs) (hoff : xs ≠ [] → Off p [cb]) :
    CallM Try.prog 128 [.slice none 0 0, .func (.func 114) #[] #[.pointer (some ⟨cb, 0, none⟩)]] [(cb, .cells ⟨[.slice p n cap]⟩ 25 (0, 0))] w fun v L => ∃ ov, OvOk 1 ov n (iis xs) ∧ v = slV ov n ∧ L = (cb, .cells ⟨[.slice p n cap]⟩ 25 (0, 0)) :: blkL 3 ov (iis xs) := by
  subst hn
  refine enterF (tb := tb) Try.func128 rfl Try.ntmps128 rfl ?_
  repeat' (first | (apply TF.range (gf := 114); exact rfl; exact rfl) | apply TF.seq | (apply R.is1; first | (apply R.pure; exact rfl; first | (apply Ok1.move; exact rfl) | (apply Ok1.assign; exact rfl)) | (apply R.box; (iterate 3 exact rfl); intro)) | apply R.nil | (apply T.is; apply T.region))
  rename_i out
  obtain ⟨Li, hLi⟩ : ∃ Li : Nat → Ov → Lst, Li = fun i ov => (out, .cells ⟨[slV ov i]⟩ 25 (0, 0)) :: blkL 3 ov (iis (xs.take i)) := ⟨_, rfl⟩
  refine ⟨⟨_, (cb, .cells ⟨[.slice p xs.length cap]⟩ 25 (0, 0)) :: Li 0 none, [], fun Lb => ∃ ov, OvOk 1 ov xs.length (iis xs) ∧ Lb = (cb, .cells ⟨[.slice p xs.length cap]⟩ 25 (0, 0)) :: Li xs.length ov, ?_, rfl, ?_, ?_⟩⟩
  · subst hLi
    rw [List.append_nil]
    change Keep _ [_, _]
    (focus ((repeat' (first | exact Keep.nil _ | exact Ext.one _ _ | apply Keep.cons | apply Ext.cons)); done))
  · rintro l rec w1 hok ⟨L2, hw1⟩
    have hrd := hp.chg' hw1.chg hoff
    have hof2 := RdSl.old iV_len (by decide) hp hoff hw1 (Ext.here _ _)
    refine (ivalues1_ok (fun i ov => i ≤ xs.length ∧ OvOk 1 ov i (iis (xs.take i))) Li l _ cb p xs.length cap xs rfl (by omega) none ⟨Nat.zero_le _, OvOk.start 1⟩ ?_ w1 hrd hof2).to ?_
    · intro i ov x w2 ⟨hi, hI⟩ hx
      have hlt : i < xs.length := (List.getElem?_eq_some_iff.1 hx).1
      subst hLi
      apply YieldM.of (tb := tb) hok.mod hok.params (blt_lt rfl) hok.assign hok.body hok.state hok.pending
      repeat' (first | (apply R.is1; (apply R.pure; exact rfl; (apply Ok1.assign; exact rfl))) | apply R.nil | (apply RI.step; exact rfl) | apply RI.nil)
      refine ⟨_, .cons (.one _ _) (.last (.all _)), ?_⟩
      repeat' (first | (apply R.is1; first | (apply R.isCall; (apply R.append1; (iterate 12 exact rfl); (focus ((repeat' (first | exact OwnAt.base hI | apply OwnAt.tail)); done)); exact At.head; exact rfl; exact rfl; omega; omega; intro b2 j2 k2 hj2)) | (apply R.pure; exact rfl; first | (apply Ok1.move; exact rfl) | (apply Ok1.load; exact rfl; (apply Ld.own1; exact rfl; exact rfl; (focus ((repeat' (first | exact At.head | apply At.tail)); done)); exact rfl))) | (apply R.buildSlice; (iterate 12 exact rfl); intro)) | (apply R.is0; (apply R.store; (iterate 6 exact rfl); (focus ((repeat' (first | exact Upd.head | apply Upd.tail)); done)); exact rfl)) | apply R.nil | (apply RI.step; exact rfl) | apply RI.nil)
      have hs : iis (xs.take (i + 1)) = iis (xs.take i) ++ [.int .i64 x] := by rw [List.take_add_one, hx, iis_app]; rfl
      refine ⟨(out, .cells ⟨[slV (some (b2, j2, k2)) (i + 1)]⟩ 25 (0, 0)) :: blkL 3 (some (b2, j2, k2)) (iis (xs.take (i + 1))), ?_, some (b2, j2, k2), ⟨by omega, ?_⟩, rfl⟩
      · rw [hs]
        (focus ((repeat' (first | exact Keep.nil _ | exact Ext.one _ _ | apply Keep.cons | apply Ext.cons)); done))
      · rw [hs]
        exact hI.some (b := b2) (ys := [.int .i64 x]) (m := 1) rfl hj2
    · rintro v L ⟨ov, ⟨_, h2⟩, rfl⟩
      rw [List.take_length] at h2
      exact ⟨_, ⟨ov, h2, rfl⟩, rfl⟩
  · rintro D Lb ⟨ov, h2, rfl⟩
    subst hLi
    simp only [List.cons_append, List.append_nil, List.take_length]
    repeat' (first | apply TD.seq | apply TD.region | apply TD.ret | (apply R.is1; (apply R.pure; exact rfl; first | (apply Ok1.load; exact rfl; (apply Ld.own1; exact rfl; exact rfl; (focus ((repeat' (first | exact At.head | apply At.tail)); done)); exact rfl)) | (apply Ok1.assign; exact rfl))) | apply R.nil)
    refine ⟨rfl, _, _, rfl, ?_, ov, h2, rfl, rfl⟩
    (focus ((repeat' (first | exact Ext.one _ _ | exact Ext.all _ | apply Keep.cons | apply Keep.last | apply Ext.cons)); done))
end Go.Proofs.Ytligpachgcmkcaa
