/- Texts of the proof: Fr8, Fr9, Fn1, Eng15, Lcj. -/
import Derived.Test.YtolnagbahceebaaGreatL17nb4
import Derived.ProofKit
import Derived.Deep.Slices
import Derived.OpenShut
import Derived.JoinedOf
set_option linter.unusedSimpArgs false
set_option linter.unusedVariables false
namespace Go.Proofs.YtolnagbahceebaaGreat
open Go.RowKit Go.Shelf
set_option maxRecDepth 100000
theorem covc_ok (us vs : List Int) (ha : us.length = 4) (hb : vs.length = 4) : CallP Tryz.prog 75 [.agg ⟨iis us⟩, .agg ⟨iis vs⟩] (.bool (decide (Cov us vs))) := covers_list us vs ha hb
theorem tprs_dr {xs : List Int} (h : (tprs xs).2 = 0) : DR (tprs xs).1 := by
  unfold tprs prs at h ⊢
  split at h
  · rename_i hf
    exact absurd h hf
  · split at h
    · rename_i hf hD
      rw [if_neg hf, if_pos hD]
      exact hD
    · exact absurd h (by decide)
theorem ftake_good (bf bs : Nat) (gs : List Lg) (ov : Ov) (al : List Ak) (since : Int) (is : Bool) (h : FOk gs ov al since) (seed tick : Int) (p : Option Addr) (cap : Nat) (xs : List Int) (hcap : xs.length ≤ cap) (hbig : xs.length ≤ 1000) (hb : Byt (xs.drop 8)) (w : World) (hp : RdSl w p u8V xs) (hoff : xs ≠ [] → Off p (blks (FL bf bs gs ov al since is))) (hc : tkxC seed tick xs = 0) :
    CallM Tryz.prog 9 [.pointer (some ⟨bf, 0, none⟩), .int .i64 seed, .int .i64 tick, .slice p xs.length cap] (FL bf bs gs ov al since is) w fun v L => ∃ gs' ov', v = .tuple #[.bool (FM.takeY ⟨lgs gs, al, since, is⟩ seed tick (xs.take 8) (attV xs) (tprs xs).1), .int .i64 (FM.takeE ⟨lgs gs, al, since, is⟩ seed tick (xs.take 8) (tprs xs).1)] ∧ lgs gs' = (FM.take ⟨lgs gs, al, since, is⟩ seed tick (xs.take 8) (attV xs) (tprs xs).1).ls ∧ FOk gs' ov' (FM.take ⟨lgs gs, al, since, is⟩ seed tick (xs.take 8) (attV xs) (tprs xs).1).al (FM.take ⟨lgs gs, al, since, is⟩ seed tick (xs.take 8) (attV xs) (tprs xs).1).since ∧ L = FL bf bs gs' ov' (FM.take ⟨lgs gs, al, since, is⟩ seed tick (xs.take 8) (attV xs) (tprs xs).1).al (FM.take ⟨lgs gs, al, since, is⟩ seed tick (xs.take 8) (attV xs) (tprs xs).1).since (FM.take ⟨lgs gs, al, since, is⟩ seed tick (xs.take 8) (attV xs) (tprs xs).1).is := by
  have hck := fcheck_ok ⟨bf, 0, none⟩ seed tick
  have hR : Rgt seed tick := by
    by_cases hR : Rgt seed tick
    · exact hR
    · rw [tkxC, if_pos hR] at hc; omega
  have h40 : ¬ xs.length < 40 := fun h40 => by rw [tkxC, if_neg (fun h => h hR), if_pos h40] at hc; omega
  have hV : VR (attV xs) := by
    by_cases hV : VR (attV xs)
    · exact hV
    · rw [tkxC, if_neg (fun h => h hR), if_neg h40, if_pos hV] at hc; omega
  have hpe : (tprs xs).2 = 0 := by rw [tkxC, if_neg (fun h => h hR), if_neg h40, if_neg (fun h => h hV)] at hc; exact hc
  rw [if_pos hR] at hck
  obtain ⟨_, _, h0, h1⟩ := hR
  have hnr : ∀ w1, Chg (blks (FL bf bs gs ov al since is)) w w1 → CallM Tryz.prog 26 [.slice (sufP p cap 8 1) 16 (cap - 8)] [] w1 fun v L => ∃ br s M, v = .pointer (some ⟨br, 0, none⟩) ∧ s.xs = (xs.drop 8).take 16 ∧ s.e = 0 ∧ RsO s M ∧ L = s.L br ++ M := fun w1 hc1 => by
    refine (rnewr_ok (sufP p cap 8 1) 16 (cap - 8) ((xs.drop 8).take 16) (by rw [List.length_take, List.length_drop]; omega) (by decide) (fun y hy => hb y (List.mem_of_mem_take hy)) w1 (RdSl.pre (v := u8V) (sz := 1) (fun _ => rfl) (RdSl.suf (v := u8V) (sz := 1) (fun _ => rfl) (hp.chg' hc1 hoff) (by omega) hcap) 16)).wk ?_
    rintro v L ⟨br, s, M, h1, h2, h3, h4, h5⟩
    exact ⟨br, s, M, h1, h2, h3, h4, h5⟩
  have hr9 := fun br s w1 h1 => read9_ok br s w1 h1
  have hpa := fun w1 (hc1 : Chg (blks (FL bf bs gs ov al since is)) w w1) => parse_ok (sufP p cap 24 1) (xs.length - 24) (cap - 24) (xs.drop 24) (by rw [List.length_drop]) (by omega) (byt24 hb) w1 (RdSl.suf (v := u8V) (sz := 1) (fun _ => rfl) (hp.chg' hc1 hoff) (by omega) hcap)
  have hpa2 : ∀ w1, Chg (blks (FL bf bs gs ov al since is)) w w1 → CallM Tryz.prog 27 [.slice (sufP p cap 24 1) (xs.length - 24) (cap - 24)] [] w1 fun v L => ∃ d : Dl, d.length = 4 ∧ v = .tuple #[.agg ⟨dlV d⟩, .int .i64 0] ∧ pur d = (tprs xs).1 ∧ DlO d L := fun w1 hc1 => by
    refine (hpa w1 hc1).wk ?_
    rintro v L ⟨s, d, h1, h2, h3, h4, h5, h6⟩
    rw [if_pos (by omega)] at h1 h2
    rw [prs_att h1 h2, hpe] at h4
    rw [prs_att h1 h2] at h5
    exact ⟨d, h3, h4, h5, h6⟩
  have hDl : ∀ p8, p8.length = 8 → (dgV (attV xs) p8).length = 12 := fun p8 h => dg_len (attV_len xs) h
  have hDs : ∀ p8, subE (dgV (attV xs) p8) 0 4 = some (iis (attV xs)) := fun p8 => subE_app _ _ (by rw [iis_len, attV_len])
  have hx8 : (xs.take 8).length = 8 := by rw [List.length_take]; omega
  have hle := h.le
  have hov := h.ov
  have hgg := h.g
  have hfd := fun w1 e1 e2 (hc1 : Chg (blks (FL bf bs gs ov al since is)) w w1) => ffind_ok bf bs ov al h.ov h.le since is seed tick h0 h1 p cap (xs.take 8) w1 e1 e2 (RdSl.pre (v := u8V) (sz := 1) (fun _ => rfl) (hp.chg' hc1 hoff) 8)
  rw [hx8] at hfd
  have hpn := posI_neg al (Ak.is seed tick (xs.take 8))
  have hpv : posI al (Ak.is seed tick (xs.take 8)) = if apos al seed tick (xs.take 8) < al.length then ((apos al seed tick (xs.take 8) : Nat) : Int) else -1 := rfl
  have hTE : FM.takeE ⟨lgs gs, al, since, is⟩ seed tick (xs.take 8) (tprs xs).1 = if apos al seed tick (xs.take 8) < al.length then appX (lgs gs) (tprs xs).1 else 7 := rfl
  have hTY : FM.takeY ⟨lgs gs, al, since, is⟩ seed tick (xs.take 8) (attV xs) (tprs xs).1 = (decide (FM.takeE ⟨lgs gs, al, since, is⟩ seed tick (xs.take 8) (tprs xs).1 = 0) && decide (Cov (lensI (appL (lgs gs) (tprs xs).1)) (attV xs))) := rfl
  have hTM : FM.take ⟨lgs gs, al, since, is⟩ seed tick (xs.take 8) (attV xs) (tprs xs).1 = if FM.takeE ⟨lgs gs, al, since, is⟩ seed tick (xs.take 8) (tprs xs).1 = 0 then ⟨appL (lgs gs) (tprs xs).1, al.eraseIdx (apos al seed tick (xs.take 8)), if Cov (lensI (appL (lgs gs) (tprs xs).1)) (attV xs) then max since ((al[apos al seed tick (xs.take 8)]?.map Ak.tick).getD 0) else since, is || decide (Cov (lensI (appL (lgs gs) (tprs xs).1)) (attV xs))⟩ else ⟨lgs gs, al, since, is⟩ := rfl
  rw [hTM, hTY, hTE]
  clear hTM hTY hTE
  generalize hDD : (tprs xs).1 = DD at *
  generalize hAP : apos al seed tick (xs.take 8) = ap at *
  have hx1000 := hbig
  rw [hpv] at hfd hpn
  by_cases hf : ap < al.length
  · simp only [if_pos hf] at hfd ⊢
    clear hpv hpn
    have hDR : DR DD := by rw [← hDD]; exact tprs_dr hpe
    obtain ⟨x, hx⟩ : ∃ x, al[ap]? = some x := ⟨_, List.getElem?_eq_getElem hf⟩
    have hxt := h.tk x (List.mem_of_getElem? hx)
    have hsi := h.si
    obtain ⟨b, j, junk, rfl⟩ : ∃ b j junk, ov = some (b, j, junk) := by
      cases ov with
      | none => exact absurd hov.2 (by omega)
      | some q => exact ⟨_, _, _, rfl⟩
    have hap : ∀ d : Dl, d.length = 4 → pur d = DD → (∀ x ∈ d, x.2.xs.length ≤ x.2.cap) → ∀ w1, (∀ x ∈ d, RdSl w1 x.2.p iV x.2.xs) → (∀ x ∈ d, x.2.xs ≠ [] → Off x.2.p (blks (SetL bs gs))) → CallM Tryz.prog 73 [.pointer (some ⟨bs, 0, none⟩), .agg ⟨dlV d⟩] (SetL bs gs) w1 fun v L => ∃ gs', v = .tuple #[.int .i64 (appN (lgs gs) DD), .int .i64 (appX (lgs gs) DD)] ∧ lgs gs' = appL (lgs gs) DD ∧ GOk gs' ∧ L = SetL bs gs' := by
      intro d hd4 hpd hcp w1 e1 e2
      have h9 := apply_ok bs gs hgg d hd4 (fun x hx => ⟨by
        have hm : (x.1, x.2.xs) ∈ DD := by rw [← hpd]; exact List.mem_map.2 ⟨x, hx, rfl⟩
        have := (hDR _ hm).2.2.1
        simp only at this
        omega, hcp x hx⟩) w1 e1 e2
      have hp : (d.map fun x => (x.1, x.2.xs)) = DD := hpd
      rw [hp] at h9
      exact h9
    refine enterK (tb := tb) Tryz.func9 rfl Tryz.ntmps9 rfl ?_
    simp only [FL] at *
    repeat' (first | (apply R.is1; first | (apply R.isBin; (apply R.pure; exact rfl; first | (apply Ok1.lss_f; exact rfl; exact rfl; omega) | (apply Ok1.neq_f; exact rfl; exact rfl; omega))) | (apply R.isCall; first | apply R.callP rfl rfl rfl hck | (apply R.callE (vs := [.slice (sufP p cap 8 1) 16 (cap - 8)]); (iterate 3 exact rfl); exact Ext.none _; intro w1 hw1; exact hnr w1 hw1.chg; rintro v Lo ⟨br, s, M, rfl, hsx, hse, hso, rfl⟩; obtain ⟨p8, hp8, hrd⟩ := rd_att (by omega) hb hsx hse; rw [if_pos hV] at hrd) | (apply R.callE (Li := s.L br) (vs := [.pointer (some ⟨br, 0, none⟩)]); (iterate 3 exact rfl); (focus ((repeat' (exact Ext.one _ _)); done)); intro w1 hw1; exact hr9 br s w1 (hso.ok hw1 (by (focus ((repeat' (exact Ext.one _ _)); done))) (Ext.mem (by (focus ((repeat' (exact Ext.here _ _)); done))))); rintro v Lo ⟨hv, rfl⟩; rw [hrd] at hv; simp only at hv; subst hv) | (apply R.callE (vs := [.slice (sufP p cap 24 1) (xs.length - 24) (cap - 24)]); (iterate 3 exact rfl); exact Ext.none _; intro w1 hw1; exact hpa2 w1 hw1.chg; rintro v Lo ⟨d, hd4, rfl, hpd, hdo⟩) | (apply R.callV (vs := [.pointer (some ⟨bf, 0, none⟩), .int .i64 seed, .int .i64 tick, .slice p 8 cap]); (iterate 3 exact rfl); intro w1 hw1; exact hfd w1 (hw1.get _ _ (At.mem (by (focus (repeat' first | exact At.head | apply At.tail | apply At.right); done)))) (RdSl.own' hw1 (Ext.mem (by (focus (repeat' first | exact Ext.one _ _ | apply Ext.cons | apply Ext.app); done))) hov Ak.v_len) hw1.chg) | (apply R.pure; exact rfl; (apply Ok1.lenS; (iterate 3 exact rfl)))) | (apply R.pure; exact rfl; first | (apply Ok1.midR (i := 8) (j := 24) (sz := 1); (iterate 7 exact rfl); omega; omega) | (apply Ok1.sufR (sz := 1) (i := 24); (iterate 6 exact rfl); omega; omega) | (apply Ok1.preR (i := 8); (iterate 5 exact rfl); omega) | (apply Ok1.move; exact rfl) | (apply Ok1.assign; exact rfl) | (apply Ok1.extract; exact rfl; exact rfl)) | (apply R.alloc; (iterate 3 exact rfl); intro)) | (apply R.is0; first | (apply R.store; (iterate 4 exact rfl); exact hDl p8 hp8; exact dg_one _ _; exact Upd.head; exact setE_all (by rw [hDl p8 hp8]; rfl)) | (apply R.store; (iterate 4 exact rfl); exact dl_len8r hd4; exact dl_oner d; exact Upd.head; exact setE_all (by rw [dl_len8r hd4]; rfl))) | apply R.nil | (apply T.is; first | apply T.seq | apply T.region | apply T.skip | (apply T.cond_f; exact rfl)))
    rename_i b11 b13
    refine T.weakK (σ' := [(0, .pointer (some ⟨bf, 0, none⟩)), (11, .pointer (some ⟨b11, 0, none⟩)), (13, .pointer (some ⟨b13, 0, none⟩)), (14, .int .i64 ap)]) (L' := (b13, .cells ⟨dlV d⟩ 76 (0, 0)) :: (bf, .cells ⟨FrC bs (some (b, j, junk)) al.length since is⟩ 166 (0, 0)) :: (b11, .cells ⟨dgV (attV xs) p8⟩ 70 (0, 0)) :: (b, .cells ⟨fl Ak.v al ++ junk⟩ 164 (0, 0)) :: (SetL bs gs ++ Lo)) ?_ (by (focus (repeat' first | exact Ext.one _ _ | exact Ext.here _ _ | exact Ext.all _ | apply Keep.cons | apply Keep.app | apply Keep.last | apply Ext.cons | apply Ext.app); done)) ⟨rfl, rfl, rfl, rfl, trivial⟩
    have hap2 := hap d hd4 hpd hdo.cap
    have hl8 := dl_len8r hd4
    simp only [FrC, slV]
    by_cases hX : appX (lgs gs) DD = 0
    · simp only [hX, decide_eq_true (show (0 : Int) = 0 by decide), Bool.true_and, if_pos (show (0 : Int) = 0 by decide)]
      rw [hX] at hap2
      have hdel : ∀ w1, CallM Tryz.prog 74 [.slice (some ⟨b, 0, none⟩) al.length (al.length + j), .int .i64 ap, .int .i64 (ap + 1)] [(b, .cells ⟨fl Ak.v al ++ junk⟩ 164 (0, 0))] w1 fun v L => ∃ ov', OvOk 10 ov' (al.eraseIdx ap).length (fl Ak.v (al.eraseIdx ap)) ∧ v = slV ov' (al.eraseIdx ap).length ∧ L = blkL 164 ov' (fl Ak.v (al.eraseIdx ap)) := fun w1 => adelete_ok b j junk al hov (by omega) ap hf w1
      have hel : (al.eraseIdx ap).length = al.length - 1 := by rw [List.length_eraseIdx, if_pos hf]
      have hem : ∀ a ∈ al.eraseIdx ap, 0 ≤ a.tick ∧ a.tick ≤ 1073741824 := fun a ha => h.tk a ((List.eraseIdx_sublist _ _).subset ha)
      have hgx : (al[ap]?.map Ak.tick).getD 0 = x.tick := by rw [hx]; rfl
      rw [hgx]
      have hl4 : (appL (lgs gs) DD).length = 4 ∨ True := .inr trivial
      have hver := fun gs' hg' w1 hs => versions_ok bs gs' hg' w1 hs
      simp only [lens_I] at hver
      have hcv := fun gs' (hg' : GOk gs') => covc_ok (lensI (lgs gs')) (attV xs) hg'.l4 (attV_len xs)
      generalize hal' : al.eraseIdx ap = al' at *
      generalize appN (lgs gs) DD = N9 at *
      repeat' (first | (apply R.is1; first | (apply R.isBin; (apply R.pure; exact rfl; first | (apply Ok1.add64; exact rfl; exact rfl; omega; omega) | (apply Ok1.neq_f; exact rfl; exact rfl; omega))) | (apply R.isCall; (apply R.callE (Li := [(b, .cells ⟨fl Ak.v al ++ junk⟩ 164 (0, 0))]) (vs := [.slice (some ⟨b, 0, none⟩) al.length (al.length + j), .int .i64 ap, .int .i64 (ap + 1)]); (iterate 3 exact rfl); (focus (repeat' first | exact Ext.one _ _ | apply Ext.cons | apply Ext.app); done); intro w1 hw1; exact hdel w1; rintro v Lo3 ⟨ov2, hov2, rfl, rfl⟩; rw [slV_eq hov2])) | (apply R.pure; exact rfl; first | (apply Ok1.load; exact rfl; (apply Ld.ownrow1 (f := 1); (focus (repeat' first | exact At.head | apply At.tail | apply At.right); done); exact Ak.v_len; exact hx; (focus ((simp; done))); (iterate 3 exact rfl))) | (apply Ok1.move; exact rfl) | (apply Ok1.fieldAddr; (iterate 5 exact rfl)) | (apply Ok1.load; exact rfl; (apply Ld.own1; exact rfl; exact rfl; (focus (repeat' first | exact At.head | apply At.tail | apply At.right); done); exact rfl)) | (apply Ok1.assign; exact rfl) | (apply Ok1.indexAddr; (iterate 5 exact rfl); omega; omega) | (apply Ok1.nilCheck; exact rfl))) | (apply R.is0; (apply R.store; (iterate 6 exact rfl); (focus (repeat' first | exact Upd.head | apply Upd.tail | apply Upd.right); done); exact rfl)) | apply R.nil | (apply T.is; first | (apply T.drawC (id := 15) [0,1] (by decide); ((apply A.tk 0; exact rfl; kernel_rfl; (apply Ok1.move; exact rfl)) <;> (apply A.tk 1; exact rfl; kernel_rfl; (apply Ok1.nilCheck; exact rfl)) <;> (apply A.tk 2; exact rfl; kernel_rfl; (apply Ok1.fieldAddr; (iterate 5 exact rfl))) <;> (apply A.tk 3; exact rfl; kernel_rfl; (apply Ok1.load; exact rfl; (apply Ld.own1; exact rfl; exact rfl; (focus (repeat' first | exact At.head | apply At.tail); done); exact rfl))) <;> (apply A.tk 4; exact rfl; kernel_rfl; (apply Ok1.load; exact rfl; (apply Ld.ownk; exact rfl; exact rfl; exact At.head; exact subE_all hl8))) <;> (apply A.one 5; kernel_rfl; exact rfl; (((apply R.callE (Li := SetL bs gs) (vs := [.pointer (some ⟨bs, 0, none⟩), .agg ⟨dlV d⟩]); (iterate 3 exact rfl); (focus (repeat' first | exact Ext.here _ _ | apply Ext.cons); done); intro w1 hw1; exact hap2 w1 (hdo.rd _ _ _ _ hw1 (Ext.mem (by (focus (repeat' first | exact Ext.all _ | apply Ext.cons | apply Ext.app); done)))) (hdo.off (Li := SetL bs gs) hw1 (by (focus (repeat' first | exact Ext.here _ _ | apply Ext.cons); done)) (Ext.mem (by (focus (repeat' first | exact Ext.all _ | apply Ext.cons); done)))); rintro v Lo2 ⟨gs', rfl, hl', hg', rfl⟩))); apply R.nil; refine ⟨?_, ?_⟩; (focus (repeat' first | exact trivial | exact At.head | apply At.tail | apply At.right | refine ⟨?_, ?_⟩))) <;> (apply A.tk 6; exact rfl; kernel_rfl; (apply Ok1.move; exact rfl)) <;> (apply A.tk 7; exact rfl; kernel_rfl; (apply Ok1.extract; exact rfl; exact rfl)) <;> (apply A.tk 8; exact rfl; kernel_rfl; (apply Ok1.extract; exact rfl; exact rfl)) <;> (apply A.tk 9; exact rfl; kernel_rfl; (apply Ok1.assign; exact rfl)) <;> (apply A.tk 10; exact rfl; kernel_rfl; (apply Ok1.assign; exact rfl)) <;> (apply A.done; kernel_rfl))) | apply T.seq | apply T.region | apply T.skip | (apply T.cond_f; exact rfl)))
      have hsl2 := slV_eq hov2
      have hver2 := hver gs' hg'
      have hcv2 := hcv gs' hg'
      rw [hl'] at hver2 hcv2
      refine T.weakK (σ' := [(0, .pointer (some ⟨bf, 0, none⟩)), (11, .pointer (some ⟨b11, 0, none⟩)), (17, .int .i64 x.tick)]) (L' := (bf, .cells ⟨[.pointer (some ⟨bs, 0, none⟩), .slice (ovp ov2) al'.length (ovc ov2 al'.length), .int .i64 since, .bool is]⟩ 166 (0, 0)) :: (b11, .cells ⟨dgV (attV xs) p8⟩ 70 (0, 0)) :: (SetL bs gs' ++ blkL 164 ov2 (fl Ak.v al'))) ?_ (by (focus (repeat' first | exact Ext.one _ _ | exact Ext.here _ _ | apply Keep.cons | apply Keep.app | apply Keep.last | apply Ext.cons | apply Ext.app); done)) ⟨rfl, rfl, rfl, trivial⟩
      have hds := hDs p8
      generalize attV xs = AV at *
      generalize dgV AV p8 = DG at *
      generalize lensI (appL (lgs gs) DD) = LN at *
      by_cases hC : Cov LN AV
      · simp only [decide_eq_true hC, if_pos hC, Bool.or_true] at hcv2 ⊢
        repeat' (first | (apply R.is1; first | (apply R.isCall; (apply R.pure; exact rfl; (apply Ok1.max2; exact rfl; exact rfl))) | (apply R.pure; exact rfl; first | (apply Ok1.move; exact rfl) | (apply Ok1.fieldAddr; (iterate 5 exact rfl)) | (apply Ok1.load; exact rfl; (apply Ld.own1; exact rfl; exact rfl; exact At.head; exact rfl)) | (apply Ok1.assign; exact rfl) | (apply Ok1.nilCheck; exact rfl))) | (apply R.is0; (apply R.store; (iterate 6 exact rfl); exact Upd.head; exact rfl)) | apply R.nil | (apply T.is; first | (apply T.drawC (id := 20) [0,1] (by decide); ((apply A.tk 0; exact rfl; kernel_rfl; (apply Ok1.move; exact rfl)) <;> (apply A.tk 1; exact rfl; kernel_rfl; (apply Ok1.nilCheck; exact rfl)) <;> (apply A.tk 2; exact rfl; kernel_rfl; (apply Ok1.fieldAddr; (iterate 5 exact rfl))) <;> (apply A.tk 3; exact rfl; kernel_rfl; (apply Ok1.load; exact rfl; (apply Ld.own1; exact rfl; exact rfl; exact At.head; exact rfl))) <;> (apply A.tk 5; exact rfl; kernel_rfl; (apply Ok1.fieldAddr; (iterate 5 exact rfl))) <;> (apply A.tk 6; exact rfl; kernel_rfl; (apply Ok1.load; exact rfl; apply Ld.ownk; exact rfl; exact rfl; (focus (repeat' first | exact At.head | apply At.tail); done); exact hds)) <;> (apply A.one 4; kernel_rfl; exact rfl; (((apply R.callV (vs := [.pointer (some ⟨bs, 0, none⟩)]); (iterate 3 exact rfl); intro w1 hw1; exact hver2 w1 (SetR.of hg' hw1 (Ext.mem (by (focus (repeat' first | exact Ext.here _ _ | apply Ext.cons); done))))))); apply R.nil; refine ⟨?_, ?_⟩; (focus (repeat' first | exact trivial | exact At.head | apply At.tail | refine ⟨?_, ?_⟩))) <;> (apply A.one 7; kernel_rfl; exact rfl; ((apply R.callP rfl rfl rfl hcv2)); apply R.nil; refine ⟨?_, ?_⟩; (focus (repeat' first | exact trivial | exact At.head | apply At.tail | refine ⟨?_, ?_⟩))) <;> (apply A.tk 8; exact rfl; kernel_rfl; (apply Ok1.not_t; exact rfl)) <;> (apply A.done; kernel_rfl))) | apply T.seq | apply T.region | apply T.skip | apply T.ret | (apply T.cond_f; exact rfl)))
        (apply RetOk.tt; exact rfl; exact rfl)
        refine ⟨_, ?_, gs', ov2, rfl, hl', ⟨hg', hov2, (show al'.length ≤ 8 from by omega), hem, (show 0 ≤ max since x.tick ∧ max since x.tick ≤ 1073741824 from by omega)⟩, rfl⟩
        show Keep _ (FL bf bs gs' ov2 al' (max since x.tick) true)
        simp only [FL, FrC, hsl2]
        (focus (repeat' first | exact Ext.one _ _ | exact Ext.here _ _ | exact Ext.all _ | apply Keep.cons | apply Keep.app | apply Keep.last | apply Ext.cons | apply Ext.app); done)
      · simp only [decide_eq_false hC, if_neg hC, Bool.or_false] at hcv2 ⊢
        repeat' (first | (apply R.is1; (apply R.pure; exact rfl; (apply Ok1.assign; exact rfl))) | apply R.nil | (apply T.is; first | (apply T.drawC (id := 20) [0,1] (by decide); ((apply A.tk 0; exact rfl; kernel_rfl; (apply Ok1.move; exact rfl)) <;> (apply A.tk 1; exact rfl; kernel_rfl; (apply Ok1.nilCheck; exact rfl)) <;> (apply A.tk 2; exact rfl; kernel_rfl; (apply Ok1.fieldAddr; (iterate 5 exact rfl))) <;> (apply A.tk 3; exact rfl; kernel_rfl; (apply Ok1.load; exact rfl; (apply Ld.own1; exact rfl; exact rfl; exact At.head; exact rfl))) <;> (apply A.tk 5; exact rfl; kernel_rfl; (apply Ok1.fieldAddr; (iterate 5 exact rfl))) <;> (apply A.tk 6; exact rfl; kernel_rfl; (apply Ok1.load; exact rfl; apply Ld.ownk; exact rfl; exact rfl; (focus (repeat' first | exact At.head | apply At.tail); done); exact hds)) <;> (apply A.one 4; kernel_rfl; exact rfl; (((apply R.callV (vs := [.pointer (some ⟨bs, 0, none⟩)]); (iterate 3 exact rfl); intro w1 hw1; exact hver2 w1 (SetR.of hg' hw1 (Ext.mem (by (focus (repeat' first | exact Ext.here _ _ | apply Ext.cons); done))))))); apply R.nil; refine ⟨?_, ?_⟩; (focus (repeat' first | exact trivial | exact At.head | apply At.tail | refine ⟨?_, ?_⟩))) <;> (apply A.one 7; kernel_rfl; exact rfl; ((apply R.callP rfl rfl rfl hcv2)); apply R.nil; refine ⟨?_, ?_⟩; (focus (repeat' first | exact trivial | exact At.head | apply At.tail | refine ⟨?_, ?_⟩))) <;> (apply A.tk 8; exact rfl; kernel_rfl; (apply Ok1.not_f; exact rfl)) <;> (apply A.done; kernel_rfl))) | apply T.seq | apply T.region | apply T.ret | (apply T.cond_t; exact rfl)))
        (apply RetOk.tt; exact rfl; exact rfl)
        refine ⟨_, ?_, gs', ov2, rfl, hl', ⟨hg', hov2, (show al'.length ≤ 8 from by omega), hem, h.si⟩, rfl⟩
        show Keep _ (FL bf bs gs' ov2 al' since is)
        simp only [FL, FrC, hsl2]
        (focus (repeat' first | exact Ext.one _ _ | exact Ext.here _ _ | exact Ext.all _ | apply Keep.cons | apply Keep.app | apply Keep.last | apply Ext.cons | apply Ext.app); done)
    · simp only [if_neg hX, decide_eq_false hX, Bool.false_and]
      have hL9 : appL (lgs gs) DD = lgs gs := if_neg hX
      rw [hL9] at hap2
      generalize appX (lgs gs) DD = X9 at *
      generalize appN (lgs gs) DD = N9 at *
      repeat' (first | (apply R.is1; first | (apply R.isBin; (apply R.pure; exact rfl; (apply Ok1.neq_t; exact rfl; exact rfl; omega))) | (apply R.pure; exact rfl; first | (apply Ok1.move; exact rfl) | (apply Ok1.assign; exact rfl))) | apply R.nil | (apply T.is; first | (apply T.drawC (id := 15) [0,1] (by decide); ((apply A.tk 0; exact rfl; kernel_rfl; (apply Ok1.move; exact rfl)) <;> (apply A.tk 1; exact rfl; kernel_rfl; (apply Ok1.nilCheck; exact rfl)) <;> (apply A.tk 2; exact rfl; kernel_rfl; (apply Ok1.fieldAddr; (iterate 5 exact rfl))) <;> (apply A.tk 3; exact rfl; kernel_rfl; (apply Ok1.load; exact rfl; (apply Ld.own1; exact rfl; exact rfl; (focus (repeat' first | exact At.head | apply At.tail); done); exact rfl))) <;> (apply A.tk 4; exact rfl; kernel_rfl; (apply Ok1.load; exact rfl; apply Ld.ownk; exact rfl; exact rfl; exact At.head; exact subE_all hl8)) <;> (apply A.one 5; kernel_rfl; exact rfl; (((apply R.callE (Li := SetL bs gs) (vs := [.pointer (some ⟨bs, 0, none⟩), .agg ⟨dlV d⟩]); (iterate 3 exact rfl); (focus (repeat' first | exact Ext.here _ _ | apply Ext.cons); done); intro w1 hw1; exact hap2 w1 (hdo.rd _ _ _ _ hw1 (Ext.mem (by (focus (repeat' first | exact Ext.all _ | apply Ext.cons | apply Ext.app); done)))) (hdo.off (Li := SetL bs gs) hw1 (by (focus (repeat' first | exact Ext.here _ _ | apply Ext.cons); done)) (Ext.mem (by (focus (repeat' first | exact Ext.all _ | apply Ext.cons); done)))); rintro v Lo2 ⟨gs', rfl, hl', hg', rfl⟩))); apply R.nil; refine ⟨?_, ?_⟩; (focus (repeat' first | exact trivial | exact At.head | apply At.tail | apply At.right | refine ⟨?_, ?_⟩))) <;> (apply A.tk 6; exact rfl; kernel_rfl; (apply Ok1.move; exact rfl)) <;> (apply A.tk 7; exact rfl; kernel_rfl; (apply Ok1.extract; exact rfl; exact rfl)) <;> (apply A.tk 8; exact rfl; kernel_rfl; (apply Ok1.extract; exact rfl; exact rfl)) <;> (apply A.tk 9; exact rfl; kernel_rfl; (apply Ok1.assign; exact rfl)) <;> (apply A.tk 10; exact rfl; kernel_rfl; (apply Ok1.assign; exact rfl)) <;> (apply A.done; kernel_rfl))) | apply T.seq | apply T.region | apply T.ret | (apply T.cond_t; exact rfl)))
      (apply RetOk.tt; exact rfl; exact rfl)
      exact ⟨_, by simp only [FL, FrC, slV]; (focus (repeat' first | exact Ext.one _ _ | exact Ext.here _ _ | apply Keep.cons | apply Keep.last | apply Ext.cons | apply Ext.app); done), gs', some (b, j, junk), rfl, hl', ⟨hg', h.ov, h.le, h.tk, h.si⟩, rfl⟩
  · simp only [if_neg hf, if_neg (show ¬ (7 : Int) = 0 by decide), decide_eq_false (show ¬ (7 : Int) = 0 by decide), Bool.false_and] at hfd ⊢
    have hsl := slV_eq hov
    refine enterK (tb := tb) Tryz.func9 rfl Tryz.ntmps9 rfl ?_
    simp only [FL] at *
    repeat' (first | (apply R.is1; first | (apply R.isBin; (apply R.pure; exact rfl; first | (apply Ok1.lss_t; exact rfl; exact rfl; omega) | (apply Ok1.lss_f; exact rfl; exact rfl; omega) | (apply Ok1.neq_f; exact rfl; exact rfl; omega))) | (apply R.isCall; first | apply R.callP rfl rfl rfl hck | (apply R.callE (vs := [.slice (sufP p cap 8 1) 16 (cap - 8)]); (iterate 3 exact rfl); exact Ext.none _; intro w1 hw1; exact hnr w1 hw1.chg; rintro v Lo ⟨br, s, M, rfl, hsx, hse, hso, rfl⟩; obtain ⟨p8, hp8, hrd⟩ := rd_att (by omega) hb hsx hse; rw [if_pos hV] at hrd) | (apply R.callE (Li := s.L br) (vs := [.pointer (some ⟨br, 0, none⟩)]); (iterate 3 exact rfl); (focus ((repeat' (exact Ext.one _ _)); done)); intro w1 hw1; exact hr9 br s w1 (hso.ok hw1 (by (focus ((repeat' (exact Ext.one _ _)); done))) (Ext.mem (by (focus ((repeat' (exact Ext.here _ _)); done))))); rintro v Lo ⟨hv, rfl⟩; rw [hrd] at hv; simp only at hv; subst hv) | (apply R.callE (vs := [.slice (sufP p cap 24 1) (xs.length - 24) (cap - 24)]); (iterate 3 exact rfl); exact Ext.none _; intro w1 hw1; exact hpa2 w1 hw1.chg; rintro v Lo ⟨d, hd4, rfl, hpd, hdo⟩) | (apply R.callV (vs := [.pointer (some ⟨bf, 0, none⟩), .int .i64 seed, .int .i64 tick, .slice p 8 cap]); (iterate 3 exact rfl); intro w1 hw1; exact hfd w1 (hw1.get _ _ (At.mem (by (focus (repeat' first | exact At.head | apply At.tail | apply At.right); done)))) (RdSl.own' hw1 (Ext.mem (by (focus (repeat' first | exact Ext.here _ _ | apply Ext.cons | apply Ext.app); done))) hov Ak.v_len) hw1.chg) | (apply R.pure; exact rfl; (apply Ok1.lenS; (iterate 3 exact rfl)))) | (apply R.pure; exact rfl; first | (apply Ok1.midR (i := 8) (j := 24) (sz := 1); (iterate 7 exact rfl); omega; omega) | (apply Ok1.sufR (sz := 1) (i := 24); (iterate 6 exact rfl); omega; omega) | (apply Ok1.preR (i := 8); (iterate 5 exact rfl); omega) | (apply Ok1.move; exact rfl) | (apply Ok1.assign; exact rfl) | (apply Ok1.extract; exact rfl; exact rfl)) | (apply R.alloc; (iterate 3 exact rfl); intro)) | (apply R.is0; first | (apply R.store; (iterate 4 exact rfl); exact hDl p8 hp8; exact dg_one _ _; exact Upd.head; exact setE_all (by rw [hDl p8 hp8]; rfl)) | (apply R.store; (iterate 4 exact rfl); exact dl_len8r hd4; exact dl_oner d; exact Upd.head; exact setE_all (by rw [dl_len8r hd4]; rfl))) | apply R.nil | (apply T.is; first | apply T.seq | apply T.region | apply T.skip | apply T.ret | (apply T.cond_t; exact rfl) | (apply T.cond_f; exact rfl)))
    (apply RetOk.tt; exact rfl; exact rfl)
    exact ⟨_, by (focus (repeat' first | exact Ext.one _ _ | exact Ext.here _ _ | exact Ext.all _ | apply Keep.cons | apply Keep.app | apply Keep.last | apply Ext.cons | apply Ext.app); done), gs, ov, rfl, rfl, h, rfl⟩
theorem att_read {dr vs p8 : List Int} {dd : List (Int × List Int)} (h8 : dr.length = 8) (hv : vs.length = 4) (hp : p8.length = 8) (hV : VR vs) (hl : dd.length = 4) (hD : DR dd) :
    (dr ++ (encG vs p8 ++ encD dd)).take 8 = dr ∧ 40 ≤ (dr ++ (encG vs p8 ++ encD dd)).length ∧ attV (dr ++ (encG vs p8 ++ encD dd)) = vs ∧ tprs (dr ++ (encG vs p8 ++ encD dd)) = (dd, 0) := by
  have hG := encG_len hv hp
  refine ⟨?_, ?_, ?_, ?_⟩
  · rw [← h8, List.take_left]
  · rw [List.length_append, List.length_append, hG, encD_cnt, hl, h8]; omega
  · rw [attV, ← h8, List.drop_left, ← pairN_take, ← hG, List.take_left]
    have h1 := (enc_read hv hp hV 0).1
    rw [← pairN_take, ← hG, List.take_left] at h1
    exact h1
  · rw [tprs, ← List.append_assoc, show 24 = (dr ++ encG vs p8).length by rw [List.length_append, h8, hG], List.drop_left]
    exact prs_enc ⟨rfl, rfl⟩ hl hD
def ls0 : List (List Int) := [[], [], [], []]
theorem ls0_ok : LOk ls0 := by
  intro xs hx
  have : xs = [] := by simpa [ls0] using hx
  subst this
  exact ⟨fun _ h => (nomatch h), List.nodup_nil, by decide⟩
theorem known17_ok (w : World) : CallW Tryz.prog 12 [] w fun v _ => v = .bool true := by
  have hnw := fun w1 => fnew_ok w1
  have hrn := fun w1 => rnew_ok w1
  have hask := fun bf bs gs h w1 => fask_ok bf bs gs none [] 0 false h 1 5 [7, 0, 0, 0, 0, 0, 0, 0] rfl w1
  have hby : ∀ x ∈ [(7 : Int), 0, 0, 0, 0, 0, 0, 0, 0, 0, 0, 0, 0, 0, 0, 0], 0 ≤ x ∧ x ≤ 255 := by decide
  have hatt := fun bs p cap n w1 hs hp => fattest_ok bs [lg0, lg0, lg0, lg0] GOk.new ls0_ok p 16 cap [7, 0, 0, 0, 0, 0, 0, 0, 0, 0, 0, 0, 0, 0, 0, 0] rfl n (by decide) (fun y hy => hby y (List.mem_of_mem_drop hy)) 100 (by decide) w1 hs hp
  have hE : attE [7, 0, 0, 0, 0, 0, 0, 0, 0, 0, 0, 0, 0, 0, 0, 0] 100 = 0 := by
    rw [attE, if_neg (by decide), if_neg (fun h => h (show VR [0, 0, 0, 0] by decide)), if_neg (by decide)]
  have hD : attD ls0 [7, 0, 0, 0, 0, 0, 0, 0, 0, 0, 0, 0, 0, 0, 0, 0] 100 = sinD ls0 [0, 0, 0, 0] := by decide
  have hB : attB ls0 [7, 0, 0, 0, 0, 0, 0, 0, 0, 0, 0, 0, 0, 0, 0, 0] 100 = [7, 0, 0, 0, 0, 0, 0, 0] ++ (encG [0, 0, 0, 0] (p8I ls0) ++ encD (sinD ls0 [0, 0, 0, 0])) := by
    rw [attB, if_pos hE, hD]; rfl
  have hVOk : VOk ls0 [0, 0, 0, 0] := by
    intro x hx
    have : x = ([], 0) := by simpa [ls0] using hx
    subst this; decide
  have hDR : DR (sinD ls0 [0, 0, 0, 0]) := sin_dr ls0_ok hVOk
  obtain ⟨r1, r2, r3, r4⟩ := att_read (dr := [7, 0, 0, 0, 0, 0, 0, 0]) (vs := [0, 0, 0, 0]) (p8 := p8I ls0) (dd := sinD ls0 [0, 0, 0, 0]) rfl rfl (p8I_len _) (by decide) rfl hDR
  have hBl : ([7, 0, 0, 0, 0, 0, 0, 0] ++ (encG [0, 0, 0, 0] (p8I ls0) ++ encD (sinD ls0 [0, 0, 0, 0]))).length = 40 := by
    rw [List.length_append, List.length_append, encG_len rfl (p8I_len _)]; rfl
  have hBb : Byt ([7, 0, 0, 0, 0, 0, 0, 0] ++ (encG [0, 0, 0, 0] (p8I ls0) ++ encD (sinD ls0 [0, 0, 0, 0]))) := by
    refine Byt.app (show ∀ x ∈ [(7 : Int), 0, 0, 0, 0, 0, 0, 0], 0 ≤ x ∧ x ≤ 255 by decide) (Byt.app (encG_byt (p8I_byt _)) (encD_byt _))
  generalize hBe : [7, 0, 0, 0, 0, 0, 0, 0] ++ (encG [0, 0, 0, 0] (p8I ls0) ++ encD (sinD ls0 [0, 0, 0, 0])) = B at *
  obtain ⟨a1, a2, a3⟩ := app_whole (ls := ls0) (vs := [0, 0, 0, 0]) rfl ls0_ok hVOk
  have hC : tkxC 1 9 B = 0 := by
    rw [tkxC, if_neg (by decide), if_neg (by omega), r3, if_neg (by decide), r4]
  have hTE : FM.takeE ⟨ls0, [ak 1 5 [7, 0, 0, 0, 0, 0, 0, 0]], 0, false⟩ 1 9 (B.take 8) (tprs B).1 = 0 := by
    rw [r1, r4, FM.takeE, if_pos (by decide)]; exact a1
  have hCv : Cov (lensI ls0) [0, 0, 0, 0] := by decide
  have hTY : FM.takeY ⟨ls0, [ak 1 5 [7, 0, 0, 0, 0, 0, 0, 0]], 0, false⟩ 1 9 (B.take 8) (attV B) (tprs B).1 = true := by
    rw [FM.takeY, hTE, r4, r3]
    simp only [a2]
    rw [decide_eq_true hCv]; rfl
  have hTM : FM.take ⟨ls0, [ak 1 5 [7, 0, 0, 0, 0, 0, 0, 0]], 0, false⟩ 1 9 (B.take 8) (attV B) (tprs B).1 = ⟨ls0, [], 5, true⟩ := by
    rw [FM.take, if_pos hTE, r4, r3, r1]
    simp only [a2, if_pos hCv, decide_eq_true hCv]
    rfl
  have htk : ∀ bf bs gs ov, lgs gs = ls0 → FOk gs ov [ak 1 5 [7, 0, 0, 0, 0, 0, 0, 0]] 0 → ∀ p cap, B.length ≤ cap → ∀ w1, RdSl w1 p u8V B → (B ≠ [] → Off p (blks (FL bf bs gs ov [ak 1 5 [7, 0, 0, 0, 0, 0, 0, 0]] 0 false))) → CallM Tryz.prog 9 [.pointer (some ⟨bf, 0, none⟩), .int .i64 1, .int .i64 9, .slice p B.length cap] (FL bf bs gs ov [ak 1 5 [7, 0, 0, 0, 0, 0, 0, 0]] 0 false) w1 fun v L => ∃ gs' ov', v = .tuple #[.bool true, .int .i64 0] ∧ FOk gs' ov' [] 5 ∧ L = FL bf bs gs' ov' [] 5 true := by
    intro bf bs gs ov hg h p cap hcap w1 hp hoff
    have h9 := ftake_good bf bs gs ov [ak 1 5 [7, 0, 0, 0, 0, 0, 0, 0]] 0 false h 1 9 p cap B hcap (by omega) (fun y hy => hBb y (List.mem_of_mem_drop hy)) w1 hp hoff hC
    rw [hg, hTY, hTE, hTM] at h9
    exact h9.wk fun v L ⟨gs', ov', e1, _, e3, e4⟩ => ⟨gs', ov', e1, e3, e4⟩
  have hask2 : ∀ bf bs gs, lgs gs = ls0 → FOk gs none [] 0 → ∀ w1, CallM Tryz.prog 8 [.pointer (some ⟨bf, 0, none⟩), .int .i64 1, .int .i64 5, .agg ⟨u8s [7, 0, 0, 0, 0, 0, 0, 0]⟩] (FL bf bs gs none [] 0 false) w1 fun v L => ∃ ov' ovb, v = .tuple #[slV ovb 16, .int .i64 0] ∧ OvOk 1 ovb 16 (u8s [7, 0, 0, 0, 0, 0, 0, 0, 0, 0, 0, 0, 0, 0, 0, 0]) ∧ FOk gs ov' [ak 1 5 [7, 0, 0, 0, 0, 0, 0, 0]] 0 ∧ L = FL bf bs gs ov' [ak 1 5 [7, 0, 0, 0, 0, 0, 0, 0]] 0 false ++ blkL 5 ovb (u8s [7, 0, 0, 0, 0, 0, 0, 0, 0, 0, 0, 0, 0, 0, 0, 0]) := by
    intro bf bs gs hg h w1
    have h9 := hask bf bs gs h w1
    rw [hg] at h9
    exact h9
  have hatt2 : ∀ b0 p cap, 16 ≤ cap → ∀ w1, SetR w1 b0 [lg0, lg0, lg0, lg0] → RdSl w1 p u8V [7, 0, 0, 0, 0, 0, 0, 0, 0, 0, 0, 0, 0, 0, 0, 0] → CallM Tryz.prog 11 [.pointer (some ⟨b0, 0, none⟩), .slice p 16 cap, .int .i64 100] [] w1 fun v L => ∃ oc, OvOk 1 oc B.length (u8s B) ∧ v = .tuple #[slV oc B.length, .int .i64 0] ∧ L = blkL 5 oc (u8s B) := by
    intro b0 p cap hcap w1 hs hp
    have h9 := hatt b0 p cap hcap w1 hs hp
    have e : lgs [lg0, lg0, lg0, lg0] = ls0 := rfl
    rw [e, hB, hE] at h9
    exact h9
  have his1 := fun bf bs ov w1 hb => fis_ok bf bs ov 0 5 true 30 25 (by decide) (by decide) w1 hb
  have his2 := fun bf bs ov w1 hb => fis_ok bf bs ov 0 5 true 30 24 (by decide) (by decide) w1 hb
  have b1 : (true && decide ((0 : Int) ≤ 25) && decide ((30 : Int) - 25 ≤ 5)) = true := by decide
  have b2 : (true && decide ((0 : Int) ≤ 24) && decide ((30 : Int) - 24 ≤ 5)) = false := by decide
  rw [b1] at his1
  rw [b2] at his2
  refine enterW (tb := tb) Tryz.func12 rfl Tryz.ntmps12 rfl ?_
  repeat' (first | (apply R.is1; first | (apply R.isBin; (apply R.pure; exact rfl; (apply Ok1.eql_t; exact rfl; exact rfl; omega))) | (apply R.isCall; first | (apply R.callE (vs := [.pointer none]); (iterate 3 exact rfl); exact Ext.none _; intro w1 hw1; exact hnw w1; rintro v Lo ⟨bf, bs, gs, rfl, hg, hfo, rfl⟩; have hk1 := hask2 bf bs gs hg hfo; generalize FL bf bs gs none [] 0 false = F0 at *) | (apply R.callE (vs := []); (iterate 3 exact rfl); exact Ext.none _; intro w1 hw1; exact hrn w1; rintro v Lo ⟨b0, rfl, rfl⟩; have hk2 := @SetR.of b0 [lg0, lg0, lg0, lg0] GOk.new; have hk3 := hatt2 b0; generalize hS0 : SetL b0 [lg0, lg0, lg0, lg0] = S0 at *) | (apply R.callE (Li := F0) (vs := [.pointer (some ⟨bf, 0, none⟩), .int .i64 1, .int .i64 5, .agg ⟨u8s [7, 0, 0, 0, 0, 0, 0, 0]⟩]); (iterate 3 exact rfl); (focus (repeat' first | exact Ext.here _ _ | apply Ext.app); done); intro w1 hw1; exact hk1 w1; rintro v Lo ⟨ov1, ob, rfl, hob, hfo1, rfl⟩; rw [slV_eq hob, List.append_assoc]; have hk4 := htk bf bs gs ov1 hg hfo1; generalize FL bf bs gs ov1 [ak 1 5 [7, 0, 0, 0, 0, 0, 0, 0]] 0 false = F1 at *) | (apply R.callE (vs := [.pointer (some ⟨b0, 0, none⟩), .slice (ovp ob) 16 (ovc ob 16), .int .i64 100]); (iterate 3 exact rfl); exact Ext.none _; intro w1 hw1; exact hk3 (ovp ob) (ovc ob 16) (ovc_le hob) w1 (hk2 hw1 (Ext.mem (by (focus (repeat' first | exact Ext.here _ _ | apply Ext.app); done)))) (rdown (xs := [7, 0, 0, 0, 0, 0, 0, 0, 0, 0, 0, 0, 0, 0, 0, 0]) hob hw1 (Ext.mem (by (focus (repeat' first | exact Ext.here _ _ | apply Ext.app); done)))); rintro v Lo ⟨oc, hoc, rfl, rfl⟩; rw [slV_eq hoc]) | (apply R.callE (Li := F1) (vs := [.pointer (some ⟨bf, 0, none⟩), .int .i64 1, .int .i64 9, .slice (ovp oc) B.length (ovc oc B.length)]); (iterate 3 exact rfl); (focus (repeat' first | exact Ext.here _ _ | apply Ext.app); done); intro w1 hw1; exact hk4 (ovp oc) (ovc oc B.length) (ovc_le hoc) w1 (rdown hoc hw1 (Ext.mem (by (focus ((repeat' (exact Ext.here _ _)); done))))) (fun _ => ovoff hw1 (by (focus (repeat' first | exact Ext.here _ _ | apply Ext.app); done)) (Ext.mem (by (focus ((repeat' (exact Ext.here _ _)); done))))); rintro v Lo ⟨gs2, ov2, rfl, hfo2, rfl⟩; have hk5 : (bf, .cells ⟨FrC bs ov2 0 5 true⟩ 166 (0, 0)) ∈ FL bf bs gs2 ov2 [] 5 true := List.mem_cons_self; generalize FL bf bs gs2 ov2 [] 5 true = F2 at *) | (apply R.callV (vs := [.pointer (some ⟨bf, 0, none⟩), .int .i64 30, .int .i64 25]); (iterate 3 exact rfl); intro w1 hw1; exact his1 _ _ _ w1 (hw1.get _ _ (Ext.mem (s := F2) (by (focus ((repeat' (exact Ext.here _ _)); done))) _ hk5))) | (apply R.callV (vs := [.pointer (some ⟨bf, 0, none⟩), .int .i64 30, .int .i64 24]); (iterate 3 exact rfl); intro w1 hw1; exact his2 _ _ _ w1 (hw1.get _ _ (Ext.mem (s := F2) (by (focus ((repeat' (exact Ext.here _ _)); done))) _ hk5)))) | (apply R.pure; exact rfl; first | (apply Ok1.move; exact rfl) | (apply Ok1.assign; exact rfl) | (apply Ok1.extract; exact rfl; exact rfl) | (apply Ok1.pick_t; exact rfl; exact rfl) | (apply Ok1.not_f; exact rfl) | (apply Ok1.buildA; (iterate 6 exact rfl)))) | (apply R.isG; (apply R.guard_run; exact rfl; exact rfl)) | apply R.nil | (apply T.is; first | apply T.seq | apply T.region | apply T.ret))
  (apply RetOk.t; exact rfl)
  rfl
theorem fcheck_nil (seed tick : Int) : CallP Tryz.prog 65 [.pointer none, .int .i64 seed, .int .i64 tick] (.int .i64 11) := by
  refine enterP (tb := tb) Tryz.func65 rfl Tryz.ntmps65 rfl fun w => ?_
  repeat' (first | (apply R.is1; first | (apply R.isBin; (apply R.pure; exact rfl; (apply Ok1.eqlP; (iterate 5 exact rfl)))) | (apply R.pure; exact rfl; first | (apply Ok1.move; exact rfl) | (apply Ok1.assign; exact rfl))) | apply R.nil | (apply T.is; first | apply T.seq | apply T.region | apply T.block | apply T.ret | (apply T.cond_t; exact rfl)))
  all_goals (apply RetOk.t; exact rfl)
  all_goals rfl
theorem fask_nil (seed tick : Int) (dv : List Value) (hl : dv.length = 8) : CallP Tryz.prog 8 [.pointer none, .int .i64 seed, .int .i64 tick, .agg ⟨dv⟩] (.tuple #[.slice none 0 0, .int .i64 11]) := by
  have hck := fcheck_nil seed tick
  refine enterP (tb := tb) Tryz.func8 rfl Tryz.ntmps8 rfl fun w => ?_
  repeat' (first | (apply R.is1; first | (apply R.isBin; (apply R.pure; exact rfl; (apply Ok1.neq_t; exact rfl; exact rfl; omega))) | (apply R.isCall; apply R.callP rfl rfl rfl hck) | (apply R.pure; exact rfl; first | (apply Ok1.move; exact rfl) | (apply Ok1.load; exact rfl; (apply Ld.own1; exact rfl; exact rfl; (focus (repeat' first | exact At.head | apply At.tail); done); exact rfl)) | (apply Ok1.assign; exact rfl)) | (apply R.box; (iterate 3 exact rfl); intro)) | apply R.nil | (apply T.is; first | apply T.seq | apply T.region | apply T.ret | (apply T.cond_t; exact rfl)))
  all_goals (apply RetOk.tt; exact rfl; exact rfl)
  all_goals rfl
theorem ftake_nil (seed tick : Int) (p : Option Addr) (n cap : Nat) : CallP Tryz.prog 9 [.pointer none, .int .i64 seed, .int .i64 tick, .slice p n cap] (.tuple #[.bool false, .int .i64 11]) := by
  have hck := fcheck_nil seed tick
  refine enterP (tb := tb) Tryz.func9 rfl Tryz.ntmps9 rfl fun w => ?_
  repeat' (first | (apply R.is1; first | (apply R.isBin; (apply R.pure; exact rfl; (apply Ok1.neq_t; exact rfl; exact rfl; omega))) | (apply R.isCall; apply R.callP rfl rfl rfl hck) | (apply R.pure; exact rfl; first | (apply Ok1.move; exact rfl) | (apply Ok1.assign; exact rfl))) | apply R.nil | (apply T.is; first | apply T.seq | apply T.region | apply T.ret | (apply T.cond_t; exact rfl)))
  all_goals (apply RetOk.tt; exact rfl; exact rfl)
  all_goals rfl
theorem fsince_nil : CallP Tryz.prog 10 [.pointer none] (.tuple #[.int .i64 0, .bool false]) := by
  refine enterP (tb := tb) Tryz.func10 rfl Tryz.ntmps10 rfl fun w => ?_
  repeat' (first | (apply R.is1; first | (apply R.isBin; (apply R.pure; exact rfl; (apply Ok1.eqlP; (iterate 5 exact rfl)))) | (apply R.pure; exact rfl; first | (apply Ok1.move; exact rfl) | (apply Ok1.assign; exact rfl))) | apply R.nil | (apply T.is; first | apply T.seq | apply T.region | apply T.ret | (apply T.cond_t; exact rfl)))
  all_goals (apply RetOk.tt; exact rfl; exact rfl)
  all_goals rfl
theorem fis_nil (tick within : Int) : CallP Tryz.prog 13 [.pointer none, .int .i64 tick, .int .i64 within] (.bool false) := by
  have h := fsince_nil
  refine enterP (tb := tb) Tryz.func13 rfl Tryz.ntmps13 rfl fun w => ?_
  repeat' (first | (apply R.is1; first | (apply R.isCall; apply R.callP rfl rfl rfl h) | (apply R.pure; exact rfl; first | (apply Ok1.move; exact rfl) | (apply Ok1.assign; exact rfl) | (apply Ok1.extract; exact rfl; exact rfl) | (apply Ok1.pick_f; exact rfl; exact rfl))) | (apply R.isG; (apply R.guard_not; (iterate 3 exact rfl))) | apply R.nil | (apply T.is; first | apply T.seq | apply T.region | apply T.ret))
  all_goals (apply RetOk.t; exact rfl)
  all_goals rfl
theorem fset_nil : CallP Tryz.prog 14 [.pointer none] (.pointer none) := by
  refine enterP (tb := tb) Tryz.func14 rfl Tryz.ntmps14 rfl fun w => ?_
  repeat' (first | (apply R.is1; first | (apply R.isBin; (apply R.pure; exact rfl; (apply Ok1.eqlP; (iterate 5 exact rfl)))) | (apply R.pure; exact rfl; first | (apply Ok1.move; exact rfl) | (apply Ok1.assign; exact rfl))) | apply R.nil | (apply T.is; first | apply T.seq | apply T.region | apply T.ret | (apply T.cond_t; exact rfl)))
  all_goals (apply RetOk.t; exact rfl)
  all_goals rfl
theorem fopen_nil (tick : Int) : CallP Tryz.prog 15 [.pointer none, .int .i64 tick] (.int .i64 0) := by
  refine enterP (tb := tb) Tryz.func15 rfl Tryz.ntmps15 rfl fun w => ?_
  repeat' (first | (apply R.is1; first | (apply R.isBin; (apply R.pure; exact rfl; (apply Ok1.eqlP; (iterate 5 exact rfl)))) | (apply R.pure; exact rfl; first | (apply Ok1.move; exact rfl) | (apply Ok1.assign; exact rfl))) | apply R.nil | (apply T.is; first | apply T.seq | apply T.region | apply T.ret | (apply T.cond_t; exact rfl)))
  all_goals (apply RetOk.t; exact rfl)
  all_goals rfl
theorem fattest_nil (p : Option Addr) (n cap : Nat) (room : Int) : CallP Tryz.prog 11 [.pointer none, .slice p n cap, .int .i64 room] (.tuple #[.slice none 0 0, .int .i64 11]) := by
  refine enterP (tb := tb) Tryz.func11 rfl Tryz.ntmps11 rfl fun w => ?_
  repeat' (first | (apply R.is1; first | (apply R.isBin; (apply R.pure; exact rfl; (apply Ok1.eqlP; (iterate 5 exact rfl)))) | (apply R.pure; exact rfl; first | (apply Ok1.move; exact rfl) | (apply Ok1.assign; exact rfl))) | apply R.nil | (apply T.is; first | apply T.seq | apply T.region | apply T.block | apply T.ret | (apply T.cond_t; exact rfl)))
  all_goals (apply RetOk.tt; exact rfl; exact rfl)
  all_goals rfl
theorem freshNil_ok (seed tick : Int) (p : Option Addr) (n cap : Nat) (w : World) : CallW Tryz.prog 3 [.int .i64 seed, .int .i64 tick, .slice p n cap] w fun v _ => v = .bool true := by
  have hk := fun w1 => known17_ok w1
  have h1 := fask_nil seed tick [.int .u8 0, .int .u8 0, .int .u8 0, .int .u8 0, .int .u8 0, .int .u8 0, .int .u8 0, .int .u8 0] rfl
  have h2 := ftake_nil seed tick p n cap
  have h3 := fsince_nil
  have h4 := fattest_nil p n cap tick
  have h5 := fis_nil tick tick
  have h6 := fset_nil
  have h7 := fopen_nil tick
  refine enterW (tb := tb) Tryz.func3 rfl Tryz.ntmps3 rfl ?_
  repeat' (first | (apply R.is1; first | (apply R.isBin; (apply R.pure; exact rfl; first | (apply Ok1.eql_t; exact rfl; exact rfl; omega) | (apply Ok1.eqlP; (iterate 5 exact rfl)))) | (apply R.isCall; first | apply R.callP rfl rfl rfl h1 | apply R.callP rfl rfl rfl h2 | apply R.callP rfl rfl rfl h3 | apply R.callP rfl rfl rfl h4 | apply R.callP rfl rfl rfl h5 | apply R.callP rfl rfl rfl h6 | apply R.callP rfl rfl rfl h7 | (apply R.callV (vs := []); (iterate 3 exact rfl); intro w1 hw1; exact hk w1)) | (apply R.pure; exact rfl; first | (apply Ok1.move; exact rfl) | (apply Ok1.assign; exact rfl) | (apply Ok1.extract; exact rfl; exact rfl) | (apply Ok1.pick_t; exact rfl; exact rfl) | (apply Ok1.not_f; exact rfl) | (apply Ok1.buildA; (iterate 6 exact rfl)))) | (apply R.isG; (apply R.guard_run; exact rfl; exact rfl)) | apply R.nil | (apply T.is; first | apply T.seq | apply T.region | apply T.ret))
  all_goals (apply RetOk.t; exact rfl)
  all_goals rfl
end Go.Proofs.YtolnagbahceebaaGreat
set_option linter.unusedSimpArgs false
set_option linter.unusedVariables false
set_option linter.unusedSectionVars false
namespace Go.Proofs.YtolnagbahceebaaGreat
open Go.RowKit Go.Shelf Go.ChangeShapes Go.WideShapes Go.Deep
/-- A cell of this kind, within its range. -/
def cellW : TK → Value → Prop
  | .int k, .int k' n => k' = k ∧ k.min ≤ n ∧ n ≤ k.max
  | .bool, .bool _ => True
  | .string, .string s => s.size ≤ maxLen
  | _, _ => False
def allW : List TK → List Value → Prop
  | [], [] => True
  | k :: ks, v :: vs => cellW k v ∧ allW ks vs
  | _, _ => False
theorem allW_append : ∀ {ks ls : List TK} {vs : List Value}, allW ks (vs.take ks.length) → allW ls (vs.drop ks.length) → allW (ks ++ ls) vs
  | [], ls, vs, _, h => by simpa using h
  | k :: ks, ls, [], h, _ => by simp [allW] at h
  | k :: ks, ls, v :: vs, h, h2 => by
    simp only [List.length_cons, List.take_succ_cons, List.drop_succ_cons, allW] at h h2
    exact ⟨h.1, allW_append h.2 h2⟩

section
variable {H : Type} {enc : TypeId × Value → H} {P : Program} {w : World} {base : Nat} {spare : Nat → Bool} {held : Bool}
theorem cells_of (w : World) {t sz : Nat} (h : ∀ w, (Go.sizeOf t).run P w = .ok sz w) : P.cellsOf t = sz := by
  have := h w
  simp only [Go.sizeOf, typeInfo, Sem.run_bind, Sem.run_pure] at this
  unfold Program.cellsOf
  cases hi : P.info? t with
  | none => simp [hi] at this
  | some i => simp [hi] at this; simp [this]
theorem trodFs {g : Nat → Option (List TK)} {n : Nat} {cs : List Value} (hg : ∀ t ks us x, g t = some ks → P.cellsOf t = ks.length → DataW.trod enc P w base spare held n t us = some x → allW ks us) :
    ∀ (fields : List Field) (fs : List (Nat × Nat × Nat)) (k : Nat) (ks : List TK), Flds P fields fs → flatFs g fs k = some ks → cs.length = k + ks.length → (∀ f ∈ fields, ∃ x, DataW.trod enc P w base spare held n f.type ((cs.drop f.offset).take (P.cellsOf f.type)) = some x) → allW ks (cs.drop k)
  | [], [], k, ks, _, h, hl, _ => by
    simp only [flatFs, Option.some.injEq] at h
    subst h
    rw [List.drop_eq_nil_of_le (by simp at hl; omega)]
    trivial
  | [], _ :: _, _, _, h, _, _, _ => h.elim
  | _ :: _, [], _, _, h, _, _, _ => h.elim
  | f :: fields, (t, off, sz) :: fs, k, ks, hF, h, hl, hx => by
    obtain ⟨e1, e2, e3, e4, e5⟩ := hF
    simp only [flatFs] at h
    split at h
    · cases h
    · rename_i hb
      have hb' := Nat.eq_of_beq_eq_true hb
      split at h
      · cases h
      · rename_i k1 hk1
        split at h
        · cases h
        · rename_i hl1
          have hl1' := Nat.eq_of_beq_eq_true hl1
          split at h
          · cases h
          · rename_i k2 hk2
            cases h
            obtain ⟨x, hx1⟩ := hx f List.mem_cons_self
            have hsz := cells_of w e3
            rw [e1, e2, hsz, hb'] at hx1
            have h1 := hg t k1 _ x hk1 (by rw [hsz, hl1']) hx1
            have h2 := trodFs hg fields fs (k + sz) k2 e5 hk2 (by rw [hl, List.length_append, hl1']; omega) fun f' hf' => hx f' (List.mem_cons_of_mem _ hf')
            refine allW_append (by rw [hl1']; exact h1) ?_
            rw [List.drop_drop, hl1']; exact h2
theorem allW_rep {k1 : List TK} : ∀ (m : Nat) (cs : List Value), cs.length = m * k1.length → (∀ i, i < m → allW k1 ((cs.drop (i * k1.length)).take k1.length)) → allW (repK k1 m) cs
  | 0, cs, hl, _ => by
    have : cs = [] := by cases cs; rfl; simp at hl
    subst this; trivial
  | m + 1, cs, hl, h => by
    have h0 := h 0 (by omega)
    simp only [Nat.zero_mul, List.drop_zero] at h0
    rw [Nat.add_mul] at hl
    refine allW_append h0 (allW_rep m _ (by rw [List.length_drop, hl]; omega) fun i hi => ?_)
    have := h (i + 1) (by omega)
    rwa [List.drop_drop, show k1.length + i * k1.length = (i + 1) * k1.length by rw [Nat.add_mul]; omega]
theorem trod_flat (tb : Tb P) : ∀ (n t : Nat) (ks : List TK), flatE tb n t = some ks → P.cellsOf t = ks.length → ∀ fuel cs x, DataW.trod enc P w base spare held fuel t cs = some x → allW ks cs
  | 0, _, _, h, _, _, _, _, _ => by cases h
  | n + 1, t, ks, h, hlen, fuel, cs, x, hx => by
    simp only [flatE] at h
    split at h
    · cases h
    · rename_i r hr
      have hgd := tb.get hr
      have his := hgd.is
      split at h
      · rename_i k hk
        rw [hk] at his
        cases h
        obtain ⟨m, rfl, _, hwf⟩ := DataW.trod_int his hx
        simp only [Lit.wf, Bool.and_eq_true, decide_eq_true_eq] at hwf
        exact ⟨⟨rfl, hwf⟩, trivial⟩
      · rename_i hk
        rw [hk] at his
        cases h
        obtain ⟨b, rfl, _⟩ := DataW.trod_bool his hx
        exact ⟨trivial, trivial⟩
      · rename_i hk
        rw [hk] at his
        cases h
        obtain ⟨s, rfl, _, hs⟩ := DataW.trod_string his hx
        exact ⟨hs, trivial⟩
      · rename_i fs hk
        rw [hk] at his
        obtain ⟨fields, h1, h2⟩ := his
        obtain ⟨xs, m, rfl, _, hcl, hxl, hf⟩ := DataW.trod_struct h1 hx
        have := trodFs (cs := cs) (n := m) (fun t ks us x hg hc ht => trod_flat tb n t ks hg hc m us x ht) fields.toList fs 0 ks h2 h (by rw [hcl, hlen]; omega) fun f hf' => by
          obtain ⟨i, hi, he⟩ := List.getElem_of_mem hf'
          have h3 : fields[i]? = some f := by rw [← he]; simp at hi; simp [hi]
          have h4 := hf i f h3
          simp at hi
          rw [List.getElem?_eq_getElem (by omega)] at h4
          exact ⟨_, h4⟩
        simpa using this
      · rename_i mm e hk
        rw [hk] at his
        split at h
        · cases h
        · rename_i re hre
          split at h
          · cases h
          · rename_i k1 hk1
            split at h
            · cases h
            · rename_i hl1
              have hl1' := Nat.eq_of_beq_eq_true hl1
              cases h
              obtain ⟨xs, m, rfl, _, hcl, hxl, hf⟩ := DataW.trod_array his hx
              have hce : P.cellsOf e = k1.length := by rw [cells_of w (tb.get hre).size, hl1']
              refine allW_rep mm cs (by rw [hcl, hlen, repK_len]) fun i hi => ?_
              have h4 := hf i hi
              rw [hce, List.getElem?_eq_getElem (by omega)] at h4
              exact trod_flat tb n e k1 hk1 hce m _ _ h4
      · cases h

/-- A slice of plain rows that came in. -/
theorem open_rows {α : Type} [Inhabited α] (f : α → List Value) (tb : Tb P) {t e : TypeId} {r re : TRow} {ks : List TK} {v : Value} {d : DataW H} {p : List MemPlace} (ht : tb.row t = some r) (hk : r.k = .slice e) (he : tb.row e = some re) (hf : flatE tb 8 e = some ks) (hl : Nat.beq ks.length re.size = true) (hpos : Nat.ble 1 ks.length = true)
    (hlen : ∀ a, (f a).length = ks.length) (dec : ∀ cs, allW ks cs → ∃ a, f a = cs)
    {rc : Reach} {b0 : Nat} (hv : Value.okWide P w rc b0 t v) (h : DataW.Trod enc P w base spare held t v d p) :
    ∃ (a : Option Addr) (rs : List α) (cap : Nat), v = .slice a rs.length cap ∧ RdSl w a f rs ∧ rs.length ≤ cap ∧ cap ≤ maxLen ∧ (∀ x ∈ rs, allW ks (f x)) ∧ (a = none → cap = 0) := by
  have hu : P.underlying t = some (.slice e) := by have := (tb.get ht).is; rw [hk] at this; exact this
  obtain ⟨a0, len0, cap0, rfl⟩ := okWide_slice hu hv
  obtain ⟨fuel, hfu⟩ := h
  have hce : P.cellsOf e = ks.length := by rw [cells_of w (tb.get he).size, Nat.eq_of_beq_eq_true hl]
  rcases open_slice hu hfu with ⟨h0, _⟩ | ⟨a, len, cap, m, n, D, Pl, hcs, hb, hlc, hm, hmm, hx, hi⟩
  · have : a0 = none ∧ len0 = 0 ∧ cap0 = 0 := by simpa [Value.cells] using h0
    obtain ⟨rfl, rfl, rfl⟩ := this
    exact ⟨none, [], 0, rfl, .inl rfl, by simp, by simp, by simp, fun _ => rfl⟩
  · have : a0 = some a ∧ len0 = len ∧ cap0 = cap := by simpa [Value.cells] using hcs
    obtain ⟨rfl, rfl, rfl⟩ := this
    have hle : len0 ≤ m := by rw [hmm]; split <;> omega
    obtain ⟨R, hR⟩ := choose_lt (α := α) (p := fun i x => w.cells? base (a.add (i * P.cellsOf e)) (P.cellsOf e) = some (f x) ∧ allW ks (f x)) (n := len0) (fun i hi' => by
      obtain ⟨cs', h1, h2⟩ := hi i (by omega)
      have h3 := trod_flat tb 8 e ks hf hce _ _ _ h2
      obtain ⟨x, hx⟩ := dec cs' h3
      exact ⟨x, by rw [hx]; exact h1, by rw [hx]; exact h3⟩)
    have hrl : ((List.range len0).map R).length = len0 := by simp
    refine ⟨some a, (List.range len0).map R, cap0, by rw [hrl], ?_, by rw [hrl]; exact hlc, hm, ?_, fun h => by cases h⟩
    · by_cases hz : len0 = 0
      · left; simp [hz]
      · right
        have hpos' := Nat.le_of_ble_eq_true hpos
        have hspot : a.spot = none := by
          obtain ⟨_, h2, h3⟩ := World.cells?_some (hR 0 (by omega)).1
          have h4 := h3 0 (by omega)
          rw [List.getElem?_eq_getElem (by omega)] at h4
          unfold World.cell? at h4
          cases a with | mk b o s =>
          cases s with
          | none => rfl
          | some s => 
            simp only [Addr.add] at h4
            split at h4
            · simp at h4
            · cases h4
        cases a with | mk b o s =>
        simp only at hspot
        subst hspot
        refine ⟨b, o, rfl, fun k hk' => ?_⟩
        rw [fl_len hlen, hrl] at hk'
        have hdm := Nat.div_add_mod k ks.length
        have hml := Nat.mod_lt k (show 0 < ks.length by omega)
        have hil : k / ks.length < len0 := by rw [Nat.div_lt_iff_lt_mul (by omega)]; exact hk'
        have hgi : ((List.range len0).map R)[k / ks.length]? = some (R (k / ks.length)) := by simp [hil]
        have h5 := fl_get hlen hgi hml
        rw [show k / ks.length * ks.length + k % ks.length = k by rw [Nat.mul_comm]; exact hdm] at h5
        rw [h5]
        obtain ⟨_, h2, h3⟩ := World.cells?_some (hR _ hil).1
        have h4 := h3 (k % ks.length) (by rw [hce]; exact hml)
        rw [Addr.add_none, Addr.add_none, hce] at h4
        rw [← h4, show o + k / ks.length * ks.length + k % ks.length = o + k by rw [Nat.add_assoc, show k / ks.length * ks.length + k % ks.length = k by rw [Nat.mul_comm]; exact hdm]]
    · intro x hx'
      obtain ⟨i, hi', rfl⟩ := List.mem_map.1 hx'
      exact (hR i (List.mem_range.1 hi')).2

/-- The arguments read behind the call as before: nothing that was there has changed. -/
theorem trodAll_stays {W W' : World} (hl : laidOutB P = true) (hb : Below W.heap.size W W') {sp : Nat → Bool} : ∀ {ts : List TypeId} {vs : List Value} {ds : List (DataW H)} {ps : List MemPlace}, (∀ t ∈ ts, P.readableRec t = true ∧ t < P.types.size) →
    DataW.TrodAll enc P W 0 (fun _ => true) true ts vs ds ps → (∀ p ∈ ps, p.block < W.heap.size ∧ sp p.block = true) → DataW.TrodAll enc P W' 0 sp true ts vs ds ps
  | [], vs, ds, ps, _, h, _ => by
    obtain ⟨rfl, rfl, rfl⟩ := trodAll_nil h
    exact trodAll_mk0
  | t :: ts, vs, ds, ps, hr, h, hp => by
    obtain ⟨v, vs', d, ds', p, q, rfl, rfl, rfl, h1, h2⟩ := trodAll_cons h
    have g := hr t List.mem_cons_self
    exact ⟨p, q, WideElems.Trod_stays hl g.1 g.2 h1 (fun x hx => hb.same (hp x (List.mem_append_left _ hx)).1) (fun x hx => (hp x (List.mem_append_left _ hx)).2),
      trodAll_stays hl hb (fun t' ht' => hr t' (List.mem_cons_of_mem _ ht')) h2 (fun x hx => hp x (List.mem_append_right _ hx)), rfl⟩
/-- A statement's last step: it returned true, and nothing that was there has changed. -/
theorem law_post {f : Func} {s : ChangeSpec} {apart fresh handsOn again : Bool} {W W' : World} {args : Array Value} {ds gs : List (DataW H)} {before : List MemPlace} {tt : TypeId}
    (hW : DataW.Whole enc P f.params.toList s.vars apart W args.toList ds gs before) (hv : s.vars = []) (hfn : s.fn H ds = { results := [.lit (.bool true)], args := ds, vars := [] })
    (hrt : f.resultTypes = #[tt]) (htt : P.underlying tt = some .bool) (hl : laidOutB P = true) (hread : ∀ t ∈ f.params.toList, P.readableRec t = true ∧ t < P.types.size) (hb : Below W.heap.size W W') :
    s.post enc P f apart fresh handsOn again W args (.bool true) W' := by
  have hlt : ∀ p ∈ before, p.block < W.heap.size := fun p hp => hW.lt p hp
  obtain ⟨p, q, hA, hV, rfl, hz, hn⟩ := hW
  have hV' := hV
  rw [hv] at hV'
  obtain ⟨rfl, rfl⟩ := trodVars_none hV'
  rw [List.append_nil] at hlt hz hn
  have key : ∀ sp : Nat → Bool, (∀ x ∈ p, sp x.block = true) → DataW.TrodAll enc P W' 0 sp true f.params.toList args.toList ds p := fun sp hs => trodAll_stays hl hb hread hA fun x hx => ⟨hlt x hx, hs x hx⟩
  have hres : ∀ (b : Nat) (sp : Nat → Bool) (hd : Bool), DataW.TrodAll enc P W' b sp hd f.resultTypes.toList ((Value.bool true).resultList f.resultTypes.size) [.lit (.bool true)] [] := fun b sp hd => by
    rw [hrt]; exact trodAll_mk1 (shut_bool htt true)
  refine ⟨ds, [], p, [], p, [], ⟨p, [], hA, hV, by simp, hz, hn⟩, ?_, ?_, ?_, World.keptBut_mono (fun x hx => ⟨hx, .inr (.inl hx)⟩) (hb.frame (· ∈ p)), fun _ => ⟨?_, ?_⟩⟩
  · rw [List.append_nil, hfn]; exact hres _ _ _
  · rw [List.append_nil, hfn]; exact key _ fun x hx => by simpa using hlt x hx
  · rw [List.append_nil, hfn, hv]; rfl
  · exact ok_one hrt rfl (okWide_bool_mk htt true)
  · refine ⟨.lit (.bool true) :: ds, [], p, ⟨p, [], ?_, by rw [hv]; rfl, by simp, ?_, hn⟩, fun x hx _ => hx⟩
    · rw [hrt]
      exact ⟨[], p, shut_bool htt true, key _ fun _ _ => rfl, rfl⟩
    · intro b off hx
      rw [hb.frozen (hlt _ hx)]
      exact hz b off hx
end
end Go.Proofs.YtolnagbahceebaaGreat
set_option linter.unusedSimpArgs false
set_option linter.unusedVariables false
namespace Go.Proofs.YtolnagbahceebaaGreat
open Go.ChangeShapes Go.WideShapes Go.ChangeAt Go.RowKit
theorem ownJ : ownKnob Tryz.prog.godebug = none := by kernel_rfl
theorem laidJ : laidOutB Tryz.prog = true := by kernel_rfl
theorem and_tt {a b : Bool} (h1 : a = true) (h2 : b = true) : (a && b) = true := by rw [h1, h2]; rfl
theorem joined_of {P : Program} {f : FuncId} {fn : Func} {s : ChangeSpec} {c : OpenClaim} (k0 : (c.wf (OpenSpec.ofChange s)) = true) (k1 : (laidOutB P) = true) (k2 : (mapsRowed P) = true) (k3 : (fn.params.all (P.readableRec ·)) = true) (k4 : (namedTie P c.named s.vars) = true) (k5 : (c.stops == []) = true) (k6 : (P.stops == []) = true) (k7 : (c.knobs == []) = true) (k8 : (P.stopKnobs == []) = true) (k9 : (c.inPlace == P.inPlace f) = true) (k10 : (c.unfollowed == P.unfollowed f) = true) (k11 : (c.recurses == P.recurses f) = true) (k12 : (c.named == P.varsNamed f) = true) (k13 : (c.maps == (fn.params.toList ++ s.plain.varTypes P).any (P.mapsRec ·)) = true) (k14 : (c.ifaces == (fn.params.toList ++ s.plain.varTypes P).any (P.ifacesRec ·)) = true) (k15 : (c.mapsOut == P.mapsAmong fn.resultTypes.toList) = true) (k16 : (c.loops == (fn.params.toList ++ s.plain.varTypes P).any (P.loopsFrom ·)) = true) (k17 : (c.wideKeys == (fn.params.toList ++ s.plain.varTypes P ++ fn.resultTypes.toList).any (P.wideKeysFrom ·)) = true) (k18 : (s.vars.all (P.varReadable ·)) = true) (k19 : (fn.resultTypes.all (fun t => P.readableRec t && decide (t < P.types.size))) = true) (k20 : (c.ifacesOut == fn.resultTypes.toList.any (P.ifacesRec ·)) = true) (k21 : (c.loopsOut == fn.resultTypes.toList.any (P.loopsFrom ·)) = true) (k22 : (c.plainKeys == P.plainKeys) = true) (k23 : (c.shortTexts.isNone) = true) (k24 : (P.stopsHeard) = true) (k25 : (P.mayEnter) = true) (k26 : (c.lifted == P.liftsFinal) = true) (k27 : (P.make == some c.make) = true) (k28 : (c.kinds == (if c.domain.isEmpty then [] else fn.params.toList.map fun t => match P.underlying t with | some (.int k) => some k | _ => none)) = true) (k29 : (c.pinned == c.pinnedBy) = true) (k30 : (c.veiled == (fn.params.toList ++ s.plain.varTypes P ++ fn.resultTypes.toList).any (P.veiledRec ·)) = true) (k31 : (c.veiledFits P fn.params.toList (fn.params.toList ++ s.plain.varTypes P ++ fn.resultTypes.toList)) = true) : joinedFacts P f fn s c = true := by
  unfold joinedFacts
  exact and_tt (and_tt (and_tt (and_tt (and_tt (and_tt (and_tt (and_tt (and_tt (and_tt (and_tt (and_tt (and_tt (and_tt (and_tt (and_tt (and_tt (and_tt (and_tt (and_tt (and_tt (and_tt (and_tt (and_tt (and_tt (and_tt (and_tt (and_tt (and_tt (and_tt (and_tt (k0) k1) k2) k3) k4) k5) k6) k7) k8) k9) k10) k11) k12) k13) k14) k15) k16) k17) k18) k19) k20) k21) k22) k23) k24) k25) k26) k27) k28) k29) k30) k31
def byKsJ : List TK := [.int .u8]
theorem by_decJ : ∀ cs, allW byKsJ cs → ∃ x : Int, u8V x = cs := by
  rintro cs h
  simp only [byKsJ] at h
  match cs, h with
  | [.int k1 a], h =>
    obtain ⟨⟨rfl, _⟩, _⟩ := h
    exact ⟨a, rfl⟩
end Go.Proofs.YtolnagbahceebaaGreat
