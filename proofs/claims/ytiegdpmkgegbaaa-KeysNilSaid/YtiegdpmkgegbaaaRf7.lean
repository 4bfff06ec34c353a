/- The document's mac: filled, Tag. -/
import Derived.Test.YtiegdpmkgegbaaaRf2
set_option linter.unusedSimpArgs false
set_option linter.unusedVariables false
namespace Go.Proofs.Ytiegdpmkgegbaaa
open Go.RowKit Go.Shelf
set_option maxRecDepth 100000

theorem tab_len : tabV.length = 72 := rfl
theorem at_get {a : List Int} {v : Int} {r : List Value} {i : Nat} {j : Int} (hl : a.length = i) (hj : j = i) : (u8s a ++ .int .u8 v :: r)[0 + j.toNat * 1]? = some (.int .u8 v) := by
  subst hl hj
  rw [show 0 + ((a.length : Nat) : Int).toNat * 1 = (u8s a).length by rw [u8s_len]; omega, List.getElem?_append_right (Nat.le_refl _), Nat.sub_self]
  rfl
theorem at_put {a : List Int} {v x : Int} {r : List Value} {i : Nat} {j : Int} (hl : a.length = i) (hj : j = i) : setE (u8s a ++ .int .u8 v :: r) (0 + j.toNat * 1) [.int .u8 x] = some (u8s a ++ .int .u8 x :: r) := by
  subst hl hj
  rw [show 0 + ((a.length : Nat) : Int).toNat * 1 = (u8s a).length by rw [u8s_len]; omega, setE_mid _ (by simp)]
  simp
/-- Bytes that can be read in each world in which the blocks ex are as they are told. -/
def RdX (w : World) (p : Option Addr) (ex : Lst) (k : List Int) : Prop := k = [] ∨ ∃ b o, p = some ⟨b, o, none⟩ ∧ ∀ w1 L1, Hp w [] L1 w1 → (∀ z ∈ ex, z ∈ L1) → ∀ (i : Nat) v, k[i]? = some v → w1.cell? ⟨b, o + (i : Int).toNat * 1, none⟩ = some (.int .u8 v)
theorem RdX.of {w : World} {p : Option Addr} {k : List Int} (h : RdSl w p u8V k) : RdX w p [] k := by
  rcases h with h | ⟨b, o, hp, h⟩
  · exact .inl h
  · refine .inr ⟨b, o, hp, fun w1 L1 hw1 _ i v hv => ?_⟩
    obtain ⟨hi, rfl⟩ := List.getElem?_eq_some_iff.1 hv
    rw [fl_u8] at h
    rw [show o + (i : Int).toNat * 1 = o + i by omega]
    refine hw1.old ((h i (by rw [u8s_len]; exact hi)).trans ?_) List.not_mem_nil
    simp [u8s, hi]
theorem RdX.own {w : World} {b : Nat} {e : TypeId} {fz : Nat × Nat} {k : List Int} : RdX w (some ⟨b, 0, none⟩) [(b, .cells ⟨u8s k⟩ e fz)] k := by
  refine .inr ⟨b, 0, rfl, fun w1 L1 hw1 hin i v hv => ?_⟩
  obtain ⟨hi, rfl⟩ := List.getElem?_eq_some_iff.1 hv
  have h1 := hw1.get b _ (hin _ List.mem_cons_self)
  rw [show 0 + (i : Int).toNat * 1 = i by omega]
  simp [World.cell?, h1, u8s, hi]
theorem vfilled_ok (p : Option Addr) (n cap : Nat) (k : List Int) (x : Int) (hn : n = k.length) (hbig : n ≤ 999999000) (hb : Byt k) (w : World) (hp : RdSl w p u8V k) :
    CallM Try.prog 73 [.agg ⟨tabV⟩, .slice p n cap, .int .u8 x] [] w fun v L => ∃ b0, v = slV (some (b0, 0, [])) 64 ∧ L = blkL 5 (some (b0, 0, [])) (u8s (filledI k x)) := by
  subst hn
  have hsum := fun w1 (hc : Chg [] w w1) => sum_ok p k.length cap k rfl hbig hb w1 (hp.chg' hc (fun _ => Off.nil _))
  have htl := tab_len
  have hF : filledI k x = (padKey k ++ List.replicate (64 - (padKey k).length) 0).map fun y => xorI .u8 y x := rfl
  have hFl := filled_len k x
  have hkl := padKey_len k
  generalize tabV = tv at *
  refine enterK (tb := tb) Try.func73 rfl Try.ntmps73 rfl ?_
  repeat' (first | (apply R.is1; first | (apply R.isBin; (apply R.gtr rfl rfl rfl <;> intro)) | (apply R.isCall; (apply R.pure; exact rfl; (apply Ok1.lenS; (iterate 3 exact rfl)))) | (apply R.pure; exact rfl; first | (apply Ok1.move; exact rfl) | (apply Ok1.assign; exact rfl)) | (apply R.box; (iterate 3 exact rfl); intro)) | apply R.nil | (apply T.is; first | (refine T.meetK (x := .seq (.region 1 _ _) _) (α := Option Addr × Nat × Lst) (I := fun y => RdX w y.1 y.2.2 (padKey k)) (σi := fun y => [(1, .slice y.1 (padKey k).length y.2.1), (2, .int .u8 x)]) (Li := fun y => y.2.2) ?_ ?_) | apply T.seq | apply T.region | apply T.skip | (apply T.cond_t; exact rfl) | (apply T.cond_f; exact rfl)))
  · have hk : 64 < k.length := by omega
    have hpk : padKey k = shaI k := if_pos hk
    have hsl := sha_len k
    have hls : (u8s (shaI k)).length = 32 := by rw [u8s_len, hsl]
    have hone := u8s_one (shaI k)
    repeat' (first | (apply R.is1; first | (apply R.isCall; (apply R.callV (vs := [.agg ⟨tv⟩, .slice p k.length cap]); (iterate 3 exact rfl); intro w1 hw1; exact hsum w1 hw1.chg)) | (apply R.pure; exact rfl; first | (apply Ok1.load; exact rfl; apply Ld.ownk; exact rfl; exact rfl; exact At.head; exact subE_all htl) | (apply Ok1.sliceArr; (iterate 4 exact rfl)) | (apply Ok1.move; exact rfl) | (apply Ok1.assign; exact rfl)) | (apply R.alloc; (iterate 3 exact rfl); intro)) | (apply R.is0; (apply R.store; (iterate 4 exact rfl); exact hls; exact hone; exact Upd.head; exact setE_all hls)) | apply R.nil | (apply T.is; apply T.region))
    rename_i bx b7
    refine ⟨(some ⟨b7, 0, none⟩, 32, [(b7, .cells ⟨u8s (shaI k)⟩ 45 (0, 0))]), ?_, ⟨?_, rfl, trivial⟩, ?_⟩
    · rw [hpk]; exact RdX.own
    · rw [hpk, hsl]; rfl
    · (focus ((repeat' (first | exact Keep.nil _ | exact Ext.one _ _ | apply Keep.cons)); done))
  · have hk : ¬ 64 < k.length := by omega
    have hpk : padKey k = k := if_neg hk
    repeat' (fail)
    refine ⟨(p, cap, []), ?_, ⟨?_, rfl, trivial⟩, ?_⟩
    · rw [hpk]; exact RdX.of hp
    · rw [hpk]; rfl
    · (focus ((repeat' (exact Keep.nil _)); done))
  · rintro ⟨p1, c1, ex⟩ hrd
    simp only at hrd ⊢
    generalize padKey k = pk at *
    generalize hFF : filledI k x = Fi at *
    repeat' (first | (apply R.is1; first | (apply R.make1 (n := 64); (iterate 9 exact rfl); omega; intro b8) | (apply R.pure; exact rfl; (apply Ok1.assign; exact rfl))) | apply R.nil | (apply T.is; first | apply T.seq | apply T.region | apply T.block))
    apply T.loopK (α := Nat) (I := fun i => i ≤ 64) (σi := fun i => [(1, .slice p1 pk.length c1), (2, .int .u8 x), (8, .slice (some ⟨b8, 0, none⟩) 64 64), (9, .int .i64 i)])
      (Li := fun i => (b8, .cells ⟨u8s (Fi.take i) ++ List.replicate (64 - i) (.int .u8 0)⟩ 5 (0, 0)) :: ex) (μ := fun i => 64 - i) (i0 := 0)
    · exact Nat.zero_le _
    · exact ⟨rfl, rfl, rfl, rfl, trivial⟩
    · (focus ((repeat' (first | exact Ext.one _ _ | exact Ext.all _ | apply Keep.cons | apply Keep.last)); done))
    · intro i hi
      rcases Nat.lt_or_ge i 64 with hlt | hge
      · obtain ⟨m, hm⟩ : ∃ m, 64 - i = m + 1 := ⟨63 - i, by omega⟩
        have htk : (Fi.take i).length = i := by rw [List.length_take]; omega
        rw [hm, List.replicate_succ]
        have hgt := fun v => at_get (v := v) (r := List.replicate m (.int .u8 0)) htk (j := (i : Int)) rfl
        have hpt := fun v y => at_put (v := v) (x := y) (r := List.replicate m (.int .u8 0)) htk (j := (i : Int)) rfl
        have hsnoc : ∀ v, Fi[i]? = some v → u8s (Fi.take (i + 1)) ++ List.replicate (64 - (i + 1)) (.int .u8 0) = u8s (Fi.take i) ++ .int .u8 v :: List.replicate m (.int .u8 0) := by
          intro v hv
          rw [List.take_add_one, hv, u8s_app, List.append_assoc, show 64 - (i + 1) = m by omega]
          rfl
        rcases Nat.lt_or_ge i pk.length with hk | hk
        · obtain ⟨y, hy⟩ : ∃ y, pk[i]? = some y := ⟨_, List.getElem?_eq_getElem (by omega)⟩
          have hv : Fi[i]? = some (xorI .u8 y x) := by rw [hF, List.getElem?_map, List.getElem?_append_left hk, hy]; rfl
          rcases hrd with h0 | ⟨bp, op, rfl, hrd⟩
          · subst h0; simp at hk
          · repeat' (first | (apply R.is1; first | (apply R.isBin; (apply R.pure; exact rfl; first | (apply Ok1.xorK; exact rfl; exact rfl) | (apply Ok1.add64; exact rfl; exact rfl; omega; omega) | (apply Ok1.lss_t; exact rfl; exact rfl; omega))) | (apply R.isCall; (apply R.pure; exact rfl; (apply Ok1.lenS; (iterate 3 exact rfl)))) | (apply R.pure; exact rfl; first | (apply Ok1.indexAddrP; (iterate 6 exact rfl); omega; omega) | (apply Ok1.load; exact rfl; first | (apply Ld.own1; exact rfl; exact rfl; (focus ((repeat' (first | exact At.head | apply At.tail)); done)); exact hgt _) | (apply Ld.of1; exact rfl; exact rfl; (intro w1 hw1; exact hrd w1 _ hw1 (fun z hz => List.mem_cons_of_mem _ hz) i y hy))) | (apply Ok1.move; exact rfl) | (apply Ok1.assign; exact rfl))) | (apply R.is0; (apply R.store; (iterate 6 exact rfl); exact Upd.head; exact hpt _ _)) | apply R.nil | (apply T.is; first | apply T.seq | apply T.region | apply T.block | apply T.skip | (apply T.cond_t; exact rfl)))
            refine ⟨i + 1, by omega, by omega, ⟨rfl, rfl, rfl, rfl, trivial⟩, ?_⟩
            rw [hsnoc _ hv]
            (focus ((repeat' (first | exact Ext.one _ _ | exact Ext.all _ | apply Keep.cons | apply Keep.last)); done))
        · have hv : Fi[i]? = some (xorI .u8 0 x) := by rw [hF, List.getElem?_map, List.getElem?_append_right hk, List.getElem?_replicate, if_pos (by omega)]; rfl
          repeat' (first | (apply R.is1; first | (apply R.isBin; (apply R.pure; exact rfl; first | (apply Ok1.xorK; exact rfl; exact rfl) | (apply Ok1.add64; exact rfl; exact rfl; omega; omega) | (apply Ok1.lss_t; exact rfl; exact rfl; omega) | (apply Ok1.lss_f; exact rfl; exact rfl; omega))) | (apply R.isCall; (apply R.pure; exact rfl; (apply Ok1.lenS; (iterate 3 exact rfl)))) | (apply R.pure; exact rfl; first | (apply Ok1.load; exact rfl; apply Ld.own1; exact rfl; exact rfl; exact At.head; exact hgt _) | (apply Ok1.move; exact rfl) | (apply Ok1.assign; exact rfl) | (apply Ok1.indexAddr; (iterate 5 exact rfl); omega; omega))) | (apply R.is0; (apply R.store; (iterate 6 exact rfl); exact Upd.head; exact hpt _ _)) | apply R.nil | (apply T.is; first | apply T.seq | apply T.region | apply T.block | apply T.skip | (apply T.cond_t; exact rfl) | (apply T.cond_f; exact rfl)))
          refine ⟨i + 1, by omega, by omega, ⟨rfl, rfl, rfl, rfl, trivial⟩, ?_⟩
          rw [hsnoc _ hv]
          (focus ((repeat' (first | exact Ext.one _ _ | exact Ext.all _ | apply Keep.cons | apply Keep.last)); done))
      · have he : i = 64 := by omega
        subst he
        rw [List.take_of_length_le (by omega), Nat.sub_self, List.replicate_zero]
        repeat' (first | (apply R.is1; first | (apply R.isBin; (apply R.pure; exact rfl; (apply Ok1.lss_f; exact rfl; exact rfl; omega))) | (apply R.pure; exact rfl; first | (apply Ok1.move; exact rfl) | (apply Ok1.assign; exact rfl))) | apply R.nil | (apply T.is; first | apply T.seq | apply T.region | apply T.exit | apply T.ret | (apply T.cond_f; exact rfl)))
        (apply RetOk.t; exact rfl)
        exact ⟨_, by (focus ((repeat' (first | exact Keep.nil _ | exact Ext.one _ _ | apply Keep.cons)); done)), b8, rfl, rfl⟩
theorem vtag_ok (p : Option Addr) (n cap : Nat) (k : List Int) (hn : n = k.length) (hbig : n ≤ 999999000) (hkb : Byt k) (pb : Option Addr) (m cb : Nat) (b : List Int) (hm : m = b.length) (hbb : Byt b) (hbig2 : m ≤ 999998000) (w : World) (hp : RdSl w p u8V k) (hpb : RdSl w pb u8V b) :
    CallW Try.prog 57 [.agg ⟨tabV⟩, .slice p n cap, .slice pb m cb] w fun v _ => v = .agg ⟨u8s (hmacI k b)⟩ := by
  subst hn hm
  have hfil1 := fun w1 (hc : Chg [] w w1) => vfilled_ok p k.length cap k 54 rfl hbig hkb w1 (hp.chg' hc (fun _ => Off.nil _))
  have hfil2 := fun w1 (hc : Chg [] w w1) => vfilled_ok p k.length cap k 92 rfl hbig hkb w1 (hp.chg' hc (fun _ => Off.nil _))
  have hsum := fun p n c b h1 h2 h3 w1 hp => sum_ok p n c b h1 h2 h3 w1 hp
  have htl := tab_len
  have hto : tabV.all Value.oneCell' = true := rfl
  have hl1 := filled_len k 54
  have hl2 := filled_len k 92
  have hb1 := filled_byt k 54
  have hb2 := filled_byt k 92
  obtain ⟨d, hd⟩ : ∃ d, d = shaI (filledI k 54 ++ b) := ⟨_, rfl⟩
  have hdl : d.length = 32 := by rw [hd]; exact sha_len _
  have hdb : Byt d := by rw [hd]; exact sha_byt _
  have hh : hmacI k b = shaI (filledI k 92 ++ d) := by rw [hd]; rfl
  have hhl : (u8s (hmacI k b)).length = 32 := by rw [u8s_len, hh, sha_len]
  have hho := u8s_one (hmacI k b)
  generalize hmacI k b = hm at *
  have hdls : (u8s d).length = 32 := by rw [u8s_len, hdl]
  have hdo := u8s_one d
  generalize filledI k 54 = f1 at *
  generalize filledI k 92 = f2 at *
  have hF1 : ∀ b0, OvOk 1 (some (b0, 0, [])) 64 (u8s f1) := fun b0 => ⟨by rw [u8s_len, hl1], rfl⟩
  have hF2 : ∀ b0, OvOk 1 (some (b0, 0, [])) 64 (u8s f2) := fun b0 => ⟨by rw [u8s_len, hl2], rfl⟩
  have hs1 : ∀ {ov : Ov}, OvOk 1 ov (64 + b.length) (u8s (f1 ++ b)) → ∀ {w1 : World} {S : List Nat} {L : Lst}, Hp w S L w1 → (∀ z ∈ blkL 5 ov (u8s (f1 ++ b)), z ∈ L) → CallW Try.prog 72 [.agg ⟨tabV⟩, .slice (ovp ov) (64 + b.length) (ovc ov (64 + b.length))] w1 fun v _ => v = .agg ⟨u8s d⟩ := by
    intro ov hov w1 S L hw1 hin
    have he : 64 + b.length = (f1 ++ b).length := by rw [List.length_append, hl1]
    rw [hd]
    exact hsum _ _ _ (f1 ++ b) he (by omega) (hb1.app hbb) w1 (rdown (by rw [← he]; exact hov) hw1 hin)
  have hs2 : ∀ {ov : Ov}, OvOk 1 ov (64 + 32) (u8s (f2 ++ d)) → ∀ {w1 : World} {S : List Nat} {L : Lst}, Hp w S L w1 → (∀ z ∈ blkL 5 ov (u8s (f2 ++ d)), z ∈ L) → CallW Try.prog 72 [.agg ⟨tabV⟩, .slice (ovp ov) (64 + 32) (ovc ov (64 + 32))] w1 fun v _ => v = .agg ⟨u8s hm⟩ := by
    intro ov hov w1 S L hw1 hin
    have he : 64 + 32 = (f2 ++ d).length := by rw [List.length_append, hl2, hdl]
    rw [hh]
    exact hsum _ _ _ (f2 ++ d) he (by omega) (hb2.app hdb) w1 (rdown (by rw [← he]; exact hov) hw1 hin)
  clear hsum hd hh
  generalize tabV = tv at *
  refine enterW (tb := tb) Try.func57 rfl Try.ntmps57 rfl ?_
  repeat' (first | (apply R.is1; first | (apply R.box; (iterate 3 exact rfl); intro) | (apply R.alloc; (iterate 3 exact rfl); intro)) | apply R.nil | (apply T.is; first | (refine T.meetK (x := .region 1 _ _) (α := Nat × Nat × Nat) (I := fun _ => True) (σi := fun y => [(1, .slice p k.length cap), (3, .pointer (some ⟨y.2.1, 0, none⟩)), (6, .pointer (some ⟨y.2.2, 0, none⟩)), (7, .pointer (some ⟨y.1, 0, none⟩))]) (Li := fun y => [(y.1, .cells ⟨u8s d⟩ 45 (0, 0)), (y.2.2, .cells ⟨List.replicate 32 (.int .u8 0)⟩ 45 (0, 0)), (y.2.1, .cells ⟨tv⟩ 35 (0, 0))]) ?_ ?_) | apply T.seq | apply T.region))
  · repeat' ((apply T.is; (apply T.drawC (id := 1) [1] (by decide); ((apply A.take 0; exact rfl; exact rfl; kernel_rfl; kernel_rfl; kernel_rfl; (apply Ok1.load; exact rfl; apply Ld.ownk; exact rfl; exact rfl; exact At.head; exact subE_all htl)) <;> (apply A.take 1; exact rfl; exact rfl; kernel_rfl; kernel_rfl; kernel_rfl; (apply Ok1.load; exact rfl; apply Ld.ownk; exact rfl; exact rfl; exact At.head; exact subE_all htl)) <;> (apply A.take 2; exact rfl; exact rfl; kernel_rfl; kernel_rfl; kernel_rfl; (apply Ok1.move; exact rfl)) <;> (apply A.take 4; exact rfl; exact rfl; kernel_rfl; kernel_rfl; kernel_rfl; (apply Ok1.move; exact rfl)) <;> (apply A.two 3 7; kernel_rfl; exact rfl; exact rfl; rotate_left 1; (focus (((((apply R.alloc; (iterate 3 exact rfl); intro))); apply R.nil; refine ⟨?_, ?_⟩; (focus ((repeat' (first | exact trivial | (refine ⟨?_, ?_⟩; (focus ((repeat' (first | exact At.head | apply At.tail)); done)))))))) <;> (apply A.one 3; kernel_rfl; exact rfl; (((apply R.callE (vs := [.agg ⟨tv⟩, .slice p k.length cap, .int .u8 54]); (iterate 3 exact rfl); exact Ext.none _; intro w1 hw1; exact hfil1 w1 hw1.chg; rintro v Lo ⟨b0, rfl, rfl⟩))); apply R.nil; refine ⟨?_, ?_⟩; (focus ((repeat' (first | exact trivial | (refine ⟨?_, ?_⟩; (focus ((repeat' (first | exact At.head | apply At.tail)); done)))))))) <;> (apply A.one 5; kernel_rfl; exact rfl; (((apply R.appendRd (xs := b) (v := u8V) (sz := 1) (ov := some (b0, 0, [])) (n := 64) (old := u8s f1); (iterate 12 exact rfl); exact hF1 b0; (focus ((repeat' (exact Ext.one _ _)); done)); exact rfl; exact u8V_len; exact rfl; (intro w1 hw1; exact hpb.chg' hw1.chg (fun _ => Off.nil _)); (focus (rw [fl_u8]; exact u8s_one b)); omega; intro ov1 hov1 hsome; rw [fl_u8, ← u8s_app] at hov1; rw [fl_u8, ← u8s_app, slV_eq hov1]))); apply R.nil; refine ⟨?_, ?_⟩; (focus ((repeat' (first | exact trivial | (refine ⟨?_, ?_⟩; (focus ((repeat' (first | exact At.head | apply At.tail | apply At.right)); done)))))))) <;> (apply A.one 6; kernel_rfl; exact rfl; (((apply R.callV (vs := [.agg ⟨tv⟩, .slice (ovp ov1) _ _]); (iterate 3 exact rfl); intro w1 hw1; exact hs1 hov1 hw1 (Ext.mem (by (focus ((repeat' (exact Ext.here _ _)); done))))))); apply R.nil; refine ⟨?_, ?_⟩; (focus ((repeat' (first | exact trivial | (refine ⟨?_, ?_⟩; (focus ((repeat' (first | exact At.head | apply At.tail | apply At.right)); done)))))))) <;> (apply A.one 8; kernel_rfl; exact rfl; (((apply R.store; (iterate 4 exact rfl); exact hdls; exact hdo; (focus ((repeat' (first | exact Upd.head | apply Upd.right)); done)); exact setE_all hdls))); apply R.nil; refine ⟨?_, ?_⟩; (focus ((repeat' (first | exact trivial | (refine ⟨?_, ?_⟩; (focus ((repeat' (first | exact At.head | apply At.tail | apply At.right)); done)))))))) <;> (apply A.done; kernel_rfl))); rotate_right 1; (focus (((((apply R.callE (vs := [.agg ⟨tv⟩, .slice p k.length cap, .int .u8 54]); (iterate 3 exact rfl); exact Ext.none _; intro w1 hw1; exact hfil1 w1 hw1.chg; rintro v Lo ⟨b0, rfl, rfl⟩))); apply R.nil; refine ⟨?_, ?_⟩; (focus ((repeat' (first | exact trivial | (refine ⟨?_, ?_⟩; (focus ((repeat' (first | exact At.head | apply At.tail)); done)))))))) <;> (apply A.two 5 7; kernel_rfl; exact rfl; exact rfl; rotate_left 1; (focus (((((apply R.alloc; (iterate 3 exact rfl); intro))); apply R.nil; refine ⟨?_, ?_⟩; (focus ((repeat' (first | exact trivial | (refine ⟨?_, ?_⟩; (focus ((repeat' (first | exact At.head | apply At.tail)); done)))))))) <;> (apply A.one 5; kernel_rfl; exact rfl; (((apply R.appendRd (xs := b) (v := u8V) (sz := 1) (ov := some (b0, 0, [])) (n := 64) (old := u8s f1); (iterate 12 exact rfl); exact hF1 b0; (focus ((repeat' (first | exact Ext.one _ _ | apply Ext.cons)); done)); exact rfl; exact u8V_len; exact rfl; (intro w1 hw1; exact hpb.chg' hw1.chg (fun _ => Off.nil _)); (focus (rw [fl_u8]; exact u8s_one b)); omega; intro ov1 hov1 hsome; rw [fl_u8, ← u8s_app] at hov1; rw [fl_u8, ← u8s_app, slV_eq hov1]))); apply R.nil; refine ⟨?_, ?_⟩; (focus ((repeat' (first | exact trivial | (refine ⟨?_, ?_⟩; (focus ((repeat' (first | exact At.head | apply At.tail | apply At.right)); done)))))))) <;> (apply A.one 6; kernel_rfl; exact rfl; (((apply R.callV (vs := [.agg ⟨tv⟩, .slice (ovp ov1) _ _]); (iterate 3 exact rfl); intro w1 hw1; exact hs1 hov1 hw1 (Ext.mem (by (focus ((repeat' (exact Ext.here _ _)); done))))))); apply R.nil; refine ⟨?_, ?_⟩; (focus ((repeat' (first | exact trivial | (refine ⟨?_, ?_⟩; (focus ((repeat' (first | exact At.head | apply At.tail | apply At.right)); done)))))))) <;> (apply A.one 8; kernel_rfl; exact rfl; (((apply R.store; (iterate 4 exact rfl); exact hdls; exact hdo; (focus ((repeat' (first | exact Upd.head | apply Upd.right)); done)); exact setE_all hdls))); apply R.nil; refine ⟨?_, ?_⟩; (focus ((repeat' (first | exact trivial | (refine ⟨?_, ?_⟩; (focus ((repeat' (first | exact At.head | apply At.tail | apply At.right)); done)))))))) <;> (apply A.done; kernel_rfl))); rotate_right 1; (focus (((((apply R.appendRd (xs := b) (v := u8V) (sz := 1) (ov := some (b0, 0, [])) (n := 64) (old := u8s f1); (iterate 12 exact rfl); exact hF1 b0; (focus ((repeat' (exact Ext.one _ _)); done)); exact rfl; exact u8V_len; exact rfl; (intro w1 hw1; exact hpb.chg' hw1.chg (fun _ => Off.nil _)); (focus (rw [fl_u8]; exact u8s_one b)); omega; intro ov1 hov1 hsome; rw [fl_u8, ← u8s_app] at hov1; rw [fl_u8, ← u8s_app, slV_eq hov1]))); apply R.nil; refine ⟨?_, ?_⟩; (focus ((repeat' (first | exact trivial | (refine ⟨?_, ?_⟩; (focus ((repeat' (first | exact At.head | apply At.tail | apply At.right)); done)))))))) <;> (apply A.two 6 7; kernel_rfl; exact rfl; exact rfl; rotate_left 1; (focus (((((apply R.alloc; (iterate 3 exact rfl); intro))); apply R.nil; refine ⟨?_, ?_⟩; (focus ((repeat' (first | exact trivial | (refine ⟨?_, ?_⟩; (focus ((repeat' (first | exact At.head | apply At.tail | apply At.right)); done)))))))) <;> (apply A.one 6; kernel_rfl; exact rfl; (((apply R.callV (vs := [.agg ⟨tv⟩, .slice (ovp ov1) _ _]); (iterate 3 exact rfl); intro w1 hw1; exact hs1 hov1 hw1 (Ext.mem (by (focus ((repeat' (first | exact Ext.here _ _ | apply Ext.cons)); done))))))); apply R.nil; refine ⟨?_, ?_⟩; (focus ((repeat' (first | exact trivial | (refine ⟨?_, ?_⟩; (focus ((repeat' (first | exact At.head | apply At.tail | apply At.right)); done)))))))) <;> (apply A.one 8; kernel_rfl; exact rfl; (((apply R.store; (iterate 4 exact rfl); exact hdls; exact hdo; exact Upd.head; exact setE_all hdls))); apply R.nil; refine ⟨?_, ?_⟩; (focus ((repeat' (first | exact trivial | (refine ⟨?_, ?_⟩; (focus ((repeat' (first | exact At.head | apply At.tail | apply At.right)); done)))))))) <;> (apply A.done; kernel_rfl))); rotate_right 1; (focus (((((apply R.callV (vs := [.agg ⟨tv⟩, .slice (ovp ov1) _ _]); (iterate 3 exact rfl); intro w1 hw1; exact hs1 hov1 hw1 (Ext.mem (by (focus ((repeat' (exact Ext.here _ _)); done))))))); apply R.nil; refine ⟨?_, ?_⟩; (focus ((repeat' (first | exact trivial | (refine ⟨?_, ?_⟩; (focus ((repeat' (first | exact At.head | apply At.tail | apply At.right)); done)))))))) <;> (apply A.one 7; kernel_rfl; exact rfl; (((apply R.alloc; (iterate 3 exact rfl); intro))); apply R.nil; refine ⟨?_, ?_⟩; (focus ((repeat' (first | exact trivial | (refine ⟨?_, ?_⟩; (focus ((repeat' (first | exact At.head | apply At.tail | apply At.right)); done)))))))) <;> (apply A.one 8; kernel_rfl; exact rfl; (((apply R.store; (iterate 4 exact rfl); exact hdls; exact hdo; exact Upd.head; exact setE_all hdls))); apply R.nil; refine ⟨?_, ?_⟩; (focus ((repeat' (first | exact trivial | (refine ⟨?_, ?_⟩; (focus ((repeat' (first | exact At.head | apply At.tail | apply At.right)); done)))))))) <;> (apply A.done; kernel_rfl))))))))))))))
    all_goals exact ⟨(_, _, _), trivial, ⟨rfl, rfl, rfl, rfl, trivial⟩, by (focus ((repeat' (first | exact Keep.nil _ | exact Ext.one _ _ | apply Keep.cons | apply Ext.app)); done))⟩
  · rintro ⟨b7, bT, bO⟩ _
    repeat' ((apply T.is; first | (apply T.drawC (id := 2) [2] (by decide); ((apply A.take 0; exact rfl; exact rfl; kernel_rfl; kernel_rfl; kernel_rfl; (apply Ok1.load; exact rfl; apply Ld.ownk; exact rfl; exact rfl; exact At.head; exact subE_all htl)) <;> (apply A.take 1; exact rfl; exact rfl; kernel_rfl; kernel_rfl; kernel_rfl; (apply Ok1.load; exact rfl; apply Ld.ownk; exact rfl; exact rfl; exact At.head; exact subE_all htl)) <;> (apply A.take 2; exact rfl; exact rfl; kernel_rfl; kernel_rfl; kernel_rfl; (apply Ok1.move; exact rfl)) <;> (apply A.take 4; exact rfl; exact rfl; kernel_rfl; kernel_rfl; kernel_rfl; (apply Ok1.sliceArr; (iterate 4 exact rfl))) <;> (apply A.one 3; kernel_rfl; exact rfl; (((apply R.callE (vs := [.agg ⟨tv⟩, .slice p k.length cap, .int .u8 92]); (iterate 3 exact rfl); exact Ext.none _; intro w1 hw1; exact hfil2 w1 hw1.chg; rintro v Lo ⟨b0, rfl, rfl⟩))); apply R.nil; refine ⟨?_, ?_⟩; (focus ((repeat' (first | exact trivial | (refine ⟨?_, ?_⟩; (focus ((repeat' (first | exact At.head | apply At.tail)); done)))))))) <;> (apply A.one 5; kernel_rfl; exact rfl; (((apply R.appendRd (xs := d) (v := u8V) (sz := 1) (ov := some (b0, 0, [])) (n := 64) (old := u8s f2); (iterate 12 exact rfl); exact hF2 b0; (focus ((repeat' (exact Ext.one _ _)); done)); exact hdl.symm; exact u8V_len; exact rfl; (intro w1 hw1; exact RdSl.of (junk := []) hw1 (by (focus ((repeat' (first | exact At.head | apply At.tail)); done))) (by rw [fl_u8, List.append_nil])); (focus (rw [fl_u8]; exact u8s_one d)); omega; intro ov1 hov1 hsome; rw [fl_u8, ← u8s_app] at hov1; rw [fl_u8, ← u8s_app, slV_eq hov1]))); apply R.nil; refine ⟨?_, ?_⟩; (focus ((repeat' (first | exact trivial | (refine ⟨?_, ?_⟩; (focus ((repeat' (first | exact At.head | apply At.tail | apply At.right)); done)))))))) <;> (apply A.one 6; kernel_rfl; exact rfl; (((apply R.callV (vs := [.agg ⟨tv⟩, .slice (ovp ov1) _ _]); (iterate 3 exact rfl); intro w1 hw1; exact hs2 hov1 hw1 (Ext.mem (by (focus ((repeat' (exact Ext.here _ _)); done))))))); apply R.nil; refine ⟨?_, ?_⟩; (focus ((repeat' (first | exact trivial | (refine ⟨?_, ?_⟩; (focus ((repeat' (first | exact At.head | apply At.tail | apply At.right)); done)))))))) <;> (apply A.one 7; kernel_rfl; exact rfl; (((apply R.store; (iterate 4 exact rfl); exact hhl; exact hho; (focus ((repeat' (first | exact Upd.head | apply Upd.tail | apply Upd.right)); done)); exact setE_all hhl))); apply R.nil; refine ⟨?_, ?_⟩; (focus ((repeat' (first | exact trivial | (refine ⟨?_, ?_⟩; (focus ((repeat' (first | exact At.head | apply At.tail | apply At.right)); done)))))))) <;> (apply A.done; kernel_rfl))) | apply T.seq | apply T.ret))
    all_goals apply RetOk.c
    all_goals first | exact rfl | skip
    all_goals (apply Ld.ownk; exact rfl; exact rfl; (focus ((repeat' (first | exact At.head | apply At.tail | apply At.right)); done)); exact subE_all hhl)
end Go.Proofs.Ytiegdpmkgegbaaa
