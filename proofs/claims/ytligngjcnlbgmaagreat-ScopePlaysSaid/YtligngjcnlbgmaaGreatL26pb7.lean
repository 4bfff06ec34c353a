/- Texts of the proof: Sq5, Sq6, Lsq. -/
import Derived.Test.YtligngjcnlbgmaaGreatL26pb6
set_option linter.unusedSimpArgs false
set_option linter.unusedVariables false
namespace Go.Proofs.YtligngjcnlbgmaaGreat
open Go.RowKit Go.Shelf Go.Sort
set_option maxRecDepth 100000
def DX (es : List SE) : Lst := es.flatMap SE.L
theorem dx_put (es : List SE) (x : SE) : Keep (x.L ++ DX es) (DX (dputM es x)) := by
  unfold dputM
  cases hd : efind (ek x) es with
  | some y =>
    simp only
    have hlt := eidx_some hd
    have hx : es[eidx (ek x) es]? = some y := by rw [← efind_idx]; exact hd
    generalize eidx (ek x) es = i at *
    have h1 : es.set i x = es.take i ++ x :: es.drop (i + 1) := List.set_eq_take_append_cons_drop.trans (if_pos hlt)
    have h2 : es = es.take i ++ y :: es.drop (i + 1) := by
      have := List.take_append_drop i es
      rw [List.drop_eq_getElem?_toList_append, hx] at this
      exact this.symm
    have h3 : DX es = DX (es.take i) ++ (y.L ++ DX (es.drop (i + 1))) := by
      conv => lhs; rw [h2]
      unfold DX
      rw [List.flatMap_append, List.flatMap_cons]
    rw [h1, h3]
    unfold DX
    rw [List.flatMap_append, List.flatMap_cons]
    refine keep_of_perm (r := y.L) ?_
    generalize (es.take i).flatMap SE.L = A
    generalize (es.drop (i + 1)).flatMap SE.L = B
    have p1 : ((A ++ (x.L ++ B)) ++ y.L).Perm (x.L ++ (A ++ B) ++ y.L) := by
      refine List.Perm.append_right _ ?_
      rw [← List.append_assoc, ← List.append_assoc]
      exact List.perm_append_comm.append_right B
    refine p1.trans ?_
    rw [List.append_assoc]
    refine List.Perm.append_left _ ?_
    rw [List.append_assoc]
    exact List.Perm.append_left _ List.perm_append_comm
  | none =>
    simp only
    split
    · exact keep_sub (List.sublist_append_right _ _)
    · refine keep_of_perm (r := []) ?_
      generalize epos (ek x) es = i
      have h3 : DX es = DX (es.take i) ++ DX (es.drop i) := by
        conv => lhs; rw [← List.take_append_drop i es]
        unfold DX
        rw [List.flatMap_append]
      rw [h3, List.append_nil]
      unfold DX
      rw [List.flatMap_append, List.flatMap_cons, ← List.append_assoc, ← List.append_assoc]
      exact List.perm_append_comm.append_right _
theorem dx_sub {es es' : List SE} (h : es'.Sublist es) : Keep (DX es) (DX es') := keep_sub (flatMap_sub _ h)
theorem dx_rdb {es : List SE} {e : SE} (he : e ∈ es) (h : OvOk 1 e.bov e.body.length (u8s e.body)) {w0 w : World} {S : List Nat} {L : Lst} (hw : Hp w0 S L w) (hin : ∀ z ∈ DX es, z ∈ L) : RdSl w (ovp e.bov) u8V e.body := rdown h hw fun z hz => hin z (List.mem_flatMap.2 ⟨e, he, List.mem_append_left _ hz⟩)
theorem dx_rdv {es : List SE} {e : SE} (he : e ∈ es) (h : OvOk 1 e.vov e.val.length (u8s e.val)) {w0 w : World} {S : List Nat} {L : Lst} (hw : Hp w0 S L w) (hin : ∀ z ∈ DX es, z ∈ L) : RdSl w (ovp e.vov) u8V e.val := rdown h hw fun z hz => hin z (List.mem_flatMap.2 ⟨e, he, List.mem_append_right _ hz⟩)
/-- Put, where there is room. -/
theorem vput_ok (p : Option Addr) (n cap : Nat) (es : List SE) (hn : n = es.length) (hnc : n ≤ cap) (hl : es.length ≤ 64) (x : SE) (hE : dputE es (ek x) = 0) (h1 : OvOk 1 x.bov x.body.length (u8s x.body)) (h2 : OvOk 1 x.vov x.val.length (u8s x.val)) (w : World) (hp : RdSl w p SE.v es) : CallM Tryz.prog 34 [.slice p n cap, .agg ⟨x.c⟩] [] w fun v L => ∃ ov, OvOk 6 ov (dputM es x).length (fl SE.v (dputM es x)) ∧ v = .tuple #[slV ov (dputM es x).length, .int .i64 0] ∧ L = blkL 91 ov (fl SE.v (dputM es x)) := by
  cases hd : efind (ek x) es with
  | some y => exact vput_old p n cap es hn hl x y hd h1 h2 w hp
  | none =>
    have h64 : es.length < 64 := by
      unfold dputE at hE
      rw [hd] at hE
      simp only at hE
      by_cases h9 : 64 ≤ es.length
      · rw [if_pos h9] at hE; exact absurd hE (by decide)
      · omega
    exact vput_new p n cap es hn hnc h64 x hd h1 h2 w hp
theorem dput_cases (es : List SE) (k : Int × Int) : dputE es k = 0 ∨ dputE es k = 6 := by
  unfold dputE
  split
  · exact .inl rfl
  · split
    · exact .inr rfl
    · exact .inl rfl
theorem dput_full {es : List SE} {x : SE} (h : dputE es (ek x) = 6) : dputM es x = es := by
  unfold dputE at h
  unfold dputM
  cases hd : efind (ek x) es with
  | some y => rw [hd] at h; exact absurd h (by simp)
  | none =>
    rw [hd] at h
    simp only at h ⊢
    by_cases h9 : 64 ≤ es.length
    · rw [if_pos h9]
    · rw [if_neg h9] at h; exact absurd h (by decide)
theorem stset_nokey (bs bm : Nat) (ms : SMs) (clk : Nat) (o r : Int) (p : Option Addr) (n cap : Nat) (hv : 0 ≤ verI ms (o, r) ∧ verI ms (o, r) ≤ 2147483647) (w : World) :
    CallM Tryz.prog 35 [.pointer (some ⟨bs, 0, none⟩), .pointer none, .int .i64 o, .int .i64 r, .slice p n cap] (SL bs bm ms clk) w fun v L => v = .int .i64 1 ∧ L = SL bs bm ms clk := by
  have hve := fun w1 => stver_ok bs bm ms clk o r w1
  have hns := fun w1 => nseal_nil o r (verI ms (o, r) + 1) p n cap w1
  generalize verI ms (o, r) = vv at *
  generalize SL bs bm ms clk = LS at *
  simp only [ntC] at hns
  refine enterK (tb := tb) Tryz.func35 rfl Tryz.ntmps35 rfl ?_
  repeat' (first | (apply R.is1; first | (apply R.isBin; (apply R.pure; exact rfl; first | (apply Ok1.eqlP; (iterate 5 exact rfl)) | (apply Ok1.add64; exact rfl; exact rfl; omega; omega) | (apply Ok1.neq_t; exact rfl; exact rfl; omega))) | (apply R.isCall; first | (apply R.callE (Li := LS) (vs := [.pointer (some ⟨bs, 0, none⟩), .int .i64 o, .int .i64 r]); (iterate 3 exact rfl); (focus ((repeat' (exact Ext.all _)); done)); intro w1 hw1; exact hve w1; rintro v Lo ⟨rfl, hq⟩; rw [hq]; clear hq) | (apply R.callE (vs := [.pointer none, .agg ⟨[.int .i64 o, .int .i64 r, .int .i64 (vv + 1), .slice p n cap]⟩]); (iterate 3 exact rfl); exact Ext.none _; intro w1 hw1; exact hns w1; rintro v Lo ⟨rfl, rfl⟩)) | (apply R.pure; exact rfl; first | (apply Ok1.move; exact rfl) | (apply Ok1.assign; exact rfl) | (apply Ok1.build; (iterate 5 exact rfl)) | (apply Ok1.extract; exact rfl; exact rfl)) | (apply R.alloc; (iterate 3 exact rfl); intro)) | (apply R.is0; (apply R.store; (iterate 6 exact rfl); exact Upd.head; exact rfl)) | apply R.nil | (apply T.is; first | apply T.seq | apply T.region | apply T.skip | apply T.ret | (apply T.cond_t; exact rfl) | (apply T.cond_f; exact rfl)))
  (apply RetOk.t; exact rfl)
  exact ⟨LS, by (focus ((repeat' (first | exact Ext.here _ _ | apply Keep.last | apply Ext.cons | apply Ext.app)); done)), rfl, rfl⟩
/-- An entry, sealed. -/
def SE.ne (e : SE) : NE := ⟨e.o, e.r, e.ver, e.bov, e.body⟩
theorem ne_say (es : List SE) : (es.map SE.ne).map NE.say = alN es := by unfold alN; rw [List.map_map]; rfl
/-- A call. -/
structure SAct where
  kind : Int
  key : Bool
  n : NT
  s : NT
instance : Inhabited SAct := ⟨⟨0, false, default, default⟩⟩
def SAct.v (a : SAct) : List Value := [.int .i64 a.kind, .bool a.key, .int .i64 a.n.o, .int .i64 a.n.r, .int .i64 a.n.ver, .slice a.n.p a.n.xs.length a.n.cap, .int .i64 a.s.o, .int .i64 a.s.r, .int .i64 a.s.ver, .slice a.s.p a.s.xs.length a.s.cap]
theorem SAct.v_len (a : SAct) : a.v.length = 10 := rfl
def SAct.okR (w : World) (a : SAct) : Prop := a.n.okR w ∧ a.s.okR w
end Go.Proofs.YtligngjcnlbgmaaGreat
set_option linter.unusedSimpArgs false
set_option linter.unusedVariables false
namespace Go.Proofs.YtligngjcnlbgmaaGreat
open Go.RowKit Go.Shelf Go.Sort
set_option maxRecDepth 100000
theorem simPutE {ms : SMs} {clk : Nat} {es : List SE} (h : SimS ms clk es) (k : Int × Int) : putE ms k = dputE es k := by
  have hs := h.say k
  have hl := h.len
  have hf := h.ok.few
  unfold putE dputE
  cases ha : mget k ms <;> cases hb : efind k es <;> rw [ha, hb] at hs <;> simp only [Option.map_some, Option.map_none] at hs
  · simp only
    by_cases h64 : ms.length = 64
    · rw [if_pos h64, if_pos (by omega)]
    · rw [if_neg h64, if_neg (by omega)]
  · cases hs
  · cases hs
theorem SimS.rt {ms : SMs} {clk : Nat} {es : List SE} (h : SimS ms clk es) : ∀ e ∈ es, 0 ≤ e.r ∧ e.r < 8 := by
  intro e he
  have h1 := h.perm.symm.subset (List.mem_map.2 ⟨e, he, rfl⟩)
  obtain ⟨x, hx, h2⟩ := List.mem_map.1 h1
  have h3 := h.ok.hrt x hx
  unfold HRt at h3
  have h4 : x.2.1.r = e.r := congrArg (fun z => z.2.1) h2
  omega
theorem pl_sealed {ms : SMs} {clk : Nat} {es rs : List SE} (hsim : SimS ms clk es) (hp : rs.Perm (ms.map (·.2.1))) (ha : Asc cfS rs) {ns : List NE} (hns : ∀ x ∈ ns, OvOk 1 x.ov x.xs.length (u8s x.xs)) (hsay : ns.map NE.say = alN rs) {o1 o2 : Ov} {e1 e2 c1 c2 : Nat} (h1 : OvOk 4 o1 ns.length (fl NT.v (ns.map NE.nt))) (h2 : OvOk 4 o2 es.length (fl NE.v (es.map SE.ne))) {w0 w : World} {S : List Nat} {L : Lst} (hw : Hp w0 S L w) (hi1 : ∀ z ∈ blkL e1 o1 (fl NT.v (ns.map NE.nt)), z ∈ L) (hi2 : ∀ z ∈ blkL e2 o2 (fl NE.v (es.map SE.ne)), z ∈ L) (hx1 : ∀ z ∈ NX ns, z ∈ L) (hx2 : ∀ z ∈ DX es, z ∈ L) :
    CallW Tryz.prog 14 [.slice (ovp o1) ns.length c1, .slice (ovp o2) es.length c2] w fun v _ => v = .bool true := by
  have he : (ns.map NE.nt).map NT.say = ((es.map SE.ne).map NE.nt).map NT.say := by
    rw [say_nt, say_nt, hsay, ne_say, alN_say, alN_say, hsim.sorted hp ha]
  obtain ⟨hl, hb⟩ := alN_len hsim.ok hp hsay
  have hfew := hsim.ok.few
  have hok : ∀ x ∈ es.map SE.ne, OvOk 1 x.ov x.xs.length (u8s x.xs) := by
    intro x hx
    obtain ⟨e, he, rfl⟩ := List.mem_map.1 hx
    exact hsim.bok e he
  have h := samesealed_ok (ovp o1) (ovp o2) ns.length es.length c1 c2 (ns.map NE.nt) ((es.map SE.ne).map NE.nt) (List.length_map _).symm (by rw [List.length_map, List.length_map]) (by rw [List.length_map]; omega) (fun x hx => by
    obtain ⟨y, hy, rfl⟩ := List.mem_map.1 hx
    have := (hb y hy).1
    simp only [NE.nt]
    omega) w (RdSl.own' hw hi1 (by rw [List.length_map]; exact h1) NT.v_len) (nt_rd (by rw [List.length_map]) h2 hok hw hi2) (nx_rd hns hw hx1) (fun x hx => by
    obtain ⟨y, hy, rfl⟩ := List.mem_map.1 hx
    obtain ⟨e, he, rfl⟩ := List.mem_map.1 hy
    exact dx_rdb he (hsim.bok e he) hw hx2)
  rw [decide_eq_true he] at h
  exact h
theorem pl_notes {M : Int} {ms : SMs} {clk : Nat} {es rs : List SE} (hsim : SimS ms clk es) (hp : rs.Perm (ms.map (·.2.1))) (ha : Asc cfS rs) {ns : List NE} (hns : ∀ x ∈ ns, OvOk 1 x.ov x.xs.length (u8s x.xs)) (hsay : ns.map NE.say = rdN M rs) {o1 o2 : Ov} {e1 e2 c1 c2 : Nat} (h1 : OvOk 4 o1 ns.length (fl NT.v (ns.map NE.nt))) (h2 : OvOk 4 o2 (rdT M es).length (fl NT.v (rdT M es))) {w0 w : World} {S : List Nat} {L : Lst} (hw : Hp w0 S L w) (hi1 : ∀ z ∈ blkL e1 o1 (fl NT.v (ns.map NE.nt)), z ∈ L) (hi2 : ∀ z ∈ blkL e2 o2 (fl NT.v (rdT M es)), z ∈ L) (hx1 : ∀ z ∈ NX ns, z ∈ L) (hx2 : ∀ z ∈ DX es, z ∈ L) :
    CallW Tryz.prog 16 [.slice (ovp o1) ns.length c1, .slice (ovp o2) (rdT M es).length c2] w fun v _ => v = .bool true := by
  have he : (ns.map NE.nt).map NT.say = (rdT M es).map NT.say := by
    rw [say_nt, hsay, rdT_say, rdN_say, rdN_say, hsim.sorted hp ha]
  obtain ⟨hl, hb⟩ := rdN_len hsim.ok hp hsay
  have h := samenotes_ok (ovp o1) (ovp o2) ns.length (rdT M es).length c1 c2 (ns.map NE.nt) (rdT M es) (List.length_map _).symm rfl (by rw [List.length_map]; omega) (fun x hx => by
    obtain ⟨y, hy, rfl⟩ := List.mem_map.1 hx
    have := hb y hy
    simp only [NE.nt]
    omega) w (RdSl.own' hw hi1 (by rw [List.length_map]; exact h1) NT.v_len) (RdSl.own' hw hi2 h2 NT.v_len) (nx_rd hns hw hx1) (fun x hx => by
    obtain ⟨e, he, rfl⟩ := List.mem_map.1 hx
    have hem := (List.mem_filter.1 he).1
    exact dx_rdv hem (hsim.vok e hem) hw hx2)
  rw [decide_eq_true he] at h
  exact h
theorem slV_some9 (b j : Nat) (k : List Value) (n : Nat) : slV (some (b, j, k)) n = .slice (some ⟨b, 0, none⟩) n (n + j) := rfl
theorem blkL_some9 (e b j : Nat) (k xs : List Value) : blkL e (some (b, j, k)) xs = [(b, .cells ⟨xs ++ k⟩ e (0, 0))] := rfl
set_option maxHeartbeats 4000000 in
theorem plays_ok (pk : Option Addr) (nk ck : Nat) (key : List Int) (hkn : nk = key.length) (hkc : nk ≤ ck) (hkb : Byt key) (pl : Option Addr) (cl : Nat) (ls : List SAct) (mask : Int) (w : World) (hkr : RdSl w pk u8V key) (hl : RdSl w pl SAct.v ls) (hls : ∀ x ∈ ls, x.okR w) :
    CallW Tryz.prog 5 [.slice pk nk ck, .slice pl ls.length cl, .int .i64 mask] w fun v _ => v = .bool true := by
  have hcut := fun w1 (h : Chg [] w w1) => cut26_ok pk nk ck key hkn hkc 70 (by decide) w1 (hkr.chg' h (fun _ => Off.nil _))
  have hKb : Byt (key.take 70) := hkb.take 70
  have hKl : (key.take 70).length ≤ 70 := by rw [List.length_take]; omega
  generalize key.take 70 = K at *
  have hmn := fun q c w1 h1 => new_ok q K.length c K rfl (by omega) w1 h1
  have hnw := fun w1 => stnew_ok w1
  have hu := u64_rng mask
  have htl := tab_len
  have hto : tabV.all Value.oneCell' = true := rfl
  have hmk := vmake_ok
  have hknw := fun w1 => known26_ok w1
  obtain ⟨tv, htv⟩ : ∃ tv, tv = tabV := ⟨_, rfl⟩
  rw [← htv] at htl hto hmk
  refine enterW (tb := tb) Tryz.func5 rfl Tryz.ntmps5 rfl ?_
  repeat' (first | (apply R.is1; first | (apply R.isBin; (apply R.pure; exact rfl; first | (apply Ok1.eqlP; (iterate 5 exact rfl)) | (apply Ok1.remN; exact rfl; exact rfl; omega; omega))) | (apply R.isCall; first | (apply R.callE (vs := [.slice pk nk ck, .int .i64 70]); (iterate 3 exact rfl); exact Ext.none _; intro w1 hw1; exact hcut w1 hw1.chg; rintro v Lo ⟨ov0, hov0, rfl, rfl⟩; rw [slV_eq hov0]) | (apply R.callE (vs := [.slice (ovp ov0) K.length (ovc ov0 K.length)]); (iterate 3 exact rfl); exact Ext.none _; intro w1 hw1; exact hmn _ _ w1 (rdown hov0 hw1 (Ext.mem (by (focus ((repeat' (exact Ext.here _ _)); done))))); rintro v Lo ⟨bk, ovk, rfl, hovk, _, rfl⟩) | (apply R.callP rfl rfl rfl hmk) | (apply R.callE (vs := []); (iterate 3 exact rfl); exact Ext.none _; intro w1 hw1; exact hnw w1; rintro v Lo ⟨bs, bm, rfl, rfl⟩)) | (apply R.pure; exact rfl; first | (apply Ok1.move; exact rfl) | (apply Ok1.assign; exact rfl) | (apply Ok1.convI64; (iterate 5 exact rfl); omega; omega) | (apply Ok1.conv; (iterate 5 exact rfl))) | (apply R.alloc; (iterate 3 exact rfl); intro)) | (apply R.is0; (apply R.store; (iterate 4 exact rfl); exact htl; exact hto; exact Upd.head; exact setE_all htl)) | apply R.nil | (apply T.is; first | (apply T.stop 9) | apply T.seq | apply T.region | apply T.skip | (apply T.cond_f; exact rfl)))
  refine ⟨?_⟩
  rename_i hl9 b8
  generalize hM : IntKind.u64.wrap mask % 256 = M
  have hM0 : 0 ≤ M ∧ M < 256 := by omega
  have hK : ∀ {Li Lr L : Lst} {w1 w2 : World}, Hp w [] L w1 → Ext L Li Lr → (∀ z ∈ KL bk ovk K, z ∈ Lr) → Chg (blks Li) w1 w2 → KeyR w2 bk K := fun h1 h2 h3 h4 => KeyR.keep hovk h1 h2 h3 h4
  have hK0 : ∀ {L : Lst} {w1 : World}, Hp w [] L w1 → (∀ z ∈ blkL 5 ov0 (u8s K), z ∈ L) → RdSl w1 (ovp ov0) u8V K := fun h1 h2 => rdown hov0 h1 h2
  generalize KL bk ovk K = LK at *
  generalize blkL 5 ov0 (u8s K) = L0 at *
  refine T.meetK (x := .seq (.region 9 _ _) _) (α := Unit) (I := fun _ => True) (σi := fun _ => []) (Li := fun _ => []) ?_ ?_
  rotate_left 1
  · intro _ _
    repeat' (first | (apply R.is1; first | (apply R.isCall; (apply R.callE (vs := []); (iterate 3 exact rfl); exact Ext.none _; intro w1 hw1; exact hknw w1; rintro v Lo ⟨rfl, rfl⟩)) | (apply R.pure; exact rfl; (apply Ok1.assign; exact rfl))) | apply R.nil | (apply T.is; first | apply T.seq | apply T.region | apply T.ret))
    (apply RetOk.t; exact rfl)
    rfl
  repeat' (first | (apply R.is1; (apply R.pure; exact rfl; (apply Ok1.assign; exact rfl))) | apply R.nil | (apply T.is; first | apply T.seq | apply T.region | apply T.block))
  apply T.loopK (α := Nat × SMs × Nat × Ov × List SE) (I := fun y => (y.1 ≤ ls.length ∧ y.1 ≤ 30) ∧ SimS y.2.1 y.2.2.1 y.2.2.2.2 ∧ OvOk 6 y.2.2.2.1 y.2.2.2.2.length (fl SE.v y.2.2.2.2)) (σi := fun y => [(0, .slice (ovp ov0) K.length (ovc ov0 K.length)), (1, .slice pl ls.length cl), (2, .int .i64 M), (7, .pointer (some ⟨bk, 0, none⟩)), (8, .pointer (some ⟨b8, 0, none⟩)), (9, .pointer (some ⟨bs, 0, none⟩)), (10, slV y.2.2.2.1 y.2.2.2.2.length), (11, .int .i64 y.1)]) (Li := fun y => (b8, .cells ⟨tv⟩ 34 (0, 0)) :: (LK ++ (L0 ++ (SL bs bm y.2.1 y.2.2.1 ++ (blkL 91 y.2.2.2.1 (fl SE.v y.2.2.2.2) ++ DX y.2.2.2.2))))) (μ := fun y => 30 - y.1) (i0 := (0, [], 0, none, []))
  · exact ⟨⟨Nat.zero_le _, Nat.zero_le _⟩, SimS.nil, OvOk.start 6⟩
  · exact ⟨rfl, rfl, rfl, rfl, rfl, rfl, rfl, rfl, trivial⟩
  · simp only [blkL, DX, List.flatMap_nil, List.nil_append, List.append_nil]
    (focus ((repeat' (first | exact Keep.nil _ | exact Ext.one _ _ | exact Ext.here _ _ | exact Ext.all _ | apply Keep.cons | apply Keep.app | apply Ext.cons)); done))
  rintro ⟨i, ms, clk, ov, es⟩ ⟨⟨hi, hi30⟩, hsim, hov⟩
  simp only at hi hi30 hsim hov ⊢
  by_cases hlt : i < ls.length ∧ i < 30
  case neg =>
    rcases Nat.lt_or_ge i ls.length with h1 | h1
    · have h2 : 30 ≤ i := by omega
      repeat' (first | (apply R.is1; first | (apply R.isBin; (apply R.pure; exact rfl; first | (apply Ok1.lss_t; exact rfl; exact rfl; omega) | (apply Ok1.lss_f; exact rfl; exact rfl; omega))) | (apply R.isCall; (apply R.pure; exact rfl; (apply Ok1.lenS; (iterate 3 exact rfl)))) | (apply R.pure; exact rfl; first | (apply Ok1.move; exact rfl) | (apply Ok1.pick_t; exact rfl; exact rfl))) | (apply R.isG; (apply R.guard_run; exact rfl; exact rfl)) | apply R.nil | (apply T.is; first | apply T.seq | apply T.region | apply T.exit | (apply T.cond_f; exact rfl)))
      exact ⟨(), trivial, trivial, Keep.nil _⟩
    · repeat' (first | (apply R.is1; first | (apply R.isBin; (apply R.pure; exact rfl; (apply Ok1.lss_f; exact rfl; exact rfl; omega))) | (apply R.isCall; (apply R.pure; exact rfl; (apply Ok1.lenS; (iterate 3 exact rfl)))) | (apply R.pure; exact rfl; first | (apply Ok1.move; exact rfl) | (apply Ok1.pick_f; exact rfl; exact rfl))) | (apply R.isG; (apply R.guard_not; (iterate 3 exact rfl))) | apply R.nil | (apply T.is; first | apply T.seq | apply T.region | apply T.exit | (apply T.cond_f; exact rfl)))
      exact ⟨(), trivial, trivial, Keep.nil _⟩
  obtain ⟨hlt1, hlt2⟩ := hlt
  obtain ⟨a, ha⟩ : ∃ a, ls[i]? = some a := ⟨_, List.getElem?_eq_getElem (by omega)⟩
  obtain ⟨b, o, hpe, H⟩ := hl.at ha
  replace H := H 10 SAct.v_len
  obtain ⟨⟨hnr, hnb, hnc⟩, hsr, hsb, hsc⟩ := hls a (List.mem_of_getElem? ha)
  obtain ⟨ak, ab, ⟨no, nr, nv, np, nc, nx⟩, ⟨so, sr, sv, sp, sc, sx⟩⟩ := a
  simp only [SAct.v] at H hnr hnb hnc hsr hsb hsc
  have hnt := fun w1 (hc : Chg [] w w1) => note26_ok no nr nv np nx.length nc nx rfl hnc w1 (hnr.chg' hc (fun _ => Off.nil _))
  have hyb : Byt (nx.take 70) := hnb.take 70
  have hyl : (nx.take 70).length ≤ 70 := by rw [List.length_take]; omega
  generalize nx.take 70 = ys at *
  have hsd := fun w1 (hc : Chg [] w w1) => sealed26_ok so sr sv sp sx.length sc sx rfl hsc w1 (hsr.chg' hc (fun _ => Off.nil _))
  have hzb : Byt (sx.take 110) := hsb.take 110
  have hzl : (sx.take 110).length ≤ 110 := by rw [List.length_take]; omega
  generalize sx.take 110 = zs at *
  simp only [ntC] at hnt hsd
  have hesl : es.length ≤ 64 := by rw [← hsim.len]; exact hsim.ok.few
  have hua := u64_rng ak
  have hdvf : ∀ o r, dver (o, r) es = verI ms (o, r) := fun o r => (hsim.ver (o, r)).symm
  generalize hLS : SL bs bm ms clk = LS at *
  generalize hLE : blkL 91 ov (fl SE.v es) = LE at *
  generalize hLD : DX es = LD at *
  have hER : ∀ {L : Lst} {w1 : World}, Hp w [] L w1 → (∀ z ∈ LE, z ∈ L) → RdSl w1 (ovp ov) SE.v es := fun h1 h2 => RdSl.own' h1 (hLE ▸ h2) hov SE.v_len
  have hdve := fun o r q c w1 h1 => vversion_ok q es.length c es rfl (by omega) o r w1 h1
  repeat' (first | (apply R.is1; first | (apply R.isBin; (apply R.pure; exact rfl; (apply Ok1.lss_t; exact rfl; exact rfl; omega))) | (apply R.isCall; first | (apply R.callE (vs := [.agg ⟨[.int .i64 no, .int .i64 nr, .int .i64 nv, .slice np nx.length nc]⟩]); (iterate 3 exact rfl); exact Ext.none _; intro w1 hw1; exact hnt w1 hw1.chg; rintro v Lo ⟨ov13, hov13, rfl, rfl⟩) | (apply R.pure; exact rfl; (apply Ok1.lenS; (iterate 3 exact rfl)))) | (apply R.pure; exact rfl; first | (apply Ok1.indexAddrP; (iterate 4 exact rfl); exact hpe; exact rfl; omega; omega) | (apply Ok1.load; exact rfl; first | (apply Ld.rowk0 H; exact rfl; exact List.not_mem_nil; (iterate 3 exact rfl)) | (apply Ld.ownk; exact rfl; exact rfl; exact At.head; exact rfl)) | (apply Ok1.move; exact rfl) | (apply Ok1.fieldAddr; (iterate 5 exact rfl)) | (apply Ok1.pick_t; exact rfl; exact rfl)) | (apply R.alloc; (iterate 3 exact rfl); intro)) | (apply R.is0; (apply R.store; (iterate 6 exact rfl); exact Upd.head; exact rfl)) | (apply R.isG; (apply R.guard_run; exact rfl; exact rfl)) | apply R.nil | (apply T.is; first | (apply T.stop 14) | apply T.seq | apply T.region | apply T.block | apply T.skip | (apply T.cond_t; exact rfl)))
  refine ⟨?_⟩
  rename_i b12 b13
  have hY0 : ∀ {L : Lst} {w1 : World}, Hp w [] L w1 → (∀ z ∈ blkL 5 ov13 (u8s ys), z ∈ L) → RdSl w1 (ovp ov13) u8V ys := fun h1 h2 => rdown hov13 h1 h2
  generalize hLY : blkL 5 ov13 (u8s ys) = LY at *
  rw [slV_eq hov]
  refine T.meetK (x := .seq (.region 14 _ _) _) (α := SMs × Nat × Ov × List SE) (I := fun y => SimS y.1 y.2.1 y.2.2.2 ∧ OvOk 6 y.2.2.1 y.2.2.2.length (fl SE.v y.2.2.2)) (σi := fun y => [(0, .slice (ovp ov0) K.length (ovc ov0 K.length)), (1, .slice pl ls.length cl), (2, .int .i64 M), (7, .pointer (some ⟨bk, 0, none⟩)), (8, .pointer (some ⟨b8, 0, none⟩)), (9, .pointer (some ⟨bs, 0, none⟩)), (10, slV y.2.2.1 y.2.2.2.length), (11, .int .i64 i), (13, .pointer (some ⟨b13, 0, none⟩))]) (Li := fun y => (b13, .cells ⟨[.int .i64 no, .int .i64 nr, .int .i64 nv, .slice (ovp ov13) ys.length (ovc ov13 ys.length)]⟩ 36 (0, 0)) :: (b8, .cells ⟨tv⟩ 34 (0, 0)) :: (LK ++ (L0 ++ (SL bs bm y.1 y.2.1 ++ (blkL 91 y.2.2.1 (fl SE.v y.2.2.2) ++ DX y.2.2.2))))) ?_ ?_
  · obtain ⟨ua, hua9⟩ : ∃ u, u = IntKind.u64.wrap ak := ⟨_, rfl⟩
    rw [← hua9] at hua
    have hue : ua % 3 = 0 ∨ ua % 3 = 1 ∨ ua % 3 = 2 := by omega
    rw [hua9] at hue hua
    rcases hue with h3 | h3 | h3
    · have hv2 := hsim.ok.ver2 (no, nr)
      have hdv1 := fun q c w1 h1 => hdve no nr q c w1 h1
      rw [hdvf] at hdv1
      have hpe := simPutE hsim (no, nr)
      have hs1 := fun w1 => stset_nokey bs bm ms clk no nr (ovp ov13) ys.length (ovc ov13 ys.length) hv2 w1
      rw [hLS] at hs1
      by_cases hE : nsE no nr (verI ms (no, nr) + 1) ys.length = 0
      case neg =>
        have hvs := fun w1 => vnseal_bad (ovp ov0) K.length (ovc ov0 K.length) no nr (verI ms (no, nr) + 1) (ovp ov13) ys.length (ovc ov13 ys.length) hE w1
        simp only [ntC] at hvs
        rw [← htv] at hvs
        have hs2 := fun w1 => stset_bad bs bm ms clk bk no nr (ovp ov13) ys.length (ovc ov13 ys.length) hE hv2 w1
        rw [hLS] at hs2
        generalize verI ms (no, nr) = vv at *
        generalize nsE no nr (vv + 1) ys.length = E at *
        repeat' (first | (apply R.is1; first | (apply R.isBin; (apply R.pure; exact rfl; first | (apply Ok1.add64; exact rfl; exact rfl; omega; omega) | (apply Ok1.eql_t; exact rfl; exact rfl; omega) | (apply Ok1.eql_f; exact rfl; exact rfl; omega) | (apply Ok1.neq_f; exact rfl; exact rfl; omega) | (apply Ok1.remN; exact rfl; exact rfl; omega; omega))) | (apply R.isCall; first | (apply R.callW (vs := [.slice (ovp ov) es.length (ovc ov es.length), .int .i64 no, .int .i64 nr]); (iterate 3 exact rfl); (intro w1 hw1; exact hdv1 _ _ w1 (hER hw1 (Ext.mem (by (focus ((repeat' (first | exact Ext.here _ _ | apply Ext.cons | apply Ext.app)); done)))))); rintro v rfl) | (apply R.callE (Li := LS) (vs := [.pointer (some ⟨bs, 0, none⟩), .pointer none, .int .i64 no, .int .i64 nr, .slice (ovp ov13) ys.length (ovc ov13 ys.length)]); (iterate 3 exact rfl); (focus ((repeat' (first | exact Ext.here _ _ | apply Ext.cons | apply Ext.app)); done)); intro w1 hw1; exact hs1 w1; rintro v Lo ⟨rfl, hq⟩; rw [hq]; clear hq) | (apply R.callE (vs := [.agg ⟨tv⟩, .slice (ovp ov0) K.length (ovc ov0 K.length), .agg ⟨[.int .i64 no, .int .i64 nr, .int .i64 (vv + 1), .slice (ovp ov13) ys.length (ovc ov13 ys.length)]⟩]); (iterate 3 exact rfl); exact Ext.none _; intro w1 hw1; exact hvs w1; rintro v Lo ⟨rfl, rfl⟩) | (apply R.callE (Li := LS) (vs := [.pointer (some ⟨bs, 0, none⟩), .pointer (some ⟨bk, 0, none⟩), .int .i64 no, .int .i64 nr, .slice (ovp ov13) ys.length (ovc ov13 ys.length)]); (iterate 3 exact rfl); (focus ((repeat' (exact Ext.here _ _)); done)); intro w1 hw1; exact hs2 w1; rintro v Lo ⟨rfl, hq⟩; rw [hq]; clear hq)) | (apply R.pure; exact rfl; first | (apply Ok1.load; exact rfl; first | (apply Ld.own1; exact rfl; exact rfl; (focus ((repeat' (first | exact At.head | apply At.tail | apply At.right)); done)); exact rfl) | (apply Ld.ownk; exact rfl; exact rfl; (focus ((repeat' (first | exact At.head | apply At.tail | apply At.right)); done)); exact subE_all htl)) | (apply Ok1.move; exact rfl) | (apply Ok1.fieldAddr; (iterate 5 exact rfl)) | (apply Ok1.assign; exact rfl) | (apply Ok1.build; (iterate 5 exact rfl)) | (apply Ok1.extract; exact rfl; exact rfl) | (apply Ok1.pick_f; exact rfl; exact rfl) | (apply Ok1.conv; (iterate 5 exact rfl))) | (apply R.alloc; (iterate 3 exact rfl); intro)) | (apply R.is0; (apply R.store; (iterate 6 exact rfl); exact Upd.head; exact rfl)) | (apply R.isG; (apply R.guard_run; exact rfl; exact rfl)) | apply R.nil | (apply T.is; first | apply T.seq | apply T.region | apply T.block | apply T.skip | (apply T.cond_t; exact rfl) | (apply T.cond_f; exact rfl)))
        refine ⟨(ms, clk, ov, es), ⟨hsim, hov⟩, ?_, ?_⟩
        · rw [slV_eq hov]; exact ⟨rfl, rfl, rfl, rfl, rfl, rfl, rfl, rfl, rfl, trivial⟩
        · simp only [hLS, hLE, hLD]
          (focus ((repeat' (first | exact Ext.one _ _ | exact Ext.here _ _ | exact Ext.all _ | apply Keep.cons | apply Keep.app | apply Keep.last | apply Ext.cons | apply Ext.app)); done))
      obtain ⟨hrt, h64⟩ := nsE_zero hE
      have hvs := fun w1 h1 h2 => vnseal_ok (ovp ov0) K.length (ovc ov0 K.length) K rfl (by omega) hKb no nr (verI ms (no, nr) + 1) (ovp ov13) ys.length (ovc ov13 ys.length) ys rfl hyb hrt h64 w1 h1 h2
      simp only [ntC] at hvs
      rw [← htv] at hvs
      have hs2 := fun w1 h1 h2 => stset_ok bs bm ms clk hsim.ok.ver bk K (by omega) hKb no nr (ovp ov13) ys.length (ovc ov13 ys.length) ys rfl hyb h64 hrt w1 h1 h2
      rw [hLS] at hs2
      have hIl : (nsI K no nr (verI ms (no, nr) + 1) ys).length = ys.length + 32 := sealI_len _ _ _ _
      have hsp : ∀ (bA vA bB : Ov), OvOk 1 bA (ys.length + 32) (u8s (nsI K no nr (verI ms (no, nr) + 1) ys)) → OvOk 1 vA ys.length (u8s ys) → OvOk 1 bB (ys.length + 32) (u8s (nsI K no nr (verI ms (no, nr) + 1) ys)) → SimS (putM ms clk (no, nr) ⟨no, nr, verI ms (no, nr) + 1, bA, nsI K no nr (verI ms (no, nr) + 1) ys, vA, ys, true⟩).1 (putM ms clk (no, nr) ⟨no, nr, verI ms (no, nr) + 1, bA, nsI K no nr (verI ms (no, nr) + 1) ys, vA, ys, true⟩).2 (dputM es ⟨no, nr, verI ms (no, nr) + 1, bB, nsI K no nr (verI ms (no, nr) + 1) ys, ov13, ys, true⟩) := by
        intro bA vA bB hbA hvA hbB
        exact (hsim.put (e := ⟨no, nr, verI ms (no, nr) + 1, bA, nsI K no nr (verI ms (no, nr) + 1) ys, vA, ys, true⟩) (x := ⟨no, nr, verI ms (no, nr) + 1, bB, nsI K no nr (verI ms (no, nr) + 1) ys, ov13, ys, true⟩) rfl hrt (by simp only [hIl]; exact hbA) hvA (by simp only [hIl]; omega) (by simp only; omega) (by simp only [hIl]; exact hbB) hov13).2
      have hpt := fun bB w1 (hE6 : dputE es (no, nr) = 0) h1 h2 => vput_ok (ovp ov) es.length (ovc ov es.length) es rfl (ovc_le9 hov) hesl ⟨no, nr, verI ms (no, nr) + 1, bB, nsI K no nr (verI ms (no, nr) + 1) ys, ov13, ys, true⟩ hE6 h1 hov13 w1 h2
      have hpf := fun bB w1 (hE6 : dputE es (no, nr) = 6) h2 => vput_full (ovp ov) es.length (ovc ov es.length) es rfl hesl ⟨no, nr, verI ms (no, nr) + 1, bB, nsI K no nr (verI ms (no, nr) + 1) ys, ov13, ys, true⟩ hE6 w1 h2
      simp only [SE.c, hIl] at hpt hpf
      generalize verI ms (no, nr) = vv at *
      generalize nsI K no nr (vv + 1) ys = I9 at *
      rcases dput_cases es (no, nr) with hE6 | hE6
      · rw [hE6] at hpe
        have hpt9 := fun bB w1 h1 h2 => hpt bB w1 hE6 h1 h2
        repeat' (first | (apply R.is1; first | (apply R.isBin; (apply R.pure; exact rfl; first | (apply Ok1.add64; exact rfl; exact rfl; omega; omega) | (apply Ok1.eql_t; exact rfl; exact rfl; omega) | (apply Ok1.neq_f; exact rfl; exact rfl; omega) | (apply Ok1.remN; exact rfl; exact rfl; omega; omega))) | (apply R.isCall; first | (apply R.callW (vs := [.slice (ovp ov) es.length (ovc ov es.length), .int .i64 no, .int .i64 nr]); (iterate 3 exact rfl); (intro w1 hw1; exact hdv1 _ _ w1 (hER hw1 (Ext.mem (by (focus ((repeat' (first | exact Ext.here _ _ | apply Ext.cons | apply Ext.app)); done)))))); rintro v rfl) | (apply R.callE (Li := LS) (vs := [.pointer (some ⟨bs, 0, none⟩), .pointer none, .int .i64 no, .int .i64 nr, .slice (ovp ov13) ys.length (ovc ov13 ys.length)]); (iterate 3 exact rfl); (focus ((repeat' (first | exact Ext.here _ _ | apply Ext.cons | apply Ext.app)); done)); intro w1 hw1; exact hs1 w1; rintro v Lo ⟨rfl, hq⟩; rw [hq]; clear hq) | (apply R.callE (vs := [.agg ⟨tv⟩, .slice (ovp ov0) K.length (ovc ov0 K.length), .agg ⟨[.int .i64 no, .int .i64 nr, .int .i64 (vv + 1), .slice (ovp ov13) ys.length (ovc ov13 ys.length)]⟩]); (iterate 3 exact rfl); exact Ext.none _; intro w1 hw1; exact hvs w1 (hK0 hw1 (Ext.mem (by (focus ((repeat' (first | exact Ext.here _ _ | apply Ext.cons | apply Ext.app)); done))))) (hY0 hw1 (Ext.mem (by (focus ((repeat' (first | exact Ext.here _ _ | apply Ext.cons)); done))))); rintro v Lo ⟨ovB, hovB, rfl, rfl⟩) | (apply R.callE (Li := LS) (vs := [.pointer (some ⟨bs, 0, none⟩), .pointer (some ⟨bk, 0, none⟩), .int .i64 no, .int .i64 nr, .slice (ovp ov13) ys.length (ovc ov13 ys.length)]); (iterate 3 exact rfl); (focus ((repeat' (exact Ext.here _ _)); done)); intro w1 hw1; exact hs2 w1 (fun w2 hc => hK hw1 (by (focus ((repeat' (exact Ext.here _ _)); done))) (Ext.mem (by (focus ((repeat' (first | exact Ext.here _ _ | apply Ext.cons | apply Ext.app)); done)))) hc) (fun w2 hc => (hY0 hw1 (Ext.mem (by (focus ((repeat' (first | exact Ext.here _ _ | apply Ext.cons | apply Ext.app)); done))))).chg' hc (fun _ => ovoff9 (e := 5) (xs := u8s ys) hw1 (by (focus ((repeat' (exact Ext.here _ _)); done))) (by rw [hLY]; exact Ext.mem (by (focus ((repeat' (first | exact Ext.here _ _ | apply Ext.cons | apply Ext.app)); done)))))); rintro v Lo ⟨rfl, bovA, vovA, hbA, hvA, rfl⟩) | (apply R.callE (vs := [.slice (ovp ov) es.length (ovc ov es.length), .agg ⟨[.int .i64 no, .int .i64 nr, .int .i64 (vv + 1), .slice (ovp ovB) (ys.length + 32) (ovc ovB (ys.length + 32)), .slice (ovp ov13) ys.length (ovc ov13 ys.length), .bool true]⟩]); (iterate 3 exact rfl); exact Ext.none _; intro w1 hw1; exact hpt9 ovB w1 hovB (hER hw1 (Ext.mem (by (focus ((repeat' (first | exact Ext.here _ _ | apply Ext.cons | apply Ext.app)); done))))); rintro v Lo ⟨ovN, hovN, rfl, rfl⟩)) | (apply R.pure; exact rfl; first | (apply Ok1.load; exact rfl; first | (apply Ld.own1; exact rfl; exact rfl; (focus ((repeat' (first | exact At.head | apply At.tail | apply At.right)); done)); exact rfl) | (apply Ld.ownk; exact rfl; exact rfl; (focus ((repeat' (first | exact At.head | apply At.tail | apply At.right)); done)); exact subE_all htl) | (apply Ld.ownk; exact rfl; exact rfl; exact At.head; exact rfl)) | (apply Ok1.move; exact rfl) | (apply Ok1.fieldAddr; (iterate 5 exact rfl)) | (apply Ok1.assign; exact rfl) | (apply Ok1.build; (iterate 5 exact rfl)) | (apply Ok1.extract; exact rfl; exact rfl) | (apply Ok1.pick_f; exact rfl; exact rfl) | (apply Ok1.conv; (iterate 5 exact rfl))) | (apply R.alloc; (iterate 3 exact rfl); intro)) | (apply R.is0; (apply R.store; (iterate 6 exact rfl); exact Upd.head; exact rfl)) | (apply R.isG; (apply R.guard_run; exact rfl; exact rfl)) | apply R.nil | (apply T.is; first | apply T.seq | apply T.region | apply T.block | apply T.skip | (apply T.cond_t; exact rfl) | (apply T.cond_f; exact rfl)))
        have hsp9 := hsp bovA vovA ovB hbA hvA hovB
        have hdx := dx_put es ⟨no, nr, vv + 1, ovB, I9, ov13, ys, true⟩
        generalize (⟨no, nr, vv + 1, bovA, I9, vovA, ys, true⟩ : SE) = eA at *
        simp only [SE.L, hLY, hLD, List.append_assoc] at hdx
        generalize dputM es ⟨no, nr, vv + 1, ovB, I9, ov13, ys, true⟩ = es2 at *
        refine ⟨((putM ms clk (no, nr) eA).1, (putM ms clk (no, nr) eA).2, ovN, es2), ⟨hsp9, hovN⟩, ⟨rfl, rfl, rfl, rfl, rfl, rfl, rfl, rfl, rfl, trivial⟩, ?_⟩
        refine Keep.trans9 (B := (b13, .cells ⟨[.int .i64 no, .int .i64 nr, .int .i64 nv, .slice (ovp ov13) ys.length (ovc ov13 ys.length)]⟩ 36 (0, 0)) :: (b8, .cells ⟨tv⟩ 34 (0, 0)) :: (LK ++ (L0 ++ (SL bs bm (putM ms clk (no, nr) eA).1 (putM ms clk (no, nr) eA).2 ++ (blkL 91 ovN (fl SE.v es2) ++ (blkL 5 ovB (u8s I9) ++ (LY ++ LD))))))) (by (focus ((repeat' (first | exact Ext.one _ _ | exact Ext.here _ _ | exact Ext.all _ | apply Keep.cons | apply Keep.app | apply Keep.last | apply Ext.cons | apply Ext.app)); done))) ?_
        exact .cons (.one _ _) (.cons (.one _ _) (.app (.here _ _) (.app (.here _ _) (.app (.here _ _) (.app (.here _ _) hdx)))))
      · rw [hE6] at hpe
        have hpt9 := fun bB w1 h2 => hpf bB w1 hE6 h2
        repeat' (first | (apply R.is1; first | (apply R.isBin; (apply R.pure; exact rfl; first | (apply Ok1.add64; exact rfl; exact rfl; omega; omega) | (apply Ok1.eql_t; exact rfl; exact rfl; omega) | (apply Ok1.neq_f; exact rfl; exact rfl; omega) | (apply Ok1.remN; exact rfl; exact rfl; omega; omega))) | (apply R.isCall; first | (apply R.callW (vs := [.slice (ovp ov) es.length (ovc ov es.length), .int .i64 no, .int .i64 nr]); (iterate 3 exact rfl); (intro w1 hw1; exact hdv1 _ _ w1 (hER hw1 (Ext.mem (by (focus ((repeat' (first | exact Ext.here _ _ | apply Ext.cons | apply Ext.app)); done)))))); rintro v rfl) | (apply R.callE (Li := LS) (vs := [.pointer (some ⟨bs, 0, none⟩), .pointer none, .int .i64 no, .int .i64 nr, .slice (ovp ov13) ys.length (ovc ov13 ys.length)]); (iterate 3 exact rfl); (focus ((repeat' (first | exact Ext.here _ _ | apply Ext.cons | apply Ext.app)); done)); intro w1 hw1; exact hs1 w1; rintro v Lo ⟨rfl, hq⟩; rw [hq]; clear hq) | (apply R.callE (vs := [.agg ⟨tv⟩, .slice (ovp ov0) K.length (ovc ov0 K.length), .agg ⟨[.int .i64 no, .int .i64 nr, .int .i64 (vv + 1), .slice (ovp ov13) ys.length (ovc ov13 ys.length)]⟩]); (iterate 3 exact rfl); exact Ext.none _; intro w1 hw1; exact hvs w1 (hK0 hw1 (Ext.mem (by (focus ((repeat' (first | exact Ext.here _ _ | apply Ext.cons | apply Ext.app)); done))))) (hY0 hw1 (Ext.mem (by (focus ((repeat' (first | exact Ext.here _ _ | apply Ext.cons)); done))))); rintro v Lo ⟨ovB, hovB, rfl, rfl⟩) | (apply R.callE (Li := LS) (vs := [.pointer (some ⟨bs, 0, none⟩), .pointer (some ⟨bk, 0, none⟩), .int .i64 no, .int .i64 nr, .slice (ovp ov13) ys.length (ovc ov13 ys.length)]); (iterate 3 exact rfl); (focus ((repeat' (exact Ext.here _ _)); done)); intro w1 hw1; exact hs2 w1 (fun w2 hc => hK hw1 (by (focus ((repeat' (exact Ext.here _ _)); done))) (Ext.mem (by (focus ((repeat' (first | exact Ext.here _ _ | apply Ext.cons | apply Ext.app)); done)))) hc) (fun w2 hc => (hY0 hw1 (Ext.mem (by (focus ((repeat' (first | exact Ext.here _ _ | apply Ext.cons | apply Ext.app)); done))))).chg' hc (fun _ => ovoff9 (e := 5) (xs := u8s ys) hw1 (by (focus ((repeat' (exact Ext.here _ _)); done))) (by rw [hLY]; exact Ext.mem (by (focus ((repeat' (first | exact Ext.here _ _ | apply Ext.cons | apply Ext.app)); done)))))); rintro v Lo ⟨rfl, bovA, vovA, hbA, hvA, rfl⟩) | (apply R.callE (vs := [.slice (ovp ov) es.length (ovc ov es.length), .agg ⟨[.int .i64 no, .int .i64 nr, .int .i64 (vv + 1), .slice (ovp ovB) (ys.length + 32) (ovc ovB (ys.length + 32)), .slice (ovp ov13) ys.length (ovc ov13 ys.length), .bool true]⟩]); (iterate 3 exact rfl); exact Ext.none _; intro w1 hw1; exact hpt9 ovB w1 (hER hw1 (Ext.mem (by (focus ((repeat' (first | exact Ext.here _ _ | apply Ext.cons | apply Ext.app)); done))))); rintro v Lo ⟨rfl, rfl⟩)) | (apply R.pure; exact rfl; first | (apply Ok1.load; exact rfl; first | (apply Ld.own1; exact rfl; exact rfl; (focus ((repeat' (first | exact At.head | apply At.tail | apply At.right)); done)); exact rfl) | (apply Ld.ownk; exact rfl; exact rfl; (focus ((repeat' (first | exact At.head | apply At.tail | apply At.right)); done)); exact subE_all htl) | (apply Ld.ownk; exact rfl; exact rfl; exact At.head; exact rfl)) | (apply Ok1.move; exact rfl) | (apply Ok1.fieldAddr; (iterate 5 exact rfl)) | (apply Ok1.assign; exact rfl) | (apply Ok1.build; (iterate 5 exact rfl)) | (apply Ok1.extract; exact rfl; exact rfl) | (apply Ok1.pick_f; exact rfl; exact rfl) | (apply Ok1.conv; (iterate 5 exact rfl))) | (apply R.alloc; (iterate 3 exact rfl); intro)) | (apply R.is0; (apply R.store; (iterate 6 exact rfl); exact Upd.head; exact rfl)) | (apply R.isG; (apply R.guard_run; exact rfl; exact rfl)) | apply R.nil | (apply T.is; first | apply T.seq | apply T.region | apply T.block | apply T.skip | (apply T.cond_t; exact rfl) | (apply T.cond_f; exact rfl)))
        have hsp9 := hsp bovA vovA ovB hbA hvA hovB
        rw [dput_full (x := ⟨no, nr, vv + 1, ovB, I9, ov13, ys, true⟩) hE6] at hsp9
        generalize (⟨no, nr, vv + 1, bovA, I9, vovA, ys, true⟩ : SE) = eA at *
        refine ⟨((putM ms clk (no, nr) eA).1, (putM ms clk (no, nr) eA).2, ov, es), ⟨hsp9, hov⟩, ?_, ?_⟩
        · rw [slV_eq hov]; exact ⟨rfl, rfl, rfl, rfl, rfl, rfl, rfl, rfl, rfl, trivial⟩
        · simp only [hLE, hLD]
          (focus ((repeat' (first | exact Ext.one _ _ | exact Ext.here _ _ | exact Ext.all _ | apply Keep.cons | apply Keep.app | apply Keep.last | apply Ext.cons | apply Ext.app)); done))
    · have hof := fun p1 c1 (e : NE) w1 h1 => of26_ok p1 1 c1 [e.nt] rfl (by simp) w1 h1
      have hpe := simPutE hsim (so, sr)
      have hdv1 := fun q c w1 h1 => hdve so sr q c w1 h1
      rw [hdvf] at hdv1
      have hck := fun q c w1 => vcheck26_ok so sr sv q zs.length c w1
      simp only [ntC] at hck
      have hver9 : verI ms (so, sr) = verI ms (so, sr) := rfl
      obtain ⟨vv, hvv⟩ : ∃ vv, vv = verI ms (so, sr) := ⟨_, rfl⟩
      obtain ⟨tk, htk⟩ : ∃ tk, tk = takC so sr sv zs.length := ⟨_, rfl⟩
      rw [← hvv] at hdv1
      rw [← htk] at hck
      repeat' (first | (apply R.is1; first | (apply R.isBin; (apply R.pure; exact rfl; first | (apply Ok1.eql_t; exact rfl; exact rfl; omega) | (apply Ok1.eql_f; exact rfl; exact rfl; omega) | (apply Ok1.remN; exact rfl; exact rfl; omega; omega))) | (apply R.isCall; first | (apply R.callE (vs := [.agg ⟨[.int .i64 so, .int .i64 sr, .int .i64 sv, .slice sp sx.length sc]⟩]); (iterate 3 exact rfl); exact Ext.none _; intro w1 hw1; exact hsd w1 hw1.chg; rintro v Lo ⟨ovs, hovs, rfl, rfl⟩) | (apply R.callE (vs := [.slice (some ⟨_, 0, none⟩) 1 1]); (iterate 3 exact rfl); exact Ext.none _; intro w1 hw1; exact hof _ _ ⟨so, sr, sv, ovs, zs⟩ w1 (one_row hw1 (by exact At.head)); rintro v Lo ⟨ovn, hovn, rfl, rfl⟩; obtain ⟨bn, jn, kn, rfl⟩ := ovsome hovn (by decide); simp only [slV_some9, blkL_some9, List.cons_append, List.nil_append]) | (apply R.callW (vs := [.agg ⟨[.int .i64 so, .int .i64 sr, .int .i64 sv, .slice (ovp ovs) zs.length (ovc ovs zs.length)]⟩]); (iterate 3 exact rfl); (intro w1 hw1; exact hck _ _ w1); rintro v rfl)) | (apply R.pure; exact rfl; first | (apply Ok1.load; exact rfl; first | (apply Ld.own1; exact rfl; exact rfl; (focus ((repeat' (first | exact At.head | apply At.tail | apply At.right)); done)); exact rfl) | (apply Ld.ownk; exact rfl; exact rfl; (focus ((repeat' (first | exact At.head | apply At.tail | apply At.right)); done)); exact rfl) | (apply Ld.ownrowk (f := 0) (j := 0) (v := NT.v); exact At.head; exact NT.v_len; (iterate 5 exact rfl))) | (apply Ok1.fieldAddr; (iterate 5 exact rfl)) | (apply Ok1.assign; exact rfl) | (apply Ok1.indexAddr; (iterate 5 exact rfl); omega; omega) | (apply Ok1.conv; (iterate 5 exact rfl))) | (apply R.alloc; (iterate 3 exact rfl); intro) | (apply R.buildSlice; (iterate 12 exact rfl); intro)) | (apply R.is0; (apply R.store; (iterate 6 exact rfl); exact Upd.head; exact rfl)) | apply R.nil | (apply T.is; first | (apply T.stop 36) | apply T.seq | apply T.region | apply T.block | (apply T.cond_t; exact rfl) | (apply T.cond_f; exact rfl)))
      refine ⟨?_⟩
      rename_i b17 bsl b18
      have hZr : ∀ {L : Lst} {w1 : World}, Hp w [] L w1 → (∀ z ∈ blkL 5 ovs (u8s zs), z ∈ L) → RdSl w1 (ovp ovs) u8V zs := fun h1 h2 => rdown hovs h1 h2
      have hcapz := ovc_le9 hovs
      generalize hLZ : blkL 5 ovs (u8s zs) = LZ at hZr
      refine T.meetK (x := .seq (.region 36 _ _) _) (α := Unit) (I := fun _ => True) (σi := fun _ => [(0, .slice (ovp ov0) K.length (ovc ov0 K.length)), (1, .slice pl ls.length cl), (2, .int .i64 M), (7, .pointer (some ⟨bk, 0, none⟩)), (8, .pointer (some ⟨b8, 0, none⟩)), (9, .pointer (some ⟨bs, 0, none⟩)), (10, .slice (ovp ov) es.length (ovc ov es.length)), (11, .int .i64 i), (12, .pointer (some ⟨b12, 0, none⟩)), (13, .pointer (some ⟨b13, 0, none⟩)), (17, .pointer (some ⟨b17, 0, none⟩)), (18, .pointer (some ⟨b18, 0, none⟩)), (19, .int .i64 (if tk = 0 ∧ sv ≤ vv then 9 else tk))]) (Li := fun _ => (b18, .cells ⟨[.int .i64 so, .int .i64 sr, .int .i64 sv, .slice (ovp ovs) zs.length (ovc ovs zs.length)]⟩ 26 (0, 0)) :: (b17, .cells ⟨[.int .i64 so, .int .i64 sr, .int .i64 sv, .slice (ovp ovs) zs.length (ovc ovs zs.length)]⟩ 38 (0, 0)) :: (b13, .cells ⟨[.int .i64 no, .int .i64 nr, .int .i64 nv, .slice (ovp ov13) ys.length (ovc ov13 ys.length)]⟩ 36 (0, 0)) :: (b12, .cells ⟨[.int .i64 ak, .bool ab, .int .i64 no, .int .i64 nr, .int .i64 nv, .slice np nx.length nc, .int .i64 so, .int .i64 sr, .int .i64 sv, .slice sp sx.length sc]⟩ 86 (0, 0)) :: (b8, .cells ⟨tv⟩ 34 (0, 0)) :: (LZ ++ (LK ++ (L0 ++ (LS ++ (LE ++ LD)))))) ?_ ?_
      · refine T.weakK (σ' := [(0, .slice (ovp ov0) K.length (ovc ov0 K.length)), (1, .slice pl ls.length cl), (2, .int .i64 M), (7, .pointer (some ⟨bk, 0, none⟩)), (8, .pointer (some ⟨b8, 0, none⟩)), (9, .pointer (some ⟨bs, 0, none⟩)), (10, .slice (ovp ov) es.length (ovc ov es.length)), (11, .int .i64 i), (12, .pointer (some ⟨b12, 0, none⟩)), (13, .pointer (some ⟨b13, 0, none⟩)), (17, .pointer (some ⟨b17, 0, none⟩)), (18, .pointer (some ⟨b18, 0, none⟩)), (19, .int .i64 tk)]) (L' := (b18, .cells ⟨[.int .i64 so, .int .i64 sr, .int .i64 sv, .slice (ovp ovs) zs.length (ovc ovs zs.length)]⟩ 26 (0, 0)) :: (b17, .cells ⟨[.int .i64 so, .int .i64 sr, .int .i64 sv, .slice (ovp ovs) zs.length (ovc ovs zs.length)]⟩ 38 (0, 0)) :: (b13, .cells ⟨[.int .i64 no, .int .i64 nr, .int .i64 nv, .slice (ovp ov13) ys.length (ovc ov13 ys.length)]⟩ 36 (0, 0)) :: (b12, .cells ⟨[.int .i64 ak, .bool ab, .int .i64 no, .int .i64 nr, .int .i64 nv, .slice np nx.length nc, .int .i64 so, .int .i64 sr, .int .i64 sv, .slice sp sx.length sc]⟩ 86 (0, 0)) :: (b8, .cells ⟨tv⟩ 34 (0, 0)) :: (LZ ++ (LK ++ (L0 ++ (LS ++ (LE ++ LD)))))) ?_ (by rw [← hLZ]; (focus ((repeat' (first | exact Ext.one _ _ | exact Ext.here _ _ | exact Ext.all _ | apply Keep.cons | apply Keep.app | apply Keep.last | apply Ext.cons | apply Ext.app)); done))) ⟨rfl, rfl, rfl, rfl, rfl, rfl, rfl, rfl, rfl, rfl, rfl, rfl, rfl, trivial⟩
        by_cases h1 : tk = 0
        · by_cases h2 : sv ≤ vv
          · rw [if_pos ⟨h1, h2⟩]
            repeat' (first | (apply R.is1; (apply R.pure; exact rfl; (apply Ok1.assign; exact rfl))) | apply R.nil | (apply T.is; first | (apply T.drawC (id := 36) [0] (by decide); ((apply A.take 0; exact rfl; exact rfl; kernel_rfl; kernel_rfl; kernel_rfl; (apply Ok1.move; exact rfl)) <;> ((apply A.take 1; exact rfl; exact rfl; kernel_rfl; kernel_rfl; kernel_rfl; (apply Ok1.eql_t; exact rfl; exact rfl; omega))) <;> (apply A.take 2; exact rfl; exact rfl; kernel_rfl; kernel_rfl; kernel_rfl; (apply Ok1.move; exact rfl)) <;> ((apply A.takeG 3; exact rfl; exact rfl; rotate_left 3; exact rfl; exact rfl; rotate_right 3; kernel_rfl; kernel_rfl; kernel_rfl; (apply Ok1.fieldAddr; (iterate 5 exact rfl)))) <;> ((apply A.takeG 4; exact rfl; exact rfl; rotate_left 3; exact rfl; exact rfl; rotate_right 3; kernel_rfl; kernel_rfl; kernel_rfl; (apply Ok1.load; exact rfl; (apply Ld.own1; exact rfl; exact rfl; exact At.head; exact rfl)))) <;> ((apply A.takeG 5; exact rfl; exact rfl; rotate_left 3; exact rfl; exact rfl; rotate_right 3; kernel_rfl; kernel_rfl; kernel_rfl; (apply Ok1.move; exact rfl))) <;> ((apply A.takeG 6; exact rfl; exact rfl; rotate_left 3; exact rfl; exact rfl; rotate_right 3; kernel_rfl; kernel_rfl; kernel_rfl; (apply Ok1.fieldAddr; (iterate 5 exact rfl)))) <;> ((apply A.takeG 7; exact rfl; exact rfl; rotate_left 3; exact rfl; exact rfl; rotate_right 3; kernel_rfl; kernel_rfl; kernel_rfl; (apply Ok1.load; exact rfl; (apply Ld.own1; exact rfl; exact rfl; exact At.head; exact rfl)))) <;> ((apply A.takeG 8; exact rfl; exact rfl; rotate_left 3; exact rfl; exact rfl; rotate_right 3; kernel_rfl; kernel_rfl; kernel_rfl; (apply Ok1.fieldAddr; (iterate 5 exact rfl)))) <;> ((apply A.takeG 9; exact rfl; exact rfl; rotate_left 3; exact rfl; exact rfl; rotate_right 3; kernel_rfl; kernel_rfl; kernel_rfl; (apply Ok1.load; exact rfl; (apply Ld.own1; exact rfl; exact rfl; exact At.head; exact rfl)))) <;> (apply A.one 10; kernel_rfl; exact rfl; (((apply R.isG; apply R.guard_run; exact rfl; exact rfl; ((apply R.callW (vs := [.slice (ovp ov) es.length (ovc ov es.length), .int .i64 so, .int .i64 sr]); (iterate 3 exact rfl); (intro w1 hw1; exact hdv1 _ _ w1 (hER hw1 (Ext.mem (by (focus ((repeat' (first | exact Ext.here _ _ | apply Ext.cons | apply Ext.app)); done)))))); rintro v rfl))))); apply R.nil; refine ⟨?_, ?_⟩; (focus ((repeat' (first | exact trivial | (refine ⟨?_, ?_⟩; exact At.head)))))) <;> ((apply A.takeG 11; exact rfl; exact rfl; rotate_left 3; exact rfl; exact rfl; rotate_right 3; kernel_rfl; kernel_rfl; kernel_rfl; (apply Ok1.leq_t; exact rfl; exact rfl; omega))) <;> (apply A.take 12; exact rfl; exact rfl; kernel_rfl; kernel_rfl; kernel_rfl; (apply Ok1.pick_t; exact rfl; exact rfl)) <;> (apply A.done; kernel_rfl))) | apply T.seq | apply T.region | (apply T.cond_t; exact rfl)))
            all_goals exact ⟨(), trivial, ⟨rfl, rfl, rfl, rfl, rfl, rfl, rfl, rfl, rfl, rfl, rfl, rfl, rfl, trivial⟩, by (focus ((repeat' (first | exact Ext.one _ _ | exact Ext.here _ _ | exact Ext.all _ | apply Keep.cons | apply Keep.app | apply Keep.last)); done))⟩
          · rw [if_neg (fun g => h2 g.2)]
            repeat' ((apply T.is; first | (apply T.drawC (id := 36) [0] (by decide); ((apply A.take 0; exact rfl; exact rfl; kernel_rfl; kernel_rfl; kernel_rfl; (apply Ok1.move; exact rfl)) <;> ((apply A.take 1; exact rfl; exact rfl; kernel_rfl; kernel_rfl; kernel_rfl; (apply Ok1.eql_t; exact rfl; exact rfl; omega))) <;> (apply A.take 2; exact rfl; exact rfl; kernel_rfl; kernel_rfl; kernel_rfl; (apply Ok1.move; exact rfl)) <;> ((apply A.takeG 3; exact rfl; exact rfl; rotate_left 3; exact rfl; exact rfl; rotate_right 3; kernel_rfl; kernel_rfl; kernel_rfl; (apply Ok1.fieldAddr; (iterate 5 exact rfl)))) <;> ((apply A.takeG 4; exact rfl; exact rfl; rotate_left 3; exact rfl; exact rfl; rotate_right 3; kernel_rfl; kernel_rfl; kernel_rfl; (apply Ok1.load; exact rfl; (apply Ld.own1; exact rfl; exact rfl; exact At.head; exact rfl)))) <;> ((apply A.takeG 5; exact rfl; exact rfl; rotate_left 3; exact rfl; exact rfl; rotate_right 3; kernel_rfl; kernel_rfl; kernel_rfl; (apply Ok1.move; exact rfl))) <;> ((apply A.takeG 6; exact rfl; exact rfl; rotate_left 3; exact rfl; exact rfl; rotate_right 3; kernel_rfl; kernel_rfl; kernel_rfl; (apply Ok1.fieldAddr; (iterate 5 exact rfl)))) <;> ((apply A.takeG 7; exact rfl; exact rfl; rotate_left 3; exact rfl; exact rfl; rotate_right 3; kernel_rfl; kernel_rfl; kernel_rfl; (apply Ok1.load; exact rfl; (apply Ld.own1; exact rfl; exact rfl; exact At.head; exact rfl)))) <;> ((apply A.takeG 8; exact rfl; exact rfl; rotate_left 3; exact rfl; exact rfl; rotate_right 3; kernel_rfl; kernel_rfl; kernel_rfl; (apply Ok1.fieldAddr; (iterate 5 exact rfl)))) <;> ((apply A.takeG 9; exact rfl; exact rfl; rotate_left 3; exact rfl; exact rfl; rotate_right 3; kernel_rfl; kernel_rfl; kernel_rfl; (apply Ok1.load; exact rfl; (apply Ld.own1; exact rfl; exact rfl; exact At.head; exact rfl)))) <;> (apply A.one 10; kernel_rfl; exact rfl; (((apply R.isG; apply R.guard_run; exact rfl; exact rfl; ((apply R.callW (vs := [.slice (ovp ov) es.length (ovc ov es.length), .int .i64 so, .int .i64 sr]); (iterate 3 exact rfl); (intro w1 hw1; exact hdv1 _ _ w1 (hER hw1 (Ext.mem (by (focus ((repeat' (first | exact Ext.here _ _ | apply Ext.cons | apply Ext.app)); done)))))); rintro v rfl))))); apply R.nil; refine ⟨?_, ?_⟩; (focus ((repeat' (first | exact trivial | (refine ⟨?_, ?_⟩; exact At.head)))))) <;> ((apply A.takeG 11; exact rfl; exact rfl; rotate_left 3; exact rfl; exact rfl; rotate_right 3; kernel_rfl; kernel_rfl; kernel_rfl; (apply Ok1.leq_f; exact rfl; exact rfl; omega))) <;> (apply A.take 12; exact rfl; exact rfl; kernel_rfl; kernel_rfl; kernel_rfl; (apply Ok1.pick_t; exact rfl; exact rfl)) <;> (apply A.done; kernel_rfl))) | apply T.seq | apply T.skip | (apply T.cond_f; exact rfl)))
            all_goals exact ⟨(), trivial, ⟨rfl, rfl, rfl, rfl, rfl, rfl, rfl, rfl, rfl, rfl, rfl, rfl, rfl, trivial⟩, by (focus ((repeat' (first | exact Ext.one _ _ | exact Ext.here _ _ | exact Ext.all _ | apply Keep.cons | apply Keep.app | apply Keep.last)); done))⟩
        · rw [if_neg (fun g => h1 g.1)]
          repeat' ((apply T.is; first | (apply T.drawC (id := 36) [0] (by decide); ((apply A.take 0; exact rfl; exact rfl; kernel_rfl; kernel_rfl; kernel_rfl; (apply Ok1.move; exact rfl)) <;> ((apply A.take 1; exact rfl; exact rfl; kernel_rfl; kernel_rfl; kernel_rfl; (apply Ok1.eql_f; exact rfl; exact rfl; omega))) <;> (apply A.take 2; exact rfl; exact rfl; kernel_rfl; kernel_rfl; kernel_rfl; (apply Ok1.move; exact rfl)) <;> ((apply A.skipG 3; exact rfl; exact rfl; rotate_left 3; exact rfl; exact rfl; rotate_right 3; kernel_rfl; kernel_rfl; kernel_rfl)) <;> ((apply A.skipG 4; exact rfl; exact rfl; rotate_left 3; exact rfl; exact rfl; rotate_right 3; kernel_rfl; kernel_rfl; kernel_rfl)) <;> ((apply A.skipG 5; exact rfl; exact rfl; rotate_left 3; exact rfl; exact rfl; rotate_right 3; kernel_rfl; kernel_rfl; kernel_rfl)) <;> ((apply A.skipG 6; exact rfl; exact rfl; rotate_left 3; exact rfl; exact rfl; rotate_right 3; kernel_rfl; kernel_rfl; kernel_rfl)) <;> ((apply A.skipG 7; exact rfl; exact rfl; rotate_left 3; exact rfl; exact rfl; rotate_right 3; kernel_rfl; kernel_rfl; kernel_rfl)) <;> ((apply A.skipG 8; exact rfl; exact rfl; rotate_left 3; exact rfl; exact rfl; rotate_right 3; kernel_rfl; kernel_rfl; kernel_rfl)) <;> ((apply A.skipG 9; exact rfl; exact rfl; rotate_left 3; exact rfl; exact rfl; rotate_right 3; kernel_rfl; kernel_rfl; kernel_rfl)) <;> (apply A.one 10; kernel_rfl; exact rfl; (((apply R.isG; (apply R.guard_not; (iterate 3 exact rfl))))); apply R.nil; refine ⟨?_, ?_⟩; (focus ((repeat' (first | exact trivial | (refine ⟨?_, ?_⟩; exact At.head)))))) <;> ((apply A.skipG 11; exact rfl; exact rfl; rotate_left 3; exact rfl; exact rfl; rotate_right 3; kernel_rfl; kernel_rfl; kernel_rfl)) <;> (apply A.take 12; exact rfl; exact rfl; kernel_rfl; kernel_rfl; kernel_rfl; (apply Ok1.pick_f; exact rfl; exact rfl)) <;> (apply A.done; kernel_rfl))) | apply T.seq | apply T.skip | (apply T.cond_f; exact rfl)))
          all_goals exact ⟨(), trivial, ⟨rfl, rfl, rfl, rfl, rfl, rfl, rfl, rfl, rfl, rfl, rfl, rfl, rfl, trivial⟩, by (focus ((repeat' (first | exact Ext.one _ _ | exact Ext.here _ _ | exact Ext.all _ | apply Keep.cons | apply Keep.app | apply Keep.last)); done))⟩
      intro _ _
      obtain ⟨B1, hB1⟩ : ∃ B1 : Int, B1 = if tk = 0 ∧ sv ≤ vv then 9 else tk := ⟨_, rfl⟩
      rw [← hB1]
      repeat' (first | (apply R.is1; first | (apply R.pure; exact rfl; first | (apply Ok1.load; exact rfl; (apply Ld.ownk; exact rfl; exact rfl; exact At.head; exact rfl)) | (apply Ok1.build; (iterate 5 exact rfl))) | (apply R.alloc; (iterate 3 exact rfl); intro)) | (apply R.is0; (apply R.store; (iterate 6 exact rfl); exact Upd.head; exact rfl)) | apply R.nil | (apply T.is; first | (apply T.stop 39) | apply T.seq | apply T.region))
      refine ⟨?_⟩
      rename_i b20
      refine T.meetK (x := .seq (.region 39 _ _) _) (α := SE × Int) (I := fun y => OvOk 1 y.1.vov y.1.val.length (u8s y.1.val) ∧ y.1.o = so ∧ y.1.r = sr ∧ y.1.ver = sv ∧ y.1.bov = ovs ∧ y.1.body = zs ∧ ((B1 ≠ 0 ∧ y.2 = B1) ∨ (B1 = 0 ∧ ab = false ∧ y.2 = 0 ∧ y.1.val = [] ∧ y.1.op = false) ∨ (B1 = 0 ∧ ab = true ∧ noE K so sr sv zs ≠ 0 ∧ y.2 = noE K so sr sv zs) ∨ (B1 = 0 ∧ ab = true ∧ noE K so sr sv zs = 0 ∧ y.2 = 0 ∧ y.1.val = noI K so sr sv zs ∧ y.1.op = true))) (σi := fun y => [(0, .slice (ovp ov0) K.length (ovc ov0 K.length)), (1, .slice pl ls.length cl), (2, .int .i64 M), (7, .pointer (some ⟨bk, 0, none⟩)), (8, .pointer (some ⟨b8, 0, none⟩)), (9, .pointer (some ⟨bs, 0, none⟩)), (10, .slice (ovp ov) es.length (ovc ov es.length)), (11, .int .i64 i), (12, .pointer (some ⟨b12, 0, none⟩)), (13, .pointer (some ⟨b13, 0, none⟩)), (17, .pointer (some ⟨b17, 0, none⟩)), (19, .int .i64 y.2), (20, .pointer (some ⟨b20, 0, none⟩))]) (Li := fun y => (b20, .cells ⟨y.1.c⟩ 91 (0, 0)) :: (b17, .cells ⟨[.int .i64 so, .int .i64 sr, .int .i64 sv, .slice (ovp ovs) zs.length (ovc ovs zs.length)]⟩ 38 (0, 0)) :: (b13, .cells ⟨[.int .i64 no, .int .i64 nr, .int .i64 nv, .slice (ovp ov13) ys.length (ovc ov13 ys.length)]⟩ 36 (0, 0)) :: (b12, .cells ⟨[.int .i64 ak, .bool ab, .int .i64 no, .int .i64 nr, .int .i64 nv, .slice np nx.length nc, .int .i64 so, .int .i64 sr, .int .i64 sv, .slice sp sx.length sc]⟩ 86 (0, 0)) :: (b8, .cells ⟨tv⟩ 34 (0, 0)) :: (blkL 5 y.1.vov (u8s y.1.val) ++ (LZ ++ (LK ++ (L0 ++ (LS ++ (LE ++ LD))))))) ?_ ?_
      · by_cases hb1 : B1 = 0
        case neg =>
          repeat' (first | (apply R.is1; first | (apply R.isBin; (apply R.pure; exact rfl; (apply Ok1.eql_f; exact rfl; exact rfl; omega))) | (apply R.pure; exact rfl; first | (apply Ok1.move; exact rfl) | (apply Ok1.pick_f; exact rfl; exact rfl))) | (apply R.isG; (apply R.guard_not; (iterate 3 exact rfl))) | apply R.nil | (apply T.is; first | apply T.seq | apply T.region | apply T.skip | (apply T.cond_f; exact rfl)))
          refine ⟨(⟨so, sr, sv, ovs, zs, none, [], false⟩, B1), ⟨OvOk.start 1, rfl, rfl, rfl, rfl, rfl, .inl ⟨hb1, rfl⟩⟩, ⟨rfl, rfl, rfl, rfl, rfl, rfl, rfl, rfl, rfl, rfl, rfl, rfl, rfl, trivial⟩, ?_⟩
          simp only [SE.c, ovp, ovc, List.length_nil, blkL, List.nil_append]
          (focus ((repeat' (first | exact Ext.one _ _ | exact Ext.here _ _ | exact Ext.all _ | apply Keep.cons | apply Keep.app | apply Keep.last | apply Ext.cons)); done))
        cases ab with
        | false =>
          repeat' (first | (apply R.is1; first | (apply R.isBin; (apply R.pure; exact rfl; (apply Ok1.eql_t; exact rfl; exact rfl; omega))) | (apply R.pure; exact rfl; first | (apply Ok1.load; exact rfl; (apply Ld.own1; exact rfl; exact rfl; (focus ((repeat' (first | exact At.head | apply At.tail)); done)); exact rfl)) | (apply Ok1.move; exact rfl) | (apply Ok1.fieldAddr; (iterate 5 exact rfl)) | (apply Ok1.pick_t; exact rfl; exact rfl))) | (apply R.isG; (apply R.guard_run; exact rfl; exact rfl)) | apply R.nil | (apply T.is; first | apply T.seq | apply T.region | apply T.skip | (apply T.cond_f; exact rfl)))
          refine ⟨(⟨so, sr, sv, ovs, zs, none, [], false⟩, B1), ⟨OvOk.start 1, rfl, rfl, rfl, rfl, rfl, .inr (.inl ⟨hb1, rfl, hb1, rfl, rfl⟩)⟩, ⟨rfl, rfl, rfl, rfl, rfl, rfl, rfl, rfl, rfl, rfl, rfl, rfl, rfl, trivial⟩, ?_⟩
          simp only [SE.c, ovp, ovc, List.length_nil, blkL, List.nil_append]
          (focus ((repeat' (first | exact Ext.one _ _ | exact Ext.here _ _ | exact Ext.all _ | apply Keep.cons | apply Keep.app | apply Keep.last | apply Ext.cons)); done))
        | true =>
          have hop := fun w1 h1 h2 => vnopen_ok (ovp ov0) K.length (ovc ov0 K.length) K rfl (by omega) hKb so sr sv (ovp ovs) zs.length (ovc ovs zs.length) zs rfl hcapz hzb w1 h1 h2
          by_cases hE : noE K so sr sv zs = 0
          · simp only [if_pos hE, ntC] at hop
            rw [← htv] at hop
            obtain ⟨I9, hI9⟩ : ∃ I, I = noI K so sr sv zs := ⟨_, rfl⟩
            rw [← hI9] at hop
            repeat' (first | (apply R.is1; first | (apply R.isBin; (apply R.pure; exact rfl; (apply Ok1.eql_t; exact rfl; exact rfl; omega))) | (apply R.isCall; (apply R.callE (vs := [.agg ⟨tv⟩, .slice (ovp ov0) K.length (ovc ov0 K.length), .agg ⟨[.int .i64 so, .int .i64 sr, .int .i64 sv, .slice (ovp ovs) zs.length (ovc ovs zs.length)]⟩]); (iterate 3 exact rfl); exact Ext.none _; intro w1 hw1; exact hop w1 (hK0 hw1 (Ext.mem (by (focus ((repeat' (first | exact Ext.here _ _ | apply Ext.cons | apply Ext.app)); done))))) (hZr hw1 (Ext.mem (by (focus ((repeat' (first | exact Ext.here _ _ | apply Ext.cons)); done))))); rintro v Lo ⟨ovz, hovz, rfl, rfl⟩)) | (apply R.pure; exact rfl; first | (apply Ok1.load; exact rfl; first | (apply Ld.own1; exact rfl; exact rfl; (focus ((repeat' (first | exact At.head | apply At.tail)); done)); exact rfl) | (apply Ld.ownk; exact rfl; exact rfl; (focus ((repeat' (first | exact At.head | apply At.tail)); done)); exact subE_all htl) | (apply Ld.ownk; exact rfl; exact rfl; (focus ((repeat' (first | exact At.head | apply At.tail)); done)); exact rfl)) | (apply Ok1.move; exact rfl) | (apply Ok1.fieldAddr; (iterate 5 exact rfl)) | (apply Ok1.assign; exact rfl) | (apply Ok1.extract; exact rfl; exact rfl) | (apply Ok1.pick_t; exact rfl; exact rfl)) | (apply R.alloc; (iterate 3 exact rfl); intro)) | (apply R.is0; (apply R.store; (iterate 6 exact rfl); (focus ((repeat' (first | exact Upd.head | apply Upd.tail | apply Upd.right)); done)); exact rfl)) | (apply R.isG; (apply R.guard_run; exact rfl; exact rfl)) | apply R.nil | (apply T.is; first | apply T.seq | apply T.region | (apply T.cond_t; exact rfl)))
            refine ⟨(⟨so, sr, sv, ovs, zs, ovz, I9, true⟩, 0), ⟨hovz, rfl, rfl, rfl, rfl, rfl, .inr (.inr (.inr ⟨hb1, rfl, hE, rfl, hI9, rfl⟩))⟩, ⟨rfl, rfl, rfl, rfl, rfl, rfl, rfl, rfl, rfl, rfl, rfl, rfl, rfl, trivial⟩, ?_⟩
            simp only [SE.c]
            (focus ((repeat' (first | exact Ext.one _ _ | exact Ext.here _ _ | exact Ext.all _ | apply Keep.cons | apply Keep.app | apply Keep.last | apply Ext.cons | apply Ext.app)); done))
          · simp only [if_neg hE, ntC] at hop
            rw [← htv] at hop
            obtain ⟨E9, hE9⟩ : ∃ E, E = noE K so sr sv zs := ⟨_, rfl⟩
            rw [← hE9] at hop hE
            repeat' (first | (apply R.is1; first | (apply R.isBin; (apply R.pure; exact rfl; (apply Ok1.eql_t; exact rfl; exact rfl; omega))) | (apply R.isCall; (apply R.callE (vs := [.agg ⟨tv⟩, .slice (ovp ov0) K.length (ovc ov0 K.length), .agg ⟨[.int .i64 so, .int .i64 sr, .int .i64 sv, .slice (ovp ovs) zs.length (ovc ovs zs.length)]⟩]); (iterate 3 exact rfl); exact Ext.none _; intro w1 hw1; exact hop w1 (hK0 hw1 (Ext.mem (by (focus ((repeat' (first | exact Ext.here _ _ | apply Ext.cons | apply Ext.app)); done))))) (hZr hw1 (Ext.mem (by (focus ((repeat' (first | exact Ext.here _ _ | apply Ext.cons)); done))))); rintro v Lo ⟨rfl, rfl⟩)) | (apply R.pure; exact rfl; first | (apply Ok1.load; exact rfl; first | (apply Ld.own1; exact rfl; exact rfl; (focus ((repeat' (first | exact At.head | apply At.tail)); done)); exact rfl) | (apply Ld.ownk; exact rfl; exact rfl; (focus ((repeat' (first | exact At.head | apply At.tail)); done)); exact subE_all htl) | (apply Ld.ownk; exact rfl; exact rfl; (focus ((repeat' (first | exact At.head | apply At.tail)); done)); exact rfl)) | (apply Ok1.move; exact rfl) | (apply Ok1.fieldAddr; (iterate 5 exact rfl)) | (apply Ok1.assign; exact rfl) | (apply Ok1.extract; exact rfl; exact rfl) | (apply Ok1.pick_t; exact rfl; exact rfl)) | (apply R.alloc; (iterate 3 exact rfl); intro)) | (apply R.is0; (apply R.store; (iterate 6 exact rfl); (focus ((repeat' (first | exact Upd.head | apply Upd.tail)); done)); exact rfl)) | (apply R.isG; (apply R.guard_run; exact rfl; exact rfl)) | apply R.nil | (apply T.is; first | apply T.seq | apply T.region | (apply T.cond_t; exact rfl)))
            refine ⟨(⟨so, sr, sv, ovs, zs, none, [], true⟩, E9), ⟨OvOk.start 1, rfl, rfl, rfl, rfl, rfl, .inr (.inr (.inl ⟨hb1, rfl, by rw [← hE9]; exact hE, hE9⟩))⟩, ⟨rfl, rfl, rfl, rfl, rfl, rfl, rfl, rfl, rfl, rfl, rfl, rfl, rfl, trivial⟩, ?_⟩
            simp only [SE.c, ovp, ovc, List.length_nil, blkL, List.nil_append]
            (focus ((repeat' (first | exact Ext.one _ _ | exact Ext.here _ _ | exact Ext.all _ | apply Keep.cons | apply Keep.app | apply Keep.last | apply Ext.cons)); done))
      rintro ⟨x, B2⟩ ⟨hxv, h1, h2, h3, h4, h5, hcB⟩
      simp only at hxv h1 h2 h3 h4 h5 hcB ⊢
      obtain ⟨xvv, xval, xop, rfl⟩ : ∃ a b c, x = ⟨so, sr, sv, ovs, zs, a, b, c⟩ := ⟨x.vov, x.val, x.op, by
        obtain ⟨xo, xr, xv, xb, xbb, xvv, xval, xop⟩ := x
        simp only at h1 h2 h3 h4 h5
        rw [h1, h2, h3, h4, h5]⟩
      simp only at hxv hcB
      simp only [SE.c]
      have hdx := dx_put es ⟨so, sr, sv, ovs, zs, xvv, xval, xop⟩
      simp only [SE.L, hLZ, hLD, List.append_assoc] at hdx
      generalize hLV : blkL 5 xvv (u8s xval) = LV at *
      refine T.meetK (x := .seq (.region 42 _ _) _) (α := Ov × List SE × Int) (I := fun y => OvOk 6 y.1 y.2.1.length (fl SE.v y.2.1) ∧ ((B2 ≠ 0 ∧ y.2.2 = B2 ∧ y.2.1 = es) ∨ (B2 = 0 ∧ y.2.2 = dputE es (so, sr) ∧ y.2.1 = dputM es ⟨so, sr, sv, ovs, zs, xvv, xval, xop⟩))) (σi := fun y => [(0, .slice (ovp ov0) K.length (ovc ov0 K.length)), (1, .slice pl ls.length cl), (2, .int .i64 M), (7, .pointer (some ⟨bk, 0, none⟩)), (8, .pointer (some ⟨b8, 0, none⟩)), (9, .pointer (some ⟨bs, 0, none⟩)), (10, slV y.1 y.2.1.length), (11, .int .i64 i), (12, .pointer (some ⟨b12, 0, none⟩)), (13, .pointer (some ⟨b13, 0, none⟩)), (17, .pointer (some ⟨b17, 0, none⟩)), (19, .int .i64 y.2.2)]) (Li := fun y => (b17, .cells ⟨[.int .i64 so, .int .i64 sr, .int .i64 sv, .slice (ovp ovs) zs.length (ovc ovs zs.length)]⟩ 38 (0, 0)) :: (b13, .cells ⟨[.int .i64 no, .int .i64 nr, .int .i64 nv, .slice (ovp ov13) ys.length (ovc ov13 ys.length)]⟩ 36 (0, 0)) :: (b12, .cells ⟨[.int .i64 ak, .bool ab, .int .i64 no, .int .i64 nr, .int .i64 nv, .slice np nx.length nc, .int .i64 so, .int .i64 sr, .int .i64 sv, .slice sp sx.length sc]⟩ 86 (0, 0)) :: (b8, .cells ⟨tv⟩ 34 (0, 0)) :: (LV ++ (LZ ++ (LK ++ (L0 ++ (LS ++ (blkL 91 y.1 (fl SE.v y.2.1) ++ LD))))))) ?_ ?_
      · by_cases hb2 : B2 = 0
        case neg =>
          repeat' (first | (apply R.is1; first | (apply R.isBin; (apply R.pure; exact rfl; (apply Ok1.eql_f; exact rfl; exact rfl; omega))) | (apply R.pure; exact rfl; (apply Ok1.move; exact rfl))) | apply R.nil | (apply T.is; first | apply T.seq | apply T.region | apply T.skip | (apply T.cond_f; exact rfl)))
          refine ⟨(ov, es, B2), ⟨hov, .inl ⟨hb2, rfl, rfl⟩⟩, ?_, ?_⟩
          · rw [slV_eq hov]; exact ⟨rfl, rfl, rfl, rfl, rfl, rfl, rfl, rfl, rfl, rfl, rfl, rfl, trivial⟩
          · simp only [hLE]; (focus ((repeat' (first | exact Ext.one _ _ | exact Ext.here _ _ | exact Ext.all _ | apply Keep.cons | apply Keep.app | apply Keep.last | apply Ext.cons)); done))
        rcases dput_cases es (so, sr) with hE6 | hE6
        · have hpt := fun w1 h => vput_ok (ovp ov) es.length (ovc ov es.length) es rfl (ovc_le9 hov) hesl ⟨so, sr, sv, ovs, zs, xvv, xval, xop⟩ hE6 hovs hxv w1 h
          simp only [SE.c] at hpt
          repeat' (first | (apply R.is1; first | (apply R.isBin; (apply R.pure; exact rfl; (apply Ok1.eql_t; exact rfl; exact rfl; omega))) | (apply R.isCall; (apply R.callE (vs := [.slice (ovp ov) es.length (ovc ov es.length), .agg ⟨[.int .i64 so, .int .i64 sr, .int .i64 sv, .slice (ovp ovs) zs.length (ovc ovs zs.length), .slice (ovp xvv) xval.length (ovc xvv xval.length), .bool xop]⟩]); (iterate 3 exact rfl); exact Ext.none _; intro w1 hw1; exact hpt w1 (hER hw1 (Ext.mem (by (focus ((repeat' (first | exact Ext.here _ _ | apply Ext.cons | apply Ext.app)); done))))); rintro v Lo ⟨ovN, hovN, rfl, rfl⟩)) | (apply R.pure; exact rfl; first | (apply Ok1.load; exact rfl; (apply Ld.ownk; exact rfl; exact rfl; exact At.head; exact rfl)) | (apply Ok1.move; exact rfl) | (apply Ok1.assign; exact rfl) | (apply Ok1.extract; exact rfl; exact rfl))) | apply R.nil | (apply T.is; first | apply T.seq | apply T.region | (apply T.cond_t; exact rfl)))
          exact ⟨(ovN, dputM es ⟨so, sr, sv, ovs, zs, xvv, xval, xop⟩, 0), ⟨hovN, .inr ⟨hb2, hE6.symm, rfl⟩⟩, ⟨rfl, rfl, rfl, rfl, rfl, rfl, rfl, rfl, rfl, rfl, rfl, rfl, trivial⟩, by (focus ((repeat' (first | exact Ext.one _ _ | exact Ext.here _ _ | exact Ext.all _ | apply Keep.cons | apply Keep.app | apply Keep.last | apply Ext.cons | apply Ext.app)); done))⟩
        · have hpf := fun w1 h => vput_full (ovp ov) es.length (ovc ov es.length) es rfl hesl ⟨so, sr, sv, ovs, zs, xvv, xval, xop⟩ hE6 w1 h
          simp only [SE.c] at hpf
          repeat' (first | (apply R.is1; first | (apply R.isBin; (apply R.pure; exact rfl; (apply Ok1.eql_t; exact rfl; exact rfl; omega))) | (apply R.isCall; (apply R.callE (vs := [.slice (ovp ov) es.length (ovc ov es.length), .agg ⟨[.int .i64 so, .int .i64 sr, .int .i64 sv, .slice (ovp ovs) zs.length (ovc ovs zs.length), .slice (ovp xvv) xval.length (ovc xvv xval.length), .bool xop]⟩]); (iterate 3 exact rfl); exact Ext.none _; intro w1 hw1; exact hpf w1 (hER hw1 (Ext.mem (by (focus ((repeat' (first | exact Ext.here _ _ | apply Ext.cons | apply Ext.app)); done))))); rintro v Lo ⟨rfl, rfl⟩)) | (apply R.pure; exact rfl; first | (apply Ok1.load; exact rfl; (apply Ld.ownk; exact rfl; exact rfl; exact At.head; exact rfl)) | (apply Ok1.move; exact rfl) | (apply Ok1.assign; exact rfl) | (apply Ok1.extract; exact rfl; exact rfl))) | apply R.nil | (apply T.is; first | apply T.seq | apply T.region | (apply T.cond_t; exact rfl)))
          refine ⟨(ov, es, 6), ⟨hov, .inr ⟨hb2, hE6.symm, (dput_full hE6).symm⟩⟩, ?_, ?_⟩
          · rw [slV_eq hov]; exact ⟨rfl, rfl, rfl, rfl, rfl, rfl, rfl, rfl, rfl, rfl, rfl, rfl, trivial⟩
          · simp only [hLE]; (focus ((repeat' (first | exact Ext.one _ _ | exact Ext.here _ _ | exact Ext.all _ | apply Keep.cons | apply Keep.app | apply Keep.last | apply Ext.cons)); done))
      rintro ⟨ovN, esN, B3⟩ ⟨hovN, hcC⟩
      simp only at hovN hcC ⊢
      generalize hLN : blkL 91 ovN (fl SE.v esN) = LN at *
      have htk2 : B1 = 0 → tk = 0 ∧ vv < sv := by
        intro h
        rw [hB1] at h
        by_cases g : tk = 0 ∧ sv ≤ vv
        · rw [if_pos g] at h; exact absurd h (by decide)
        · rw [if_neg g] at h
          exact ⟨h, by omega⟩
      rw [hvv] at htk2
      repeat' (first | (apply R.is1; first | (apply R.isCall; (apply R.callE (vs := [.slice (ovp ov0) K.length (ovc ov0 K.length)]); (iterate 3 exact rfl); exact Ext.none _; intro w1 hw1; exact hmn _ _ w1 (hK0 hw1 (Ext.mem (by (focus ((repeat' (first | exact Ext.here _ _ | apply Ext.cons | apply Ext.app)); done))))); rintro v Lo ⟨bk2, ovk2, rfl, hovk2, _, rfl⟩)) | (apply R.pure; exact rfl; first | (apply Ok1.move; exact rfl) | (apply Ok1.assign; exact rfl))) | apply R.nil | (apply T.is; first | (apply T.stop 45) | apply T.seq | apply T.region))
      refine ⟨?_⟩
      have hK2 : ∀ {Li Lr L : Lst} {w1 w2 : World}, Hp w [] L w1 → Ext L Li Lr → (∀ z ∈ KL bk2 ovk2 K, z ∈ Lr) → Chg (blks Li) w1 w2 → KeyR w2 bk2 K := fun h1 h2 h3 h4 => KeyR.keep hovk2 h1 h2 h3 h4
      generalize KL bk2 ovk2 K = LK2 at *
      rcases hcB with ⟨hb1, rfl⟩ | ⟨hb1, hab, hb2, hxv2, hxo2⟩ | ⟨hb1, hab, hE9, hb2⟩ | ⟨hb1, hab, hE9, hb2, hxv2, hxo2⟩
      · rcases hcC with ⟨_, rfl, rfl⟩ | ⟨h0, _⟩
        rotate_left 1
        · exact absurd h0 hb1
        have htake : ∀ key w1, CallM Tryz.prog 37 [.pointer (some ⟨bs, 0, none⟩), .pointer key, .agg ⟨[.int .i64 so, .int .i64 sr, .int .i64 sv, .slice (ovp ovs) zs.length (ovc ovs zs.length)]⟩] LS w1 fun v L => v = .int .i64 B3 ∧ L = LS := by
          intro key w1
          by_cases g : tk = 0 ∧ sv ≤ vv
          · rw [hB1, if_pos g, ← hLS]
            exact sttake_old bs bm ms clk key so sr sv (ovp ovs) zs.length (ovc ovs zs.length) (htk.symm.trans g.1) (by rw [← hvv]; exact g.2) w1
          · rw [if_neg g] at hB1
            rw [hB1, htk, ← hLS]
            exact sttake_chk bs bm ms clk key so sr sv (ovp ovs) zs.length (ovc ovs zs.length) (by rw [← htk, ← hB1]; exact hb1) w1
        cases ab with
        | true =>
          repeat' (first | (apply R.is1; first | (apply R.isBin; (apply R.pure; exact rfl; (apply Ok1.neq_f; exact rfl; exact rfl; omega))) | (apply R.isCall; (apply R.callE (Li := LS) (vs := [.pointer (some ⟨bs, 0, none⟩), .pointer (some ⟨bk2, 0, none⟩), .agg ⟨[.int .i64 so, .int .i64 sr, .int .i64 sv, .slice (ovp ovs) zs.length (ovc ovs zs.length)]⟩]); (iterate 3 exact rfl); (focus ((repeat' (first | exact Ext.here _ _ | apply Ext.cons | apply Ext.app)); done)); intro w1 hw1;  exact htake _ w1; rintro v Lo ⟨rfl, hq⟩; rw [hq]; clear hq)) | (apply R.pure; exact rfl; first | (apply Ok1.load; exact rfl; first | (apply Ld.own1; exact rfl; exact rfl; (focus ((repeat' (first | exact At.head | apply At.tail | apply At.right)); done)); exact rfl) | (apply Ld.ownk; exact rfl; exact rfl; (focus ((repeat' (first | exact At.head | apply At.right)); done)); exact rfl)) | (apply Ok1.move; exact rfl) | (apply Ok1.fieldAddr; (iterate 5 exact rfl)) | (apply Ok1.not_t; exact rfl))) | apply R.nil | (apply T.is; first | apply T.seq | apply T.region | apply T.skip | (apply T.cond_f; exact rfl)))
          refine ⟨(ms, clk, ovN, esN), ⟨hsim, hovN⟩, ⟨rfl, rfl, rfl, rfl, rfl, rfl, rfl, rfl, rfl, trivial⟩, ?_⟩
          simp only [hLS, hLN, hLD]; (focus ((repeat' (first | exact Ext.one _ _ | exact Ext.here _ _ | exact Ext.all _ | apply Keep.cons | apply Keep.app | apply Keep.last | apply Ext.cons | apply Ext.app)); done))
        | false =>
          repeat' (first | (apply R.is1; first | (apply R.isBin; (apply R.pure; exact rfl; (apply Ok1.neq_f; exact rfl; exact rfl; omega))) | (apply R.isCall; (apply R.callE (Li := LS) (vs := [.pointer (some ⟨bs, 0, none⟩), .pointer none, .agg ⟨[.int .i64 so, .int .i64 sr, .int .i64 sv, .slice (ovp ovs) zs.length (ovc ovs zs.length)]⟩]); (iterate 3 exact rfl); (focus ((repeat' (first | exact Ext.here _ _ | apply Ext.cons | apply Ext.app)); done)); intro w1 hw1;  exact htake _ w1; rintro v Lo ⟨rfl, hq⟩; rw [hq]; clear hq)) | (apply R.pure; exact rfl; first | (apply Ok1.load; exact rfl; first | (apply Ld.own1; exact rfl; exact rfl; (focus ((repeat' (first | exact At.head | apply At.tail | apply At.right)); done)); exact rfl) | (apply Ld.ownk; exact rfl; exact rfl; (focus ((repeat' (first | exact At.head | apply At.right)); done)); exact rfl)) | (apply Ok1.move; exact rfl) | (apply Ok1.fieldAddr; (iterate 5 exact rfl)) | (apply Ok1.assign; exact rfl) | (apply Ok1.not_f; exact rfl))) | apply R.nil | (apply T.is; first | apply T.seq | apply T.region | apply T.skip | (apply T.cond_t; exact rfl) | (apply T.cond_f; exact rfl)))
          refine ⟨(ms, clk, ovN, esN), ⟨hsim, hovN⟩, ⟨rfl, rfl, rfl, rfl, rfl, rfl, rfl, rfl, rfl, trivial⟩, ?_⟩
          simp only [hLS, hLN, hLD]; (focus ((repeat' (first | exact Ext.one _ _ | exact Ext.here _ _ | exact Ext.all _ | apply Keep.cons | apply Keep.app | apply Keep.last | apply Ext.cons | apply Ext.app)); done))
      · subst hab hb2 hxv2 hxo2
        rcases hcC with ⟨h0, _⟩ | ⟨_, hB3, hes⟩
        · exact absurd rfl h0
        obtain ⟨htk3, hlt9⟩ := htk2 hb1
        rw [htk] at htk3
        have hzz := takC_zero htk3
        have htake := fun w1 h => sttake_none bs bm ms clk hsim.ok.ver so sr sv (ovp ovs) zs.length (ovc ovs zs.length) zs rfl htk3 hlt9 w1 h
        rw [hLS, hpe, ← hB3] at htake
        repeat' (first | (apply R.is1; first | (apply R.isBin; (apply R.pure; exact rfl; (apply Ok1.neq_f; exact rfl; exact rfl; omega))) | (apply R.isCall; (apply R.callE (Li := LS) (vs := [.pointer (some ⟨bs, 0, none⟩), .pointer none, .agg ⟨[.int .i64 so, .int .i64 sr, .int .i64 sv, .slice (ovp ovs) zs.length (ovc ovs zs.length)]⟩]); (iterate 3 exact rfl); (focus ((repeat' (first | exact Ext.here _ _ | apply Ext.cons | apply Ext.app)); done)); intro w1 hw1;  exact htake w1 (fun w2 hc => (hZr hw1 (Ext.mem (by (focus ((repeat' (first | exact Ext.here _ _ | apply Ext.cons | apply Ext.app)); done))))).chg' hc (fun _ => ovoff9 (e := 5) (xs := u8s zs) hw1 (by (focus ((repeat' (first | exact Ext.here _ _ | apply Ext.cons | apply Ext.app)); done))) (by rw [hLZ]; exact Ext.mem (by (focus ((repeat' (first | exact Ext.here _ _ | apply Ext.cons | apply Ext.app)); done)))))); rintro v Lo ⟨rfl, bovA, hbA, rfl⟩)) | (apply R.pure; exact rfl; first | (apply Ok1.load; exact rfl; first | (apply Ld.own1; exact rfl; exact rfl; (focus ((repeat' (first | exact At.head | apply At.tail | apply At.right)); done)); exact rfl) | (apply Ld.ownk; exact rfl; exact rfl; (focus ((repeat' (first | exact At.head | apply At.right)); done)); exact rfl)) | (apply Ok1.move; exact rfl) | (apply Ok1.fieldAddr; (iterate 5 exact rfl)) | (apply Ok1.assign; exact rfl) | (apply Ok1.not_f; exact rfl))) | apply R.nil | (apply T.is; first | apply T.seq | apply T.region | apply T.skip | (apply T.cond_t; exact rfl) | (apply T.cond_f; exact rfl)))
        have hsp := (hsim.put (e := ⟨so, sr, sv, bovA, zs, none, [], false⟩) (x := ⟨so, sr, sv, ovs, zs, xvv, [], false⟩) rfl hzz.1 hbA (OvOk.start 1) (by simp only; omega) (by simp) hovs hxv).2
        rw [← hes] at hsp hdx
        refine ⟨(_, _, ovN, esN), ⟨hsp, hovN⟩, ⟨rfl, rfl, rfl, rfl, rfl, rfl, rfl, rfl, rfl, trivial⟩, ?_⟩
        simp only [hLN]
        refine Keep.trans9 (B := (b13, .cells ⟨[.int .i64 no, .int .i64 nr, .int .i64 nv, .slice (ovp ov13) ys.length (ovc ov13 ys.length)]⟩ 36 (0, 0)) :: (b8, .cells ⟨tv⟩ 34 (0, 0)) :: (LK ++ (L0 ++ (SL bs bm (putM ms clk (so, sr) ⟨so, sr, sv, bovA, zs, none, [], false⟩).1 (putM ms clk (so, sr) ⟨so, sr, sv, bovA, zs, none, [], false⟩).2 ++ (LN ++ (LZ ++ (LV ++ LD))))))) (by (focus ((repeat' (first | exact Ext.one _ _ | exact Ext.here _ _ | exact Ext.all _ | apply Keep.cons | apply Keep.app | apply Keep.last | apply Ext.cons | apply Ext.app)); done))) ?_
        exact .cons (.one _ _) (.cons (.one _ _) (.app (.here _ _) (.app (.here _ _) (.app (.here _ _) (.app (.here _ _) hdx)))))
      · subst hab
        rcases hcC with ⟨_, rfl, rfl⟩ | ⟨h0, _⟩
        rotate_left 1
        · exact absurd (hb2.symm.trans h0) hE9
        obtain ⟨htk3, hlt9⟩ := htk2 hb1
        rw [htk] at htk3
        have htake := fun bk2 w1 hk h => sttake_bad bs bm ms clk bk2 K (by omega) hKb so sr sv (ovp ovs) zs.length (ovc ovs zs.length) zs rfl hzb htk3 hlt9 hE9 w1 hk h
        rw [hLS, ← hb2] at htake
        repeat' (first | (apply R.is1; first | (apply R.isBin; (apply R.pure; exact rfl; (apply Ok1.neq_f; exact rfl; exact rfl; omega))) | (apply R.isCall; (apply R.callE (Li := LS) (vs := [.pointer (some ⟨bs, 0, none⟩), .pointer (some ⟨bk2, 0, none⟩), .agg ⟨[.int .i64 so, .int .i64 sr, .int .i64 sv, .slice (ovp ovs) zs.length (ovc ovs zs.length)]⟩]); (iterate 3 exact rfl); (focus ((repeat' (first | exact Ext.here _ _ | apply Ext.cons | apply Ext.app)); done)); intro w1 hw1;  exact htake _ w1 (fun w2 hc => hK2 hw1 (by (focus ((repeat' (first | exact Ext.here _ _ | apply Ext.cons | apply Ext.app)); done))) (Ext.mem (by (focus ((repeat' (exact Ext.here _ _)); done)))) hc) (fun w2 hc => (hZr hw1 (Ext.mem (by (focus ((repeat' (first | exact Ext.here _ _ | apply Ext.cons | apply Ext.app)); done))))).chg' hc (fun _ => ovoff9 (e := 5) (xs := u8s zs) hw1 (by (focus ((repeat' (first | exact Ext.here _ _ | apply Ext.cons | apply Ext.app)); done))) (by rw [hLZ]; exact Ext.mem (by (focus ((repeat' (first | exact Ext.here _ _ | apply Ext.cons | apply Ext.app)); done)))))); rintro v Lo ⟨rfl, hq⟩; rw [hq]; clear hq)) | (apply R.pure; exact rfl; first | (apply Ok1.load; exact rfl; first | (apply Ld.own1; exact rfl; exact rfl; (focus ((repeat' (first | exact At.head | apply At.tail | apply At.right)); done)); exact rfl) | (apply Ld.ownk; exact rfl; exact rfl; (focus ((repeat' (first | exact At.head | apply At.right)); done)); exact rfl)) | (apply Ok1.move; exact rfl) | (apply Ok1.fieldAddr; (iterate 5 exact rfl)) | (apply Ok1.not_t; exact rfl))) | apply R.nil | (apply T.is; first | apply T.seq | apply T.region | apply T.skip | (apply T.cond_f; exact rfl)))
        refine ⟨(ms, clk, ovN, esN), ⟨hsim, hovN⟩, ⟨rfl, rfl, rfl, rfl, rfl, rfl, rfl, rfl, rfl, trivial⟩, ?_⟩
        simp only [hLS, hLN, hLD]; (focus ((repeat' (first | exact Ext.one _ _ | exact Ext.here _ _ | exact Ext.all _ | apply Keep.cons | apply Keep.app | apply Keep.last | apply Ext.cons | apply Ext.app)); done))
      · subst hab hb2 hxo2
        rcases hcC with ⟨h0, _⟩ | ⟨_, hB3, hes⟩
        · exact absurd rfl h0
        obtain ⟨htk3, hlt9⟩ := htk2 hb1
        rw [htk] at htk3
        have hzz := takC_zero htk3
        have htake := fun bk2 w1 hk h => sttake_ok bs bm ms clk hsim.ok.ver bk2 K (by omega) hKb so sr sv (ovp ovs) zs.length (ovc ovs zs.length) zs rfl hzb htk3 hlt9 hE9 w1 hk h
        have hIl : (noI K so sr sv zs).length ≤ 96 := by
          unfold noI sopI turnI
          rw [List.length_zipWith, List.length_take]
          omega
        rw [hLS, hpe, ← hB3, ← hxv2] at htake
        rw [← hxv2] at hIl
        repeat' (first | (apply R.is1; first | (apply R.isBin; (apply R.pure; exact rfl; (apply Ok1.neq_f; exact rfl; exact rfl; omega))) | (apply R.isCall; (apply R.callE (Li := LS) (vs := [.pointer (some ⟨bs, 0, none⟩), .pointer (some ⟨bk2, 0, none⟩), .agg ⟨[.int .i64 so, .int .i64 sr, .int .i64 sv, .slice (ovp ovs) zs.length (ovc ovs zs.length)]⟩]); (iterate 3 exact rfl); (focus ((repeat' (first | exact Ext.here _ _ | apply Ext.cons | apply Ext.app)); done)); intro w1 hw1;  exact htake _ w1 (fun w2 hc => hK2 hw1 (by (focus ((repeat' (first | exact Ext.here _ _ | apply Ext.cons | apply Ext.app)); done))) (Ext.mem (by (focus ((repeat' (exact Ext.here _ _)); done)))) hc) (fun w2 hc => (hZr hw1 (Ext.mem (by (focus ((repeat' (first | exact Ext.here _ _ | apply Ext.cons | apply Ext.app)); done))))).chg' hc (fun _ => ovoff9 (e := 5) (xs := u8s zs) hw1 (by (focus ((repeat' (first | exact Ext.here _ _ | apply Ext.cons | apply Ext.app)); done))) (by rw [hLZ]; exact Ext.mem (by (focus ((repeat' (first | exact Ext.here _ _ | apply Ext.cons | apply Ext.app)); done)))))); rintro v Lo ⟨rfl, bovA, vovA, hbA, hvA, rfl⟩)) | (apply R.pure; exact rfl; first | (apply Ok1.load; exact rfl; first | (apply Ld.own1; exact rfl; exact rfl; (focus ((repeat' (first | exact At.head | apply At.tail | apply At.right)); done)); exact rfl) | (apply Ld.ownk; exact rfl; exact rfl; (focus ((repeat' (first | exact At.head | apply At.right)); done)); exact rfl)) | (apply Ok1.move; exact rfl) | (apply Ok1.fieldAddr; (iterate 5 exact rfl)) | (apply Ok1.not_t; exact rfl))) | apply R.nil | (apply T.is; first | apply T.seq | apply T.region | apply T.skip | (apply T.cond_f; exact rfl)))
        have hsp := (hsim.put (e := ⟨so, sr, sv, bovA, zs, vovA, xval, true⟩) (x := ⟨so, sr, sv, ovs, zs, xvv, xval, true⟩) rfl hzz.1 hbA hvA (by simp only; omega) (by simp only; exact hIl) hovs hxv).2
        rw [← hes] at hsp hdx
        refine ⟨(_, _, ovN, esN), ⟨hsp, hovN⟩, ⟨rfl, rfl, rfl, rfl, rfl, rfl, rfl, rfl, rfl, trivial⟩, ?_⟩
        simp only [hLN]
        refine Keep.trans9 (B := (b13, .cells ⟨[.int .i64 no, .int .i64 nr, .int .i64 nv, .slice (ovp ov13) ys.length (ovc ov13 ys.length)]⟩ 36 (0, 0)) :: (b8, .cells ⟨tv⟩ 34 (0, 0)) :: (LK ++ (L0 ++ (SL bs bm (putM ms clk (so, sr) ⟨so, sr, sv, bovA, zs, vovA, xval, true⟩).1 (putM ms clk (so, sr) ⟨so, sr, sv, bovA, zs, vovA, xval, true⟩).2 ++ (LN ++ (LZ ++ (LV ++ LD))))))) (by (focus ((repeat' (first | exact Ext.one _ _ | exact Ext.here _ _ | exact Ext.all _ | apply Keep.cons | apply Keep.app | apply Keep.last | apply Ext.cons | apply Ext.app)); done))) ?_
        exact .cons (.one _ _) (.cons (.one _ _) (.app (.here _ _) (.app (.here _ _) (.app (.here _ _) (.app (.here _ _) hdx)))))
    · obtain ⟨p, hp9⟩ : ∃ p : SE → Bool, p = fun e => decide (e.o ≠ no) := ⟨_, rfl⟩
      have hpx : ∀ x : SE, p x = decide (x.o ≠ no) := fun x => by rw [hp9]
      have hdr := fun b9 w1 h1 h2 => stdrop_ok bs bm ms clk b9 no w1 h1 h2 hsim.ok.few
      have hsd := (hsim.drop no).drop no
      have hff : (es.filter p).filter p = es.filter p := by rw [List.filter_filter]; simp
      rw [← hp9, hff] at hsd
      have hsl := hsd.len
      have hml := hsim.len
      have hFl : (es.filter p).length ≤ es.length := List.length_filter_le _ _
      have hdx : Keep LD (DX (es.filter p)) := by rw [← hLD]; exact dx_sub List.filter_sublist
      rw [hLS] at hdr
      generalize dropN no 8 (dropN no 8 ms) = D2 at *
      repeat' (first | (apply R.is1; first | (apply R.isBin; (apply R.pure; exact rfl; first | (apply Ok1.eql_f; exact rfl; exact rfl; omega) | (apply Ok1.remN; exact rfl; exact rfl; omega; omega))) | (apply R.isCall; (apply R.pure; exact rfl; (apply Ok1.lenS; (iterate 3 exact rfl)))) | (apply R.pure; exact rfl; first | (apply Ok1.move; exact rfl) | (apply Ok1.fieldAddr; (iterate 5 exact rfl)) | (apply Ok1.load; exact rfl; (apply Ld.own1; exact rfl; exact rfl; (focus ((repeat' (first | exact At.head | apply At.tail | apply At.right)); done)); exact rfl)) | (apply Ok1.assign; exact rfl) | (apply Ok1.conv; (iterate 5 exact rfl)))) | apply R.nil | (apply T.is; first | (apply T.stop 17) | apply T.seq | apply T.region | apply T.block | (apply T.cond_f; exact rfl)))
      refine ⟨?_⟩
      refine T.meetK (x := .seq (.region 17 _ _) _) (α := Ov) (I := fun y => OvOk 6 y (es.filter p).length (fl SE.v (es.filter p))) (σi := fun y => [(0, .slice (ovp ov0) K.length (ovc ov0 K.length)), (1, .slice pl ls.length cl), (2, .int .i64 M), (7, .pointer (some ⟨bk, 0, none⟩)), (8, .pointer (some ⟨b8, 0, none⟩)), (9, .pointer (some ⟨bs, 0, none⟩)), (11, .int .i64 i), (13, .pointer (some ⟨b13, 0, none⟩)), (24, .int .i64 es.length), (25, slV y (es.filter p).length)]) (Li := fun y => (b13, .cells ⟨[.int .i64 no, .int .i64 nr, .int .i64 nv, .slice (ovp ov13) ys.length (ovc ov13 ys.length)]⟩ 36 (0, 0)) :: (b8, .cells ⟨tv⟩ 34 (0, 0)) :: (LK ++ (L0 ++ (LS ++ (blkL 91 y (fl SE.v (es.filter p)) ++ LD))))) ?_ ?_
      · by_cases h0 : es.length = 0
        · obtain rfl := List.eq_nil_of_length_eq_zero h0
          have hzz : (([] : List SE).length : Int) = 0 := rfl
          repeat' (first | (apply R.is1; first | (apply R.isBin; (apply R.pure; exact rfl; (apply Ok1.lss_f; exact rfl; exact rfl; omega))) | (apply R.isCall; (apply R.pure; exact rfl; (apply Ok1.lenS; (iterate 3 exact rfl)))) | (apply R.pure; exact rfl; first | (apply Ok1.move; exact rfl) | (apply Ok1.assign; exact rfl))) | apply R.nil | (apply T.is; first | (apply T.rounds 1) | apply T.seq | apply T.region | apply T.block | apply T.exit | (apply T.cond_f; exact rfl)))
          refine ⟨none, OvOk.start 6, ⟨rfl, rfl, rfl, rfl, rfl, rfl, rfl, rfl, rfl, rfl, trivial⟩, ?_⟩
          simp only [blkL, List.nil_append]
          (focus ((repeat' (first | exact Ext.one _ _ | exact Ext.here _ _ | exact Ext.all _ | apply Keep.cons | apply Keep.app | apply Keep.last | apply Ext.cons | apply Ext.app)); done))
        obtain ⟨be, je, ke, rfl⟩ := ovsome hov (by omega)
        subst hLE
        simp only [ovp, ovc, blkL]
        repeat' (first | (apply R.is1; (apply R.pure; exact rfl; (apply Ok1.assign; exact rfl))) | apply R.nil | (apply T.is; first | apply T.seq | apply T.region | apply T.block))
        apply T.loopK (α := Nat × Ov) (I := fun y => y.1 ≤ es.length ∧ OvOk 6 y.2 ((es.take y.1).filter p).length (fl SE.v ((es.take y.1).filter p))) (σi := fun y => [(0, .slice (ovp ov0) K.length (ovc ov0 K.length)), (1, .slice pl ls.length cl), (2, .int .i64 M), (7, .pointer (some ⟨bk, 0, none⟩)), (8, .pointer (some ⟨b8, 0, none⟩)), (9, .pointer (some ⟨bs, 0, none⟩)), (10, .slice (some ⟨be, 0, none⟩) es.length (es.length + je)), (11, .int .i64 i), (13, .pointer (some ⟨b13, 0, none⟩)), (24, .int .i64 es.length), (25, slV y.2 ((es.take y.1).filter p).length), (26, .int .i64 y.1)]) (Li := fun y => (be, .cells ⟨fl SE.v es ++ ke⟩ 91 (0, 0)) :: (b13, .cells ⟨[.int .i64 no, .int .i64 nr, .int .i64 nv, .slice (ovp ov13) ys.length (ovc ov13 ys.length)]⟩ 36 (0, 0)) :: (b8, .cells ⟨tv⟩ 34 (0, 0)) :: (LK ++ (L0 ++ (LS ++ (blkL 91 y.2 (fl SE.v ((es.take y.1).filter p)) ++ LD))))) (μ := fun y => es.length - y.1) (i0 := (0, none))
        · exact ⟨Nat.zero_le _, OvOk.start 6⟩
        · exact ⟨rfl, rfl, rfl, rfl, rfl, rfl, rfl, rfl, rfl, rfl, rfl, rfl, trivial⟩
        · simp only [blkL, List.take_zero, List.filter_nil, List.nil_append]
          (focus ((repeat' (first | exact Ext.one _ _ | exact Ext.here _ _ | exact Ext.all _ | apply Keep.cons | apply Keep.app | apply Keep.last | apply Ext.cons | apply Ext.app)); done))
        · rintro ⟨j, ovF⟩ ⟨hj, hovF⟩
          simp only at hj hovF ⊢
          rcases Nat.lt_or_ge j es.length with hlt | hge
          · obtain ⟨x, hx⟩ : ∃ x, es[j]? = some x := ⟨_, List.getElem?_eq_getElem (by omega)⟩
            have hsn : (es.take (j + 1)).filter p = (es.take j).filter p ++ if p x = true then [x] else [] := by
              rw [List.take_add_one, hx, Option.toList_some, List.filter_append]
              cases hpp : p x <;> simp [List.filter, hpp]
            have hfle : ((es.take j).filter p).length ≤ 64 := by
              have := List.length_filter_le p (es.take j)
              rw [List.length_take] at this
              omega
            by_cases hxo : x.o = no
            · have hpf : p x = false := by rw [hpx]; exact decide_eq_false (fun h => h hxo)
              rw [hpf, if_neg (by decide), List.append_nil] at hsn
              repeat' (first | (apply R.is1; first | (apply R.isBin; (apply R.pure; exact rfl; first | (apply Ok1.add64; exact rfl; exact rfl; omega; omega) | (apply Ok1.lss_t; exact rfl; exact rfl; omega))) | (apply R.isCall; (apply R.pure; exact rfl; (apply Ok1.lenS; (iterate 3 exact rfl)))) | (apply R.pure; exact rfl; first | (apply Ok1.move; exact rfl) | (apply Ok1.assign; exact rfl))) | apply R.nil | (apply T.is; first | (apply T.drawC (id := 20) [0,1] (by decide); ((apply A.take 0; exact rfl; exact rfl; kernel_rfl; kernel_rfl; kernel_rfl; (apply Ok1.move; exact rfl)) <;> (apply A.take 1; exact rfl; exact rfl; kernel_rfl; kernel_rfl; kernel_rfl; (apply Ok1.move; exact rfl)) <;> (apply A.take 2; exact rfl; exact rfl; kernel_rfl; kernel_rfl; kernel_rfl; (apply Ok1.indexAddr; (iterate 5 exact rfl); omega; omega)) <;> (apply A.take 3; exact rfl; exact rfl; kernel_rfl; kernel_rfl; kernel_rfl; (apply Ok1.fieldAddr; (iterate 5 exact rfl))) <;> (apply A.take 4; exact rfl; exact rfl; kernel_rfl; kernel_rfl; kernel_rfl; (apply Ok1.fieldAddr; (iterate 5 exact rfl))) <;> (apply A.take 5; exact rfl; exact rfl; kernel_rfl; kernel_rfl; kernel_rfl; (apply Ok1.load; exact rfl; (apply Ld.ownrow1 (f := 0); exact At.head; exact SE.v_len; exact hx; (focus ((simp; done))); (iterate 3 exact rfl)))) <;> (apply A.take 6; exact rfl; exact rfl; kernel_rfl; kernel_rfl; kernel_rfl; (apply Ok1.fieldAddr; (iterate 5 exact rfl))) <;> (apply A.take 7; exact rfl; exact rfl; kernel_rfl; kernel_rfl; kernel_rfl; (apply Ok1.load; exact rfl; (apply Ld.own1; exact rfl; exact rfl; (focus ((repeat' (first | exact At.head | apply At.tail)); done)); exact rfl))) <;> ((apply A.take 8; exact rfl; exact rfl; kernel_rfl; kernel_rfl; kernel_rfl; (apply Ok1.neq_f; exact rfl; exact rfl; omega))) <;> (apply A.done; kernel_rfl))) | apply T.seq | apply T.region | apply T.block | apply T.skip | (apply T.cond_t; exact rfl) | (apply T.cond_f; exact rfl)))
              refine ⟨(j + 1, ovF), ?_⟩
              simp only [hsn]
              exact ⟨⟨by omega, hovF⟩, by omega, ⟨rfl, rfl, rfl, rfl, rfl, rfl, rfl, rfl, rfl, rfl, rfl, rfl, trivial⟩, by (focus ((repeat' (first | exact Ext.one _ _ | exact Ext.here _ _ | exact Ext.all _ | apply Keep.cons | apply Keep.app | apply Keep.last)); done))⟩
            · have hpf : p x = true := by rw [hpx]; exact decide_eq_true hxo
              rw [hpf, if_pos rfl] at hsn
              generalize (es.take j).filter p = Z at *
              repeat' (first | (apply R.is1; first | (apply R.isBin; (apply R.pure; exact rfl; first | (apply Ok1.add64; exact rfl; exact rfl; omega; omega) | (apply Ok1.lss_t; exact rfl; exact rfl; omega))) | (apply R.isCall; first | (apply R.appendRd (xs := [x]) (v := SE.v) (sz := 6) (ov := ovF) (n := Z.length) (old := fl SE.v Z); (iterate 12 exact rfl); exact hovF; (focus ((repeat' (first | exact Ext.here _ _ | apply Ext.cons | apply Ext.app)); done)); exact rfl; exact SE.v_len; exact rfl; (intro w1 hw1; exact RdSl.of (junk := []) hw1 (by exact At.head) (by simp [fl, SE.v])); (exact flE_all _); omega; intro ov1 hov1 hsome1) | (apply R.pure; exact rfl; (apply Ok1.lenS; (iterate 3 exact rfl)))) | (apply R.pure; exact rfl; first | (apply Ok1.load; exact rfl; (apply Ld.ownrowk (f := 0) (us := x.v); exact At.head; exact SE.v_len; exact hx; (focus ((simp; done))); exact rfl; exact rfl; exact SE.sub9 _)) | (apply Ok1.move; exact rfl) | (apply Ok1.assign; exact rfl) | (apply Ok1.indexAddr; (iterate 5 exact rfl); omega; omega)) | (apply R.buildSlice; (iterate 12 exact rfl); intro)) | apply R.nil | (apply T.is; first | (apply T.drawC (id := 20) [0,1] (by decide); ((apply A.take 0; exact rfl; exact rfl; kernel_rfl; kernel_rfl; kernel_rfl; (apply Ok1.move; exact rfl)) <;> (apply A.take 1; exact rfl; exact rfl; kernel_rfl; kernel_rfl; kernel_rfl; (apply Ok1.move; exact rfl)) <;> (apply A.take 2; exact rfl; exact rfl; kernel_rfl; kernel_rfl; kernel_rfl; (apply Ok1.indexAddr; (iterate 5 exact rfl); omega; omega)) <;> (apply A.take 3; exact rfl; exact rfl; kernel_rfl; kernel_rfl; kernel_rfl; (apply Ok1.fieldAddr; (iterate 5 exact rfl))) <;> (apply A.take 4; exact rfl; exact rfl; kernel_rfl; kernel_rfl; kernel_rfl; (apply Ok1.fieldAddr; (iterate 5 exact rfl))) <;> (apply A.take 5; exact rfl; exact rfl; kernel_rfl; kernel_rfl; kernel_rfl; (apply Ok1.load; exact rfl; (apply Ld.ownrow1 (f := 0); exact At.head; exact SE.v_len; exact hx; (focus ((simp; done))); (iterate 3 exact rfl)))) <;> (apply A.take 6; exact rfl; exact rfl; kernel_rfl; kernel_rfl; kernel_rfl; (apply Ok1.fieldAddr; (iterate 5 exact rfl))) <;> (apply A.take 7; exact rfl; exact rfl; kernel_rfl; kernel_rfl; kernel_rfl; (apply Ok1.load; exact rfl; (apply Ld.own1; exact rfl; exact rfl; (focus ((repeat' (first | exact At.head | apply At.tail)); done)); exact rfl))) <;> ((apply A.take 8; exact rfl; exact rfl; kernel_rfl; kernel_rfl; kernel_rfl; (apply Ok1.neq_t; exact rfl; exact rfl; omega))) <;> (apply A.done; kernel_rfl))) | apply T.seq | apply T.region | apply T.block | apply T.skip | (apply T.cond_t; exact rfl)))
              rw [← fl_app] at hov1
              rw [← fl_app]
              refine ⟨(j + 1, ov1), ?_⟩
              simp only [hsn, List.length_append, List.length_singleton]
              exact ⟨⟨by omega, hov1⟩, by omega, ⟨rfl, rfl, rfl, rfl, rfl, rfl, rfl, rfl, rfl, rfl, rfl, rfl, trivial⟩, by (focus ((repeat' (first | exact Ext.one _ _ | exact Ext.here _ _ | exact Ext.all _ | apply Keep.cons | apply Keep.app | apply Keep.last | apply Ext.cons | apply Ext.app)); done))⟩
          · have hjn : j = es.length := by omega
            subst hjn
            rw [List.take_length] at hovF ⊢
            repeat' (first | (apply R.is1; first | (apply R.isBin; (apply R.pure; exact rfl; (apply Ok1.lss_f; exact rfl; exact rfl; omega))) | (apply R.isCall; (apply R.pure; exact rfl; (apply Ok1.lenS; (iterate 3 exact rfl)))) | (apply R.pure; exact rfl; (apply Ok1.move; exact rfl))) | apply R.nil | (apply T.is; first | apply T.seq | apply T.region | apply T.exit | (apply T.cond_f; exact rfl)))
            exact ⟨ovF, hovF, ⟨rfl, rfl, rfl, rfl, rfl, rfl, rfl, rfl, rfl, rfl, trivial⟩, by (try simp only [List.cons_append, List.nil_append]); (focus ((repeat' (first | exact Ext.one _ _ | exact Ext.here _ _ | exact Ext.all _ | apply Keep.cons | apply Keep.app | apply Keep.last | apply Ext.cons)); done))⟩
      · intro ovF hovF
        rw [slV_eq hovF]
        repeat' (first | (apply R.is1; first | (apply R.isBin; (apply R.pure; exact rfl; first | (apply Ok1.sub64; exact rfl; exact rfl; omega; omega) | (apply Ok1.neq_f; exact rfl; exact rfl; omega))) | (apply R.isCall; first | (apply R.callE (Li := LS) (vs := [.pointer (some ⟨bs, 0, none⟩), .slice (some ⟨_, 0, none⟩) 2 2]); (iterate 3 exact rfl); (focus ((repeat' (first | exact Ext.here _ _ | apply Ext.cons | apply Ext.app)); done)); intro w1 hw1; exact hdr _ w1 (RdSl.of (junk := []) hw1 At.head rfl) (RdSl.off hw1 (by (focus ((repeat' (first | exact Ext.here _ _ | apply Ext.cons | apply Ext.app)); done))) List.mem_cons_self); rintro v Lo ⟨rfl, rfl⟩) | (apply R.pure; exact rfl; (apply Ok1.lenS; (iterate 3 exact rfl)))) | (apply R.pure; exact rfl; first | (apply Ok1.load; exact rfl; (apply Ld.own1; exact rfl; exact rfl; exact At.head; exact rfl)) | (apply Ok1.move; exact rfl) | (apply Ok1.fieldAddr; (iterate 5 exact rfl)) | (apply Ok1.assign; exact rfl)) | (apply R.buildSlice; (iterate 12 exact rfl); intro)) | apply R.nil | (apply T.is; first | apply T.seq | apply T.region | apply T.skip | (apply T.cond_f; exact rfl)))
        refine ⟨(D2, clk, ovF, es.filter p), ⟨hsd, hovF⟩, ?_, ?_⟩
        · rw [slV_eq hovF]; exact ⟨rfl, rfl, rfl, rfl, rfl, rfl, rfl, rfl, rfl, trivial⟩
        · refine Keep.trans9 (B := (b13, .cells ⟨[.int .i64 no, .int .i64 nr, .int .i64 nv, .slice (ovp ov13) ys.length (ovc ov13 ys.length)]⟩ 36 (0, 0)) :: (b8, .cells ⟨tv⟩ 34 (0, 0)) :: (LK ++ (L0 ++ (SL bs bm D2 clk ++ (blkL 91 ovF (fl SE.v (es.filter p)) ++ LD))))) (by (focus ((repeat' (first | exact Ext.one _ _ | exact Ext.here _ _ | exact Ext.all _ | apply Keep.cons | apply Keep.app | apply Keep.last | apply Ext.cons | apply Ext.app)); done))) ?_
          exact .cons (.one _ _) (.cons (.one _ _) (.app (.here _ _) (.app (.here _ _) (.app (.here _ _) (.app (.here _ _) hdx)))))
  · clear hLS hLE hLD hER hdve hdvf hesl hsim hov
    clear LS LE LD ms clk ov es
    rintro ⟨ms, clk, ov, es⟩ ⟨hsim, hov⟩
    simp only at hsim hov ⊢
    have hesl : es.length ≤ 64 := by rw [← hsim.len]; exact hsim.ok.few
    have hmsl := hsim.len
    repeat' (first | (apply R.is1; (apply R.pure; exact rfl; (apply Ok1.assign; exact rfl))) | apply R.nil | (apply T.is; first | (apply T.stop 50) | apply T.seq | apply T.region))
    refine ⟨?_⟩
    generalize hLS : SL bs bm ms clk = LS at *
    generalize hLD : DX es = LD at *
    refine T.meetK (x := .seq (.region 50 _ _) _) (α := Ov) (I := fun y => OvOk 4 y es.length (fl NE.v (es.map SE.ne))) (σi := fun y => [(0, .slice (ovp ov0) K.length (ovc ov0 K.length)), (1, .slice pl ls.length cl), (2, .int .i64 M), (7, .pointer (some ⟨bk, 0, none⟩)), (8, .pointer (some ⟨b8, 0, none⟩)), (9, .pointer (some ⟨bs, 0, none⟩)), (10, slV ov es.length), (11, .int .i64 i), (13, .pointer (some ⟨b13, 0, none⟩)), (27, slV y es.length)]) (Li := fun y => (b13, .cells ⟨[.int .i64 no, .int .i64 nr, .int .i64 nv, .slice (ovp ov13) ys.length (ovc ov13 ys.length)]⟩ 36 (0, 0)) :: (b8, .cells ⟨tv⟩ 34 (0, 0)) :: (LK ++ (L0 ++ (LS ++ (blkL 91 ov (fl SE.v es) ++ (LD ++ blkL 26 y (fl NE.v (es.map SE.ne)))))))) ?_ ?_
    · by_cases h0 : es.length = 0
      · obtain rfl := List.eq_nil_of_length_eq_zero h0
        have hzz : (([] : List SE).length : Int) = 0 := rfl
        repeat' (first | (apply R.is1; first | (apply R.isBin; (apply R.pure; exact rfl; (apply Ok1.lss_f; exact rfl; exact rfl; omega))) | (apply R.isCall; (apply R.pure; exact rfl; apply Ok1.lenOv; (iterate 3 exact rfl); exact hov)) | (apply R.pure; exact rfl; first | (apply Ok1.move; exact rfl) | (apply Ok1.assign; exact rfl))) | apply R.nil | (apply T.is; first | (apply T.rounds 1) | apply T.seq | apply T.region | apply T.block | apply T.exit | (apply T.cond_f; exact rfl)))
        refine ⟨none, OvOk.start 4, ⟨rfl, rfl, rfl, rfl, rfl, rfl, rfl, rfl, rfl, rfl, trivial⟩, ?_⟩
        simp only [blkL, List.append_nil]
        (focus ((repeat' (first | exact Ext.one _ _ | exact Ext.here _ _ | exact Ext.all _ | apply Keep.cons | apply Keep.app | apply Keep.last)); done))
      obtain ⟨be, je, ke, rfl⟩ := ovsome hov (by omega)
      simp only [slV, blkL]
      repeat' (first | (apply R.is1; (apply R.pure; exact rfl; (apply Ok1.assign; exact rfl))) | apply R.nil | (apply T.is; first | apply T.seq | apply T.region | apply T.block))
      apply T.loopK (α := Nat × Ov) (I := fun y => y.1 ≤ es.length ∧ OvOk 4 y.2 y.1 (fl NE.v ((es.map SE.ne).take y.1))) (σi := fun y => [(0, .slice (ovp ov0) K.length (ovc ov0 K.length)), (1, .slice pl ls.length cl), (2, .int .i64 M), (7, .pointer (some ⟨bk, 0, none⟩)), (8, .pointer (some ⟨b8, 0, none⟩)), (9, .pointer (some ⟨bs, 0, none⟩)), (10, .slice (some ⟨be, 0, none⟩) es.length (es.length + je)), (11, .int .i64 i), (13, .pointer (some ⟨b13, 0, none⟩)), (27, slV y.2 y.1), (28, .int .i64 y.1)]) (Li := fun y => (be, .cells ⟨fl SE.v es ++ ke⟩ 91 (0, 0)) :: (b13, .cells ⟨[.int .i64 no, .int .i64 nr, .int .i64 nv, .slice (ovp ov13) ys.length (ovc ov13 ys.length)]⟩ 36 (0, 0)) :: (b8, .cells ⟨tv⟩ 34 (0, 0)) :: (LK ++ (L0 ++ (LS ++ (LD ++ blkL 26 y.2 (fl NE.v ((es.map SE.ne).take y.1))))))) (μ := fun y => es.length - y.1) (i0 := (0, none))
      · exact ⟨Nat.zero_le _, OvOk.start 4⟩
      · exact ⟨rfl, rfl, rfl, rfl, rfl, rfl, rfl, rfl, rfl, rfl, rfl, trivial⟩
      · simp only [blkL, List.append_nil]
        (focus ((repeat' (first | exact Ext.one _ _ | exact Ext.here _ _ | exact Ext.all _ | apply Keep.cons | apply Keep.app | apply Keep.last | apply Ext.cons | apply Ext.app)); done))
      · rintro ⟨j, ov9⟩ ⟨hj, hov9⟩
        simp only at hj hov9 ⊢
        rcases Nat.lt_or_ge j es.length with hlt | hge
        · obtain ⟨x, hx⟩ : ∃ x, es[j]? = some x := ⟨_, List.getElem?_eq_getElem (by omega)⟩
          have hx9 : (es.map SE.ne)[j]? = some x.ne := by rw [List.getElem?_map, hx]; rfl
          have hft := fl_take (v := NE.v) hx9
          have hf1 : fl NE.v [x.ne] = x.ne.v := by simp [fl]
          repeat' (first | (apply R.is1; first | (apply R.isBin; (apply R.pure; exact rfl; first | (apply Ok1.add64; exact rfl; exact rfl; omega; omega) | (apply Ok1.lss_t; exact rfl; exact rfl; omega))) | (apply R.isCall; first | (apply R.appendRd (xs := [x.ne]) (v := NE.v) (sz := 4) (ov := ov9) (n := j) (old := fl NE.v ((es.map SE.ne).take j)); (iterate 12 exact rfl); exact hov9; (focus ((repeat' (first | exact Ext.all _ | apply Ext.cons | apply Ext.app)); done)); exact rfl; exact NE.v_len; exact rfl; (intro w1 hw1; exact RdSl.of (junk := []) hw1 (by exact At.head) (by simp [fl, NE.v, SE.ne])); (exact fl1N_all _); omega; intro ov1 hov1 hsome1) | (apply R.pure; exact rfl; (apply Ok1.lenS; (iterate 3 exact rfl)))) | (apply R.pure; exact rfl; first | (apply Ok1.load; exact rfl; (apply Ld.ownrowk (f := 0) (us := x.ne.v); exact At.head; exact SE.v_len; exact hx; (focus ((simp; done))); (iterate 3 exact rfl))) | (apply Ok1.move; exact rfl) | (apply Ok1.fieldAddr; (iterate 5 exact rfl)) | (apply Ok1.assign; exact rfl) | (apply Ok1.indexAddr; (iterate 5 exact rfl); omega; omega)) | (apply R.buildSlice; (iterate 12 exact rfl); intro)) | apply R.nil | (apply T.is; first | apply T.seq | apply T.region | apply T.block | apply T.skip | (apply T.cond_t; exact rfl)))
          rw [hf1, ← hft] at hov1
          rw [hf1, ← hft]
          exact ⟨(j + 1, ov1), ⟨by simp only; omega, hov1⟩, by simp only; omega, ⟨rfl, rfl, rfl, rfl, rfl, rfl, rfl, rfl, rfl, rfl, rfl, trivial⟩, by (focus ((repeat' (first | exact Ext.one _ _ | exact Ext.here _ _ | apply Keep.cons | apply Keep.app | apply Keep.last | apply Ext.cons | apply Ext.app)); done))⟩
        · have hjn : j = es.length := by omega
          subst hjn
          rw [List.take_of_length_le (by rw [List.length_map]; exact Nat.le_refl _)] at hov9 ⊢
          repeat' (first | (apply R.is1; first | (apply R.isBin; (apply R.pure; exact rfl; (apply Ok1.lss_f; exact rfl; exact rfl; omega))) | (apply R.isCall; (apply R.pure; exact rfl; (apply Ok1.lenS; (iterate 3 exact rfl)))) | (apply R.pure; exact rfl; (apply Ok1.move; exact rfl))) | apply R.nil | (apply T.is; first | apply T.seq | apply T.region | apply T.exit | (apply T.cond_f; exact rfl)))
          refine ⟨ov9, hov9, ⟨rfl, rfl, rfl, rfl, rfl, rfl, rfl, rfl, rfl, rfl, trivial⟩, ?_⟩
          (try simp only [List.cons_append, List.nil_append])
          (focus ((repeat' (first | exact Ext.one _ _ | exact Ext.here _ _ | exact Ext.all _ | apply Keep.cons | apply Keep.app | apply Keep.last | apply Ext.cons)); done))
    · intro ov9 hov9
      have hER : ∀ {L : Lst} {w1 : World}, Hp w [] L w1 → (∀ z ∈ blkL 91 ov (fl SE.v es), z ∈ L) → RdSl w1 (ovp ov) SE.v es := fun h1 h2 => RdSl.own' h1 h2 hov SE.v_len
      have hln := fun w1 => stlen_ok bs bm ms clk w1
      have hve := fun w1 => stver_ok bs bm ms clk no nr w1
      have hal := fun w1 => stall_ok bs bm ms clk hsim.ok w1
      have hrd := fun w1 => stread_ok bs bm ms clk hsim.ok M w1
      have hdv := fun q c w1 h1 => vversion_ok q es.length c es rfl (by omega) no nr w1 h1
      have hdr := fun w1 h1 => vread_ok (ovp ov) es.length (ovc ov es.length) es rfl hesl hsim.rt hsim.vok M hM0 w1 h1
      rw [show dver (no, nr) es = verI ms (no, nr) from (hsim.ver (no, nr)).symm] at hdv
      have hsl := fun (rs : List SE) (hp : rs.Perm (ms.map (·.2.1))) => by have := hp.length_eq; rw [List.length_map] at this; exact this
      rw [hLS] at hln hve hal hrd
      generalize verI ms (no, nr) = vv at *
      rw [slV_eq hov, slV_eq hov9]
      generalize hLE : blkL 91 ov (fl SE.v es) = LE at *
      repeat' (first | (apply R.is1; first | (apply R.isBin; (apply R.pure; exact rfl; (apply Ok1.add64; exact rfl; exact rfl; omega; omega))) | (apply R.pure; exact rfl; first | (apply Ok1.move; exact rfl) | (apply Ok1.assign; exact rfl))) | apply R.nil | (apply T.is; first | (apply T.drawC (id := 54) [0] (by decide); (((apply A.take 0; exact rfl; exact rfl; kernel_rfl; kernel_rfl; kernel_rfl; (apply Ok1.move; exact rfl)); refine A.cast (listed' := #[true, false, false, false, false, false, false, false, false, false, false, false, false, false, false, false, false, false, false, false, false, false, false, false, false, false, false, false, false, false, false, false, false, false, false, false, false, false, false]) (by kernel_rfl) ?_) <;> ((apply A.take 2; exact rfl; exact rfl; kernel_rfl; kernel_rfl; kernel_rfl; (apply Ok1.move; exact rfl)); refine A.cast (listed' := #[true, false, true, false, false, false, false, false, false, false, false, false, false, false, false, false, false, false, false, false, false, false, false, false, false, false, false, false, false, false, false, false, false, false, false, false, false, false, false]) (by kernel_rfl) ?_) <;> ((apply A.take 3; exact rfl; exact rfl; kernel_rfl; kernel_rfl; kernel_rfl; (apply Ok1.lenS; (iterate 3 exact rfl))); refine A.cast (listed' := #[true, false, true, true, false, false, false, false, false, false, false, false, false, false, false, false, false, false, false, false, false, false, false, false, false, false, false, false, false, false, false, false, false, false, false, false, false, false, false]) (by kernel_rfl) ?_) <;> (apply A.one 1; kernel_rfl; exact rfl; (((apply R.callE (Li := LS) (vs := [.pointer (some ⟨bs, 0, none⟩)]); (iterate 3 exact rfl); (focus ((repeat' (first | exact Ext.here _ _ | apply Ext.cons | apply Ext.app)); done)); intro w1 hw1; exact hln w1; rintro v Lo ⟨rfl, hq⟩; rw [hq]; clear hq))); apply R.nil; refine ⟨?_, ?_⟩; (focus ((repeat' (first | exact trivial | (refine ⟨?_, ?_⟩; (focus ((repeat' (first | exact At.head | apply At.right)); done)))))))) <;> (((apply A.take 4; exact rfl; exact rfl; kernel_rfl; kernel_rfl; kernel_rfl; (apply Ok1.neq_f; exact rfl; exact rfl; omega))); refine A.cast (listed' := #[true, true, true, true, true, false, false, false, false, false, false, false, false, false, false, false, false, false, false, false, false, false, false, false, false, false, false, false, false, false, false, false, false, false, false, false, false, false, false]) (by kernel_rfl) ?_) <;> ((apply A.take 5; exact rfl; exact rfl; kernel_rfl; kernel_rfl; kernel_rfl; (apply Ok1.move; exact rfl)); refine A.cast (listed' := #[true, true, true, true, true, true, false, false, false, false, false, false, false, false, false, false, false, false, false, false, false, false, false, false, false, false, false, false, false, false, false, false, false, false, false, false, false, false, false]) (by kernel_rfl) ?_) <;> (((apply A.takeG 6; exact rfl; exact rfl; rotate_left 3; exact rfl; exact rfl; rotate_right 3; kernel_rfl; kernel_rfl; kernel_rfl; (apply Ok1.move; exact rfl))); refine A.cast (listed' := #[true, true, true, true, true, true, true, false, false, false, false, false, false, false, false, false, false, false, false, false, false, false, false, false, false, false, false, false, false, false, false, false, false, false, false, false, false, false, false]) (by kernel_rfl) ?_) <;> (((apply A.takeG 7; exact rfl; exact rfl; rotate_left 3; exact rfl; exact rfl; rotate_right 3; kernel_rfl; kernel_rfl; kernel_rfl; (apply Ok1.fieldAddr; (iterate 5 exact rfl)))); refine A.cast (listed' := #[true, true, true, true, true, true, true, true, false, false, false, false, false, false, false, false, false, false, false, false, false, false, false, false, false, false, false, false, false, false, false, false, false, false, false, false, false, false, false]) (by kernel_rfl) ?_) <;> (((apply A.takeG 8; exact rfl; exact rfl; rotate_left 3; exact rfl; exact rfl; rotate_right 3; kernel_rfl; kernel_rfl; kernel_rfl; (apply Ok1.load; exact rfl; (apply Ld.own1; exact rfl; exact rfl; exact At.head; exact rfl)))); refine A.cast (listed' := #[true, true, true, true, true, true, true, true, true, false, false, false, false, false, false, false, false, false, false, false, false, false, false, false, false, false, false, false, false, false, false, false, false, false, false, false, false, false, false]) (by kernel_rfl) ?_) <;> (((apply A.takeG 9; exact rfl; exact rfl; rotate_left 3; exact rfl; exact rfl; rotate_right 3; kernel_rfl; kernel_rfl; kernel_rfl; (apply Ok1.fieldAddr; (iterate 5 exact rfl)))); refine A.cast (listed' := #[true, true, true, true, true, true, true, true, true, true, false, false, false, false, false, false, false, false, false, false, false, false, false, false, false, false, false, false, false, false, false, false, false, false, false, false, false, false, false]) (by kernel_rfl) ?_) <;> (((apply A.takeG 10; exact rfl; exact rfl; rotate_left 3; exact rfl; exact rfl; rotate_right 3; kernel_rfl; kernel_rfl; kernel_rfl; (apply Ok1.load; exact rfl; (apply Ld.own1; exact rfl; exact rfl; exact At.head; exact rfl)))); refine A.cast (listed' := #[true, true, true, true, true, true, true, true, true, true, true, false, false, false, false, false, false, false, false, false, false, false, false, false, false, false, false, false, false, false, false, false, false, false, false, false, false, false, false]) (by kernel_rfl) ?_) <;> (((apply A.takeG 12; exact rfl; exact rfl; rotate_left 3; exact rfl; exact rfl; rotate_right 3; kernel_rfl; kernel_rfl; kernel_rfl; (apply Ok1.move; exact rfl))); refine A.cast (listed' := #[true, true, true, true, true, true, true, true, true, true, true, false, true, false, false, false, false, false, false, false, false, false, false, false, false, false, false, false, false, false, false, false, false, false, false, false, false, false, false]) (by kernel_rfl) ?_) <;> (((apply A.takeG 13; exact rfl; exact rfl; rotate_left 3; exact rfl; exact rfl; rotate_right 3; kernel_rfl; kernel_rfl; kernel_rfl; (apply Ok1.fieldAddr; (iterate 5 exact rfl)))); refine A.cast (listed' := #[true, true, true, true, true, true, true, true, true, true, true, false, true, true, false, false, false, false, false, false, false, false, false, false, false, false, false, false, false, false, false, false, false, false, false, false, false, false, false]) (by kernel_rfl) ?_) <;> (((apply A.takeG 14; exact rfl; exact rfl; rotate_left 3; exact rfl; exact rfl; rotate_right 3; kernel_rfl; kernel_rfl; kernel_rfl; (apply Ok1.load; exact rfl; (apply Ld.own1; exact rfl; exact rfl; exact At.head; exact rfl)))); refine A.cast (listed' := #[true, true, true, true, true, true, true, true, true, true, true, false, true, true, true, false, false, false, false, false, false, false, false, false, false, false, false, false, false, false, false, false, false, false, false, false, false, false, false]) (by kernel_rfl) ?_) <;> (((apply A.takeG 15; exact rfl; exact rfl; rotate_left 3; exact rfl; exact rfl; rotate_right 3; kernel_rfl; kernel_rfl; kernel_rfl; (apply Ok1.fieldAddr; (iterate 5 exact rfl)))); refine A.cast (listed' := #[true, true, true, true, true, true, true, true, true, true, true, false, true, true, true, true, false, false, false, false, false, false, false, false, false, false, false, false, false, false, false, false, false, false, false, false, false, false, false]) (by kernel_rfl) ?_) <;> (((apply A.takeG 16; exact rfl; exact rfl; rotate_left 3; exact rfl; exact rfl; rotate_right 3; kernel_rfl; kernel_rfl; kernel_rfl; (apply Ok1.load; exact rfl; (apply Ld.own1; exact rfl; exact rfl; exact At.head; exact rfl)))); refine A.cast (listed' := #[true, true, true, true, true, true, true, true, true, true, true, false, true, true, true, true, true, false, false, false, false, false, false, false, false, false, false, false, false, false, false, false, false, false, false, false, false, false, false]) (by kernel_rfl) ?_) <;> (apply A.one 11; kernel_rfl; exact rfl; (((apply R.isG; apply R.guard_run; exact rfl; exact rfl; ((apply R.callE (Li := LS) (vs := [.pointer (some ⟨bs, 0, none⟩), .int .i64 no, .int .i64 nr]); (iterate 3 exact rfl); (focus ((repeat' (exact Ext.here _ _)); done)); intro w1 hw1; exact hve w1; rintro v Lo ⟨rfl, hq⟩; rw [hq]; clear hq))))); apply R.nil; refine ⟨?_, ?_⟩; (focus ((repeat' (first | exact trivial | (refine ⟨?_, ?_⟩; (focus ((repeat' (first | exact At.head | apply At.right)); done)))))))) <;> (apply A.one 17; kernel_rfl; exact rfl; (((apply R.isG; apply R.guard_run; exact rfl; exact rfl; ((apply R.callW (vs := [.slice (ovp ov) es.length (ovc ov es.length), .int .i64 no, .int .i64 nr]); (iterate 3 exact rfl); (intro w1 hw1; exact hdv _ _ w1 (hER hw1 (Ext.mem (by (focus ((repeat' (first | exact Ext.here _ _ | apply Ext.cons | apply Ext.app)); done)))))); rintro v rfl))))); apply R.nil; refine ⟨?_, ?_⟩; (focus ((repeat' (first | exact trivial | (refine ⟨?_, ?_⟩; (focus ((repeat' (first | exact At.head | apply At.right)); done)))))))) <;> (((apply A.takeG 18; exact rfl; exact rfl; rotate_left 3; exact rfl; exact rfl; rotate_right 3; kernel_rfl; kernel_rfl; kernel_rfl; (apply Ok1.neq_f; exact rfl; exact rfl; omega))); refine A.cast (listed' := #[true, true, true, true, true, true, true, true, true, true, true, true, true, true, true, true, true, true, true, false, false, false, false, false, false, false, false, false, false, false, false, false, false, false, false, false, false, false, false]) (by kernel_rfl) ?_) <;> ((apply A.take 19; exact rfl; exact rfl; kernel_rfl; kernel_rfl; kernel_rfl; (apply Ok1.pick_f; exact rfl; exact rfl)); refine A.cast (listed' := #[true, true, true, true, true, true, true, true, true, true, true, true, true, true, true, true, true, true, true, true, false, false, false, false, false, false, false, false, false, false, false, false, false, false, false, false, false, false, false]) (by kernel_rfl) ?_) <;> ((apply A.take 20; exact rfl; exact rfl; kernel_rfl; kernel_rfl; kernel_rfl; (apply Ok1.move; exact rfl)); refine A.cast (listed' := #[true, true, true, true, true, true, true, true, true, true, true, true, true, true, true, true, true, true, true, true, true, false, false, false, false, false, false, false, false, false, false, false, false, false, false, false, false, false, false]) (by kernel_rfl) ?_) <;> (((apply A.takeG 21; exact rfl; exact rfl; rotate_left 3; exact rfl; exact rfl; rotate_right 3; kernel_rfl; kernel_rfl; kernel_rfl; (apply Ok1.move; exact rfl))); refine A.cast (listed' := #[true, true, true, true, true, true, true, true, true, true, true, true, true, true, true, true, true, true, true, true, true, true, false, false, false, false, false, false, false, false, false, false, false, false, false, false, false, false, false]) (by kernel_rfl) ?_) <;> (((apply A.takeG 24; exact rfl; exact rfl; rotate_left 3; exact rfl; exact rfl; rotate_right 3; kernel_rfl; kernel_rfl; kernel_rfl; (apply Ok1.move; exact rfl))); refine A.cast (listed' := #[true, true, true, true, true, true, true, true, true, true, true, true, true, true, true, true, true, true, true, true, true, true, false, false, true, false, false, false, false, false, false, false, false, false, false, false, false, false, false]) (by kernel_rfl) ?_) <;> (apply A.one 22; kernel_rfl; exact rfl; (((apply R.isG; apply R.guard_run; exact rfl; exact rfl; ((apply R.callE (Li := LS) (vs := [.pointer (some ⟨bs, 0, none⟩)]); (iterate 3 exact rfl); (focus ((repeat' (exact Ext.here _ _)); done)); intro w1 hw1; exact hal w1; rintro v Lo ⟨rsx, ovx, nsx, hpx, hax, hovx, hnx, hsx, rfl, rfl⟩; rw [List.append_assoc, List.append_assoc, slV_eq hovx]))))); apply R.nil; refine ⟨?_, ?_⟩; (focus ((repeat' (first | exact trivial | (refine ⟨?_, ?_⟩; (focus ((repeat' (first | exact At.head | apply At.right)); done)))))))) <;> (apply A.one 23; kernel_rfl; exact rfl; (((apply R.isG; apply R.guard_run; exact rfl; exact rfl; ((apply R.callE (vs := [.slice (ovp ovx) nsx.length (ovc ovx nsx.length)]); (iterate 3 exact rfl); exact Ext.none _; intro w1 hw1; exact of26_ok _ nsx.length _ (nsx.map NE.nt) (List.length_map _).symm (by rw [List.length_map, (alN_len hsim.ok hpx hsx).1]; have := hsim.ok.few; omega) w1 (nt_rd (e := 38) rfl hovx hnx hw1 (Ext.mem (by (focus ((repeat' (exact Ext.here _ _)); done))))); rintro v Lo ⟨ovx2, hovx2, rfl, rfl⟩; rw [slV_eq hovx2]))))); apply R.nil; refine ⟨?_, ?_⟩; (focus ((repeat' (first | exact trivial | (refine ⟨?_, ?_⟩; (focus ((repeat' (first | exact At.head | apply At.right)); done)))))))) <;> (apply A.one 25; kernel_rfl; exact rfl; (((apply R.isG; apply R.guard_run; exact rfl; exact rfl; ((apply R.callW (vs := [.slice (ovp ovx2) nsx.length (ovc ovx2 nsx.length), .slice (ovp ov9) es.length (ovc ov9 es.length)]); (iterate 3 exact rfl); (intro w1 hw1; exact pl_sealed hsim hpx hax hnx hsx hovx2 hov9 hw1 (Ext.mem (by (focus ((repeat' (exact Ext.here _ _)); done)))) (Ext.mem (by (focus ((repeat' (first | exact Ext.all _ | apply Ext.cons | apply Ext.app)); done)))) (Ext.mem (by (focus ((repeat' (first | exact Ext.here _ _ | apply Ext.app)); done)))) (by rw [hLD]; exact Ext.mem (by (focus ((repeat' (first | exact Ext.here _ _ | apply Ext.cons | apply Ext.app)); done))))); rintro v rfl))))); apply R.nil; refine ⟨?_, ?_⟩; (focus ((repeat' (first | exact trivial | (refine ⟨?_, ?_⟩; (focus ((repeat' (first | exact At.head | apply At.right)); done)))))))) <;> (((apply A.takeG 26; exact rfl; exact rfl; rotate_left 3; exact rfl; exact rfl; rotate_right 3; kernel_rfl; kernel_rfl; kernel_rfl; (apply Ok1.not_t; exact rfl))); refine A.cast (listed' := #[true, true, true, true, true, true, true, true, true, true, true, true, true, true, true, true, true, true, true, true, true, true, true, true, true, true, true, false, false, false, false, false, false, false, false, false, false, false, false]) (by kernel_rfl) ?_) <;> ((apply A.take 27; exact rfl; exact rfl; kernel_rfl; kernel_rfl; kernel_rfl; (apply Ok1.pick_f; exact rfl; exact rfl)); refine A.cast (listed' := #[true, true, true, true, true, true, true, true, true, true, true, true, true, true, true, true, true, true, true, true, true, true, true, true, true, true, true, true, false, false, false, false, false, false, false, false, false, false, false]) (by kernel_rfl) ?_) <;> ((apply A.take 28; exact rfl; exact rfl; kernel_rfl; kernel_rfl; kernel_rfl; (apply Ok1.move; exact rfl)); refine A.cast (listed' := #[true, true, true, true, true, true, true, true, true, true, true, true, true, true, true, true, true, true, true, true, true, true, true, true, true, true, true, true, true, false, false, false, false, false, false, false, false, false, false]) (by kernel_rfl) ?_) <;> (((apply A.takeG 29; exact rfl; exact rfl; rotate_left 3; exact rfl; exact rfl; rotate_right 3; kernel_rfl; kernel_rfl; kernel_rfl; (apply Ok1.move; exact rfl))); refine A.cast (listed' := #[true, true, true, true, true, true, true, true, true, true, true, true, true, true, true, true, true, true, true, true, true, true, true, true, true, true, true, true, true, true, false, false, false, false, false, false, false, false, false]) (by kernel_rfl) ?_) <;> (((apply A.takeG 30; exact rfl; exact rfl; rotate_left 3; exact rfl; exact rfl; rotate_right 3; kernel_rfl; kernel_rfl; kernel_rfl; (apply Ok1.move; exact rfl))); refine A.cast (listed' := #[true, true, true, true, true, true, true, true, true, true, true, true, true, true, true, true, true, true, true, true, true, true, true, true, true, true, true, true, true, true, true, false, false, false, false, false, false, false, false]) (by kernel_rfl) ?_) <;> (((apply A.takeG 33; exact rfl; exact rfl; rotate_left 3; exact rfl; exact rfl; rotate_right 3; kernel_rfl; kernel_rfl; kernel_rfl; (apply Ok1.move; exact rfl))); refine A.cast (listed' := #[true, true, true, true, true, true, true, true, true, true, true, true, true, true, true, true, true, true, true, true, true, true, true, true, true, true, true, true, true, true, true, false, false, true, false, false, false, false, false]) (by kernel_rfl) ?_) <;> (((apply A.takeG 34; exact rfl; exact rfl; rotate_left 3; exact rfl; exact rfl; rotate_right 3; kernel_rfl; kernel_rfl; kernel_rfl; (apply Ok1.move; exact rfl))); refine A.cast (listed' := #[true, true, true, true, true, true, true, true, true, true, true, true, true, true, true, true, true, true, true, true, true, true, true, true, true, true, true, true, true, true, true, false, false, true, true, false, false, false, false]) (by kernel_rfl) ?_) <;> (apply A.one 31; kernel_rfl; exact rfl; (((apply R.isG; apply R.guard_run; exact rfl; exact rfl; ((apply R.callE (Li := LS) (vs := [.pointer (some ⟨bs, 0, none⟩), .int .i64 M]); (iterate 3 exact rfl); (focus ((repeat' (first | exact Ext.here _ _ | apply Ext.app)); done)); intro w1 hw1; exact hrd w1; rintro v Lo ⟨ra, ova, na, hpa, haa, hova, hna, hsa, rfl, rfl⟩; rw [List.append_assoc, List.append_assoc, slV_eq hova]))))); apply R.nil; refine ⟨?_, ?_⟩; (focus ((repeat' (first | exact trivial | (refine ⟨?_, ?_⟩; (focus ((repeat' (first | exact At.head | apply At.right)); done)))))))) <;> (apply A.one 32; kernel_rfl; exact rfl; (((apply R.isG; apply R.guard_run; exact rfl; exact rfl; ((apply R.callE (vs := [.slice (ovp ova) na.length (ovc ova na.length)]); (iterate 3 exact rfl); exact Ext.none _; intro w1 hw1; exact notes_ok _ na.length _ (na.map NE.nt) (List.length_map _).symm (by rw [List.length_map]; have := (rdN_len hsim.ok hpa hsa).1; omega) w1 (nt_rd (e := 36) rfl hova hna hw1 (Ext.mem (by (focus ((repeat' (exact Ext.here _ _)); done))))); rintro v Lo ⟨ovc1, hovc1, rfl, rfl⟩; rw [slV_eq hovc1]))))); apply R.nil; refine ⟨?_, ?_⟩; (focus ((repeat' (first | exact trivial | (refine ⟨?_, ?_⟩; (focus ((repeat' (first | exact At.head | apply At.right)); done)))))))) <;> (apply A.one 35; kernel_rfl; exact rfl; (((apply R.isG; apply R.guard_run; exact rfl; exact rfl; ((apply R.callE (vs := [.slice (ovp ov) es.length (ovc ov es.length), .int .i64 M]); (iterate 3 exact rfl); exact Ext.none _; intro w1 hw1; exact hdr w1 (hER hw1 (Ext.mem (by (focus ((repeat' (first | exact Ext.here _ _ | apply Ext.cons | apply Ext.app)); done))))); rintro v Lo ⟨ovd, hovd, rfl, rfl⟩; rw [slV_eq hovd]))))); apply R.nil; refine ⟨?_, ?_⟩; (focus ((repeat' (first | exact trivial | (refine ⟨?_, ?_⟩; (focus ((repeat' (first | exact At.head | apply At.right)); done)))))))) <;> (apply A.one 36; kernel_rfl; exact rfl; (((apply R.isG; apply R.guard_run; exact rfl; exact rfl; ((apply R.callW (vs := [.slice (ovp ovc1) na.length (ovc ovc1 na.length), .slice (ovp ovd) (rdT M es).length (ovc ovd (rdT M es).length)]); (iterate 3 exact rfl); (intro w1 hw1; exact pl_notes hsim hpa haa hna hsa hovc1 hovd hw1 (Ext.mem (by (focus ((repeat' (first | exact Ext.here _ _ | apply Ext.app)); done)))) (Ext.mem (by (focus ((repeat' (exact Ext.here _ _)); done)))) (Ext.mem (by (focus ((repeat' (first | exact Ext.here _ _ | apply Ext.app)); done)))) (by rw [hLD]; exact Ext.mem (by (focus ((repeat' (first | exact Ext.here _ _ | apply Ext.cons | apply Ext.app)); done))))); rintro v rfl))))); apply R.nil; refine ⟨?_, ?_⟩; (focus ((repeat' (first | exact trivial | (refine ⟨?_, ?_⟩; (focus ((repeat' (first | exact At.head | apply At.right)); done)))))))) <;> (((apply A.takeG 37; exact rfl; exact rfl; rotate_left 3; exact rfl; exact rfl; rotate_right 3; kernel_rfl; kernel_rfl; kernel_rfl; (apply Ok1.not_t; exact rfl))); refine A.cast (listed' := #[true, true, true, true, true, true, true, true, true, true, true, true, true, true, true, true, true, true, true, true, true, true, true, true, true, true, true, true, true, true, true, true, true, true, true, true, true, true, false]) (by kernel_rfl) ?_) <;> ((apply A.take 38; exact rfl; exact rfl; kernel_rfl; kernel_rfl; kernel_rfl; (apply Ok1.pick_f; exact rfl; exact rfl)); refine A.cast (listed' := #[true, true, true, true, true, true, true, true, true, true, true, true, true, true, true, true, true, true, true, true, true, true, true, true, true, true, true, true, true, true, true, true, true, true, true, true, true, true, true]) (by kernel_rfl) ?_) <;> (apply A.done; kernel_rfl))) | apply T.seq | apply T.region | apply T.skip | (apply T.cond_f; exact rfl)))
      all_goals refine ⟨(i + 1, ms, clk, ov, es), ⟨⟨by simp only; omega, by simp only; omega⟩, hsim, hov⟩, by simp only; omega, ?_, ?_⟩
      all_goals first
        | (rw [slV_eq hov]; exact ⟨rfl, rfl, rfl, rfl, rfl, rfl, rfl, rfl, trivial⟩)
        | (simp only [hLS, hLE, hLD]; (focus ((repeat' (first | exact Ext.one _ _ | exact Ext.here _ _ | apply Keep.cons | apply Keep.app | apply Keep.last | apply Ext.cons | apply Ext.app)); done)))
end Go.Proofs.YtligngjcnlbgmaaGreat
set_option linter.unusedSimpArgs false
set_option linter.unusedVariables false
namespace Go.Proofs.YtligngjcnlbgmaaGreat
open Go.ChangeShapes Go.WideShapes Go.ChangeAt Go.RowKit
theorem bool1_dec {cs : List Value} (h : allW [.bool] cs) : ∃ a : Bool, cs = [.bool a] := by
  match cs, h with
  | [.bool a], h => exact ⟨a, rfl⟩
theorem act26_opens {H : Type} {enc : TypeId × Value → H} {w : World} {base : Nat} {spare : Nat → Bool} {held : Bool} : Opens enc Tryz.prog w base spare held 86 fun cs => ∃ x : SAct, x.v = cs ∧ x.okR w := by
  have hi : Opens enc Tryz.prog w base spare held 3 fun cs => ∃ a : Int, cs = [.int .i64 a] := (Opens.flat (ks := [.int .i64]) tb rfl rfl rfl).mono fun cs h => int1_dec h
  have hb : Opens enc Tryz.prog w base spare held 4 fun cs => ∃ a : Bool, cs = [.bool a] := (Opens.flat (ks := [.bool]) tb rfl rfl rfl).mono fun cs h => bool1_dec h
  have h0 := Opens.field (enc := enc) (w := w) (base := base) (spare := spare) (held := held) tb (t := 86) rfl rfl 0 rfl hi
  have h1 := Opens.field (enc := enc) (w := w) (base := base) (spare := spare) (held := held) tb (t := 86) rfl rfl 1 rfl hb
  have h2 := Opens.field (enc := enc) (w := w) (base := base) (spare := spare) (held := held) tb (t := 86) rfl rfl 2 rfl nt_opens
  have h3 := Opens.field (enc := enc) (w := w) (base := base) (spare := spare) (held := held) tb (t := 86) rfl rfl 3 rfl st_opens
  refine (((h0.and h1).and h2).and h3).mono ?_
  rintro cs ⟨⟨⟨⟨hl, a, g0⟩, ⟨_, b, g1⟩⟩, ⟨_, n, g2, q2⟩⟩, ⟨_, s, g3, q3⟩⟩
  refine ⟨⟨a, b, n, s⟩, ?_, q2, q3⟩
  replace hl : cs.length = 10 := hl
  match cs, hl, g0, g1, g2, g3 with
  | [x0, x1, x2, x3, x4, x5, x6, x7, x8, x9], _, g0, g1, g2, g3 =>
    simp [NT.v] at g0 g1 g2 g3
    obtain ⟨e2, e3, e4, e5⟩ := g2
    obtain ⟨e6, e7, e8, e9⟩ := g3
    rw [g0, g1, ← e2, ← e3, ← e4, ← e5, ← e6, ← e7, ← e8, ← e9]
    rfl
end Go.Proofs.YtligngjcnlbgmaaGreat
